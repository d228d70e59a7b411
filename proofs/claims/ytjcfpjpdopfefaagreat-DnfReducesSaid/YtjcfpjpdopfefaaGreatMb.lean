/-
 The machine, models, walks, plain laws.
-/
import Derived.Test.YtjcfpjpdopfefaaGreatMa
import Derived.LoopNIn
import Derived.TacticsIn
import Derived.RangeFuncOwn
import Derived.RangeFuncRecord
import Derived.RangeFuncLeaves
namespace Go.Pm
open Go Go.RowKit
open Option renaming some->O,none->Z
open Bool renaming true->J,false->U
open List renaming length->I,map->Naa,replicate->Nab,range->Nad
set_option linter.all false
section
variable{P:fL}{X N:Nat}{w0:fK}{S0:Nat->Nat->Prop}{g:Gh}{H H':List fU}{w:fK}{p:PV}{o:Oper}{a:Act}{D:fO->PV}
def sE(P:fL)(X:Nat)(w0:fK)(S0:Nat->Nat->Prop)(H:List fU)(g:Gh)(w:fK)(o:Oper)(a:Act)(p:PV)(H':List fU):Prop:=
 Nah P o a X w0 S0 H g w p H'
theorem mX(c:∀cs b,o.op≠.select cs b)(d:Qu P g X (I H) H w)(hi:Inv X w0 S0 g w)(M:Nai g H w a D)(h:gZ P o D H=O (p,H')):
  sE P X w0 S0 H g w o a p H':=by
 obtain⟨v,e,f,rfl⟩:=Ei c M h;exact⟨v,g,w,e,.same d hi f⟩
theorem CE{b:Builtin}{args:Array Operand}{ts:Array TypeId}(r:o.op=.call {callee:=.builtin b,args,argTypes:=ts})(u:Qu P g X (I H) H w)(hi:Inv X w0 S0 g w)(M:Nai g H w a D)(h:gF P b ts (args.toList.map D) H=O (p,H')):sE P X w0 S0 H g w o a p H':=by
 unfold gF at h;split at h
 .rename_i x k
  obtain⟨y,rfl,rfl⟩:∃y,args=#[y]/\x=D y:=by
   obtain⟨l⟩:=args
   match l,k with
   |[y],k=>simp at k;exact⟨y,rfl,k.symm⟩
  split at h
  .rename_i e v;simp only[jK]at v;obtain⟨t,f,v⟩:=v;split at h
   .rename_i n hn;cases h;obtain⟨ad,cap,W⟩:=Ax (M y) hn;exact⟨.int .i64 n,g,w,.inl (by simp[execOp,r,resolve,invoke,builtin,Builtin.len_,f,run_underlying v,W,goInt]),.same u hi (.b7 _ _ (.raw _ rfl))⟩
   .cases h
  .rename_i kt et v;simp only[jK]at v;obtain⟨t,f,v⟩:=v;split at h
   .rename_i i F;split at h
    .rename_i es j;cases h;exact Gi r f v F j u hi M
    .cases h
   .cases h
  .cases h
 .rename_i tt gg lo len cap x k;obtain⟨s',R,rfl,c,rfl⟩:=tz k;replace c:=c.symm;split at h
  .rename_i t m f;split at h
   .rename_i e q;split at h
    .rename_i bytes es A j;split at h
     .rename_i hc;obtain⟨c1,c2,rfl,B⟩:=hc;have d:ts=#[m,m]:=by apply Array.ext';exact f
      subst d;exact ue r q c1 A B c2 c j h u hi M
     .split at h
      .rename_i hc;obtain⟨c1,rfl,rfl,B⟩:=hc;have d:ts=#[m,m]:=by apply Array.ext';exact f
       subst d;obtain rfl:es=[]:=by simpa using c1
       obtain⟨size,E⟩:=aC.1 B;cases h;exact vZ r q E c j u hi M
      .cases h
    .rename_i bytes A j;split at h
     .rename_i size E;split at h
      .rename_i hc;obtain⟨c2,rfl,B⟩:=hc;have d:ts=#[m,m]:=by apply Array.ext';exact f
       subst d;exact zt r q E A B c2 c h u hi M
      .cases h
     .cases h
    .cases h
   .cases h
  .cases h
 .rename_i i off es k;obtain⟨s',R,rfl,c,C⟩:=tz k;replace c:=c.symm;replace C:=C.symm;split at h
  .rename_i t m f;split at h
   .rename_i e q;split at h
    .rename_i bytes A;split at h
     .rename_i hc;obtain⟨c1,c2,rfl,B⟩:=hc;have d:ts=#[m,m]:=by apply Array.ext';exact f
      subst d;exact zp r q c1 A B c2 c C h u hi M
     .cases h
    .cases h
   .cases h
  .cases h
 .rename_i s x S Y T k;obtain⟨s',R,rfl,rfl,rfl⟩:=tz k;split at h
  .rename_i t m f;split at h
   .rename_i e q;split at h
    .rename_i size bytes es E A j;split at h
     .rename_i hc;obtain⟨c1,c2,rfl,B⟩:=hc;obtain⟨z,G,K⟩:=Option.map_eq_some_iff.1 B;have d:ts=#[m,m]:=by apply Array.ext';exact f
      subst d;unfold ud at h;split at h
      .rename_i L;split at h
       .rename_i t xs c;split at h
        .rename_i e'' n N;split at h
         .rename_i Q;obtain⟨d1,rfl,rfl,d4⟩:=Q;cases h;exact KK r q E A G K c1 c2 c j d1 L N rfl d4 u hi M
         .cases h
        .cases h
       .cases h
      .cases h
     .cases h
    .cases h
   .cases h
  .cases h
 .rename_i i off len cap k;obtain⟨s',rfl,c⟩:=DF k;replace c:=c.symm;split at h
  .rename_i t f;have d:ts=#[t]:=by apply Array.ext';exact f
   subst d;split at h
   .rename_i e q;split at h
    .rename_i z size cs G E A;split at h
     .rename_i hc;obtain⟨c1,c2,c3⟩:=hc;cases h;exact BL r q G c3 c A c1 c2 u hi M
     .cases h
    .cases h
   .cases h
  .cases h
 .rename_i k;obtain⟨s',rfl,c⟩:=DF k;replace c:=c.symm;split at h
  .rename_i t f;have d:ts=#[t]:=by apply Array.ext';exact f
   subst d;split at h
   .rename_i q;cases h;exact Cc r q c u hi M
   .cases h
  .cases h
 .cases h
theorem xj{op:BinOp}{t k:fN}{x y:fO}{b:Bool}{v:Addr}(c:(match P.underlying t with
   |some (.pointer _)=>match op with|.eql=>O U|.neq=>O J|_=>Z
   |_=>Z)=O b)(l:o.op=.binOp op t x y k)(f:a.eval x=.pointer (O v))(g:a.eval y=.pointer Z):(execOp a.eval o).run P w=.ok (.value (.bool b)) w:=by
 split at c
 .rename_i e m;have j:∀d,(Op.equalIn (d+1) t (.pointer (O v)) (.pointer Z)).run P w=.ok U w:=λd=>by simp[Op.equalIn,run_underlying m]
  have n:=j 9999;cases op<;>first|(cases c;done)|(cases c;simp only[execOp,l,f,g];simp[binOp,eqGuard,Op.equal,Op.maxDepth,n])
 .cases c
theorem Kf{op:BinOp}{t B:fN}{x y:fO}{b:Bool}(s:o.op=.binOp op t x y B)(M:Nai g H w a D)(e:Dp P op t (D x) (D y)=O b):
  (execOp a.eval o).run P w=.ok (.value (.bool b)) w:=by
 have j:=M x;have k:=M y;unfold Dp at e;split at e
 .rename_i f cap l m;rw[l]at j;rw[m]at k;have n:=k.e6 (u:=.nilFunc) rfl;generalize c:a.eval x=z at j;cases j with
  |fn f vs cs E F=>
   split at e
   .rename_i p q r C;have v:∀d,(Op.equalIn (d+1) t (.func (.func f) #[] vs) .nilFunc).run P w=.ok U w:=λd=>by simp[Op.equalIn,run_underlying C]
    have A:=v 9999;split at e
    .cases e;simp only[execOp,s,c,n];simp[binOp,eqGuard,Op.equal,Op.maxDepth,A]
    .cases e;simp only[execOp,s,c,n];simp[binOp,eqGuard,Op.equal,Op.maxDepth,A]
    .cases e
   .cases e
 .rename_i i G l m;rw[l]at j;rw[m]at k;generalize c:a.eval x=z at j;cases j with
  |ptr=>exact xj e s c (k.e6 (u:=.pointer Z) rfl)
 .rename_i cs l m;rw[l]at j;rw[m]at k;generalize c:a.eval x=z at j;cases j with
  |eI=>exact xj e s c (k.e6 (u:=.pointer Z) rfl)
 .cases e
theorem ym{t:fN}{x:fO}(e:o.op=.load t x)(f:Qu P g X (I H) H w)(hi:Inv X w0 S0 g w)(M:Nai g H w a D)(h:kR P t (D x) H=O (p,H')):sE P X w0 S0 H g w o a p H':=by
 unfold kR at h;split at h
 .rename_i y size k l;split at h
  .rename_i i off c;split at h
   .rename_i cs m;simp only[j5,jK]at h;obtain⟨q,⟨ds,hc,d⟩,h⟩:=h;cases h;exact EO e c m k l hc d f hi M
   .cases h
  .rename_i cs c;simp only[j5,jK]at h;obtain⟨q,⟨ds,hc,d⟩,h⟩:=h;cases h;exact Bz e c k l hc d f hi M
  .rename_i tt gg j c;split at h
   .rename_i te g' cs m;split at h
    .rename_i hc;obtain⟨rfl,n,r⟩:=hc;simp only[j5,jK]at h;obtain⟨q,⟨ds,hc,d⟩,h⟩:=h;cases h;exact Gp e c (ZO m) k l n (by simpa using r) hc d f hi M
    .split at h
     .rename_i hc;obtain⟨rfl,n,rfl,s,u⟩:=hc;simp only[j5]at h;obtain⟨q,v,h⟩:=h;cases h;exact EF e c (ZO m) k l n s u v f hi M
     .cases h
   .cases h
  .cases h
 .cases h
theorem KR{t:fN}{x:fO}{cs:List PV}{H1:List fU}{ds:List fS}(m:o.op=.load t x)(n:Qu P g X (I H) H w)(hi:Inv X w0 S0 g w)(M:Nai g H w a D)(h:kR P t (D x) H=O (.agg cs,H1))(hc:gy H1 cs=O (ds,H')):sE P X w0 S0 H g w o a (.b7 (.agg ds)) H':=by
 obtain⟨v,g1,p,f,e⟩:=ym m n hi M h;have k:=e.rep;cases k with
 |agg vs cs B q=>
  obtain⟨r,l2,s,k2,u,y,C,z⟩:=mW cs vs.toList g1 H1 ds H' e.heap e.inv (λj v c l hc=>q j v c (by simpa using l) hc) hc;refine⟨_,r,p,f,⟨e.ext.trans s e.len,by rw[l2];exact e.len,.b7 _ _ (.agg vs ds y9 λj v d l A=>z j v d (by simpa using l) A),by rw[l2];exact k2,u,e.fr.trans y⟩⟩
theorem rl{t:fN}{c:Array (Nat×Operand)}{j:List (Nat×TypeId)}(k:o.op=.build t c)(l:Qu P g X (I H) H w)(hi:Inv X w0 S0 g w)(M:Nai g H w a D)(h:lM P j D t c H=O (p,H')):sE P X w0 S0 H g w o a p H':=by
 unfold lM at h;split at h
 .rename_i z s m e;split at h
  .rename_i cs n;split at h
   .rename_i d;split at h
    .rename_i f;split at h
     .rename_i q bs r;cases h;exact KV k m e n d f r l hi M
     .cases h
    .cases h
   .cases h
  .cases h
 .cases h
theorem Dm{t:fN}{x y:fO}(k:o.op=.store t x y)(l:Qu P g X (I H) H w)(hi:Inv X w0 S0 g w)(M:Nai g H w a D)(h:nw P t (D x) (D y) H=O (p,H')):sE P X w0 S0 H g w o a p H':=by
 unfold nw at h;split at h
 .rename_i size m;split at h
  .rename_i i off e;split at h
   .rename_i cs f;split at h
    .rename_i hc;simp only[j5]at h;obtain⟨ds,n,h⟩:=h;cases h;exact M5 k e f m hc.1 hc.2 n l hi M
    .cases h
   .cases h
  .rename_i tt gg j e;split at h
   .rename_i te g' cs f;split at h
    .rename_i hc;obtain⟨rfl,rfl,c,q⟩:=hc;cases h;exact Dz k e (ZO f) m c (by simpa using q) l hi M
    .split at h
     .rename_i d r;split at h
      .rename_i hc;obtain⟨rfl,s,u,v,z⟩:=hc;cases h;exact Bs k e r (ZO f) m s u v z l hi M
      .cases h
     .cases h
   .cases h
  .cases h
 .cases h
theorem Good.more{H1:List fU}{g1:Gh}{p1:PV}{d:fP}(h:Good P X w0 S0 H g w p1 H1 d g1 w)(k:sE P X w0 S0 H1 g1 w o a p H'):sE P X w0 S0 H g w o a p H':=by obtain⟨v,g',w',e,c⟩:=k;exact⟨v,g',w',e,⟨h.ext.trans c.ext h.len,jX h.len c.len,c.rep,c.heap,c.inv,h.fr.trans c.fr⟩⟩
open Classical in
open Classical in
theorem Mw{call:gO}{ow:List (Nat×TypeId)}(hnc:∀f args ts,o.op≠.call {callee:=.value f,args,argTypes:=ts})(C:Qu P g X (I H) H w)(hi:Inv X w0 S0 g w)(M:Nai g H w a D)(h:gU P call ow o D H=O (p,H')):sE P X w0 S0 H g w o a p H':=by
 unfold gU at h;split at h
 .rename_i x A;obtain⟨v,g1,w1,Q,B⟩:=GP (P:=P) (X:=X) (w0:=w0) (S0:=S0) x (.inl A) C hi M;split at h
  .simp only[j5]at h;obtain⟨⟨d,H2⟩,hc1,h⟩:=h;cases h
   obtain⟨g2,l2,e2,k2,i2,f2,l3,r2⟩:=mW [D x] [v] g1 H [d] H2 B.heap B.inv (λj u c hv hc=>by
    cases j with
    |zero=>simp at hv hc;subst hv hc;exact B.rep
    |succ j=>simp at hv) (by simp[gy,hc1])
   exact⟨_,g2,w1,Q,⟨B.ext.trans e2 B.len,by rw[l2];exact B.len,.b7 _ _ (r2 0 v d rfl rfl),by rw[l2];exact k2,i2,B.fr.trans f2⟩⟩
  .cases h;exact⟨v,g1,w1,Q,B⟩
 .rename_i x A;split at h
  .cases h;exact GP x (.inr A) C hi M
  .split at h
   .split at h
    .cases h;exact B5 A C hi
    .cases h;exact zi A C hi
   .cases h
 .rename_i c x y A;simp only[j5]at h;obtain⟨t,ht,h⟩:=h;cases h;exact PS A ht C hi M
 .rename_i t A;split at h
  .rename_i z hz;split at h
   .rename_i cs bs hc;cases h;exact K7 A hz hc C hi
   .cases h
  .cases h
 .rename_i t x A;split at h
  .split at h
   .rename_i hall;cases h;exact R4 A hall C hi M
   .cases h
  .simp only[j5]at h;obtain⟨ds,hds,h⟩:=h;cases h;exact FB A hds C hi M
 .rename_i t parts A;split at h
  .split at h
   .rename_i cs H1 hb;split at h
    .rename_i ds H2 hc;cases h;obtain⟨v,g1,w1,Q,B⟩:=rl A C hi M hb;have hrep:=B.rep;cases hrep with
     |agg vs cs h1 h2=>
      obtain⟨g2,l2,e2,k2,i2,f2,l3,r2⟩:=mW cs vs.toList g1 H1 ds _ B.heap B.inv (λj v c hv hc=>h2 j v c (by simpa using hv) hc) hc;exact⟨_,g2,w1,Q,⟨B.ext.trans e2 B.len,by rw[l2];exact B.len,.b7 _ _ (.agg vs ds y9 λj v d hv hd=>r2 j v d (by simpa using hv) hd),by rw[l2];exact k2,i2,B.fr.trans f2⟩⟩
    .cases h
   .cases h
  .exact rl A C hi M h
 .rename_i t len parts A;split at h
  .rename_i e K;split at h
   .split at h
    .rename_i size F;split at h
     .rename_i hc;cases h;obtain⟨c1,c2,N,R,c5,c6⟩:=hc;exact CO A K F c1 c2 N R c5 c6 C hi M
     .cases h
    .cases h
   split at h
   .rename_i hfp;split at h
    .rename_i hc;cases h;obtain⟨c1,c2,N,R,c5⟩:=hc;simp only[wi,jE]at hfp;exact CV A K c1 c2 N R c5 hfp.2.2 (λhn=>by rw[hn]at hfp;simp at hfp) C hi M
    .cases h
   split at h
   .rename_i size ds F hp;split at h
    .rename_i hc;obtain⟨c1,c2,N,R,c5,c6,c7⟩:=hc;have c7':parts.toList.any (λ(_,x)=>(D x).fx)=U:=by simpa using c7
     split at h
     .cases h;exact zm A K F c1 hp c2 N R c5 c6 c7' C hi M
     .split at h
      .rename_i he';split at h
       .split at h
        .rename_i hem;cases h;subst he';exact u5 A K F c1 hp c2 N R c5 c6 c7' (by simpa using hem) C hi M
        .rename_i hem;split at h
         .rename_i hel;cases h;exact tC A K F c1 hp c2 N R c5 c6 c7' (by simpa using hem) hel C hi M
         .cases h
       .cases h;exact tL A K F c1 hp c2 N R c5 c6 c7' C hi M
      .cases h
    .cases h
   .cases h
  .cases h
 .rename_i t x A;split at h
  .exact ym A C hi M h
  .split at h
   .rename_i cs H1 h1;simp only[j5]at h;obtain⟨y,hy,h⟩:=h;cases h;exact KR A C hi M h1 hy
   .cases h
 .rename_i t x y A;split at h
  .exact Dm A C hi M h
  .cases h
 .rename_i x A;split at h
  .rename_i i off E;cases h;exact oR A E (.inl ⟨_,_,rfl⟩) C hi M
  .rename_i cs E;cases h;exact oR A E (.inr (.inl ⟨_,rfl⟩)) C hi M
  .rename_i f cap E;cases h;exact oR A E (.inr (.inr (.inl ⟨_,_,rfl⟩))) C hi M
  .rename_i f fi cap E;cases h;exact oR A E (.inr (.inr (.inr ⟨_,_,_,rfl⟩))) C hi M
  .cases h
 .rename_i f first cap A
  split at h
  .rename_i T;obtain rfl:first=#[]:=by simpa using T
   split at h
   .rename_i hc;obtain rfl:cap=#[]:=by simpa using hc
    cases h;exact BX A C hi
   .cases h;exact E1 A C hi M
  .cases h
 .rename_i t l c A;split at h
  .split at h
   .rename_i e K;split at h
    .rename_i z bytes l' c' hz F hb hl hc;split at h
     .rename_i L;obtain⟨c1,c2,N,R,c5⟩:=L;cases h;exact Cj A K hz F hb hl hc c1 c2 N R c5 C hi M
     .cases h
    .cases h
   .cases h
  .rename_i jj ee ow';by_cases h80:8000<=jj
   .rw[aj h80]at h;split at h
    .rename_i e K;split at h
     .rename_i z bytes l' c' hz F hb hl hc;split at h
      .rename_i L;obtain⟨c1,rfl,N,R,c5⟩:=L;cases h;exact vh A K hz F hb hl hc c1 N R c5 C hi M
      .cases h
     .cases h
    .cases h
   rw[ae h80]at h;by_cases h10:jj=1000
   .rw[aj h10]at h;split at h
    .rename_i e K;split at h
     .rename_i z size bytes l' c' hz F hb hl hc;split at h
      .rename_i L;obtain⟨rfl,rfl⟩:=L;exact Gl A K hz F hb hl hc h C hi M
      .cases h
     .cases h
    .cases h
   rw[ae h10]at h;cases h
 .rename_i t A;split at h
  .cases h;exact Gm A C hi
  .cases h
 .rename_i t m k x A;split at h
  .rename_i i V;split at h
   .rename_i es G;split at h
    .rename_i kv e j v T;cases h;exact nK (.inl A) V (kS G) (ln G) T C hi M
    .rename_i kv e T;cases h;exact nK (.inl A) V (kS G) (ln G) T C hi M
    .cases h
   .cases h
  .cases h
 .rename_i t m k x A;split at h
  .rename_i i V;split at h
   .rename_i es G;split at h
    .rename_i kv e j v T;cases h;exact nK (.inr A) V (kS G) (ln G) T C hi M
    .rename_i kv e T;cases h;exact nK (.inr A) V (kS G) (ln G) T C hi M
    .cases h
   .cases h
  .cases h
 .rename_i t m k ok A;split at h
  .rename_i i V;split at h
   .rename_i es G;split at h
    .rename_i kv e j v T;cases h;exact A9 (q:=v) A V (kS G) (ln G) T rfl C hi M
    .rename_i kv e T;simp only[j5]at h;obtain⟨z,hz,h⟩:=h;cases h;exact A9 (q:=.b7 z) A V (kS G) (ln G) T ⟨z,hz,rfl⟩ C hi M
    .cases h
   .cases h
  .cases h
 .rename_i s x f A;split at h
  .rename_i fs W;split at h
   .rename_i fd Y;split at h
    .rename_i k hk;split at h
     .rename_i i off E;cases h;exact uO A W Y hk E C hi M
     .rename_i cs E;cases h;exact tJ A W Y hk E C hi M
     .cases h
    .cases h
   .cases h
  .cases h
 .rename_i t x ix A;split at h
  .rename_i k n hix;split at h
   .rename_i e K;split at h
    .rename_i size F;split at h
     .rename_i h0;split at h
      .rename_i es E;split at h
       .rename_i d hd;split at h
        .rename_i hn;cases h;exact p8 A K F hix (by rw[E];rfl) h0 hd hn C hi M
        .cases h
       .cases h
      .rename_i t' es E;split at h
       .rename_i d hd;split at h
        .rename_i hn;cases h;exact p8 A K F hix (by rw[E];rfl) h0 hd hn C hi M
        .cases h
       .cases h
      .rename_i i off len cap E;split at h
       .rename_i hn;cases h;exact uS A K F hix E h0 hn C hi M
       .cases h
      .rename_i tt gg lo len cap E;split at h
       .rename_i hn;obtain⟨_,hn⟩:=hn;cases h;exact wc A K F hix E h0 hn C hi M
       .cases h
      .cases h
     .cases h
    .cases h
   .split at h
    .rename_i len e K;split at h
     .rename_i size cs F E;split at h
      .rename_i hn;cases h;exact uq A K F hix E hn.1 hn.2 C hi M
      .cases h
     .rename_i size i off F E;split at h
      .rename_i hn;cases h;exact uY A K F hix E hn.1 hn.2 C hi M
      .cases h
     .cases h
    .cases h
  .cases h
 .rename_i t x lo hi' A
  have key:∀es,yl (D x)=O es->(match fV P t with
    |some e=>
     match jc D 0 lo,jc D (I es) hi',gq P e with
     |some l,O h,O size=>if l<=h/\h<=I es/\(l==0||es.all λd=>d.num==size)then O (PV.b7 (.ew ((es.take h).drop l)),H)else Z
     |_,_,_=>Z
    |none=>Z)=O (p,H')->sE P X w0 S0 H g w o a p H':=λes E h=>by
   split at h
   .rename_i e K;split at h
    .rename_i l hh size hl hhh F;split at h
     .rename_i hc;obtain⟨c1,c2,N⟩:=hc;cases h;refine BB A K F E hl hhh c1 c2 ?_ C hi M;simp only[zT,bE,j8]at N;exact N
     .cases h
    .cases h
   .cases h
  split at h
  .rename_i es E;exact key es (by rw[E];rfl) h
  .rename_i t' es E;exact key es (by rw[E];rfl) h
  .rename_i tt gg l0 len cap E;split at h
   .rename_i e K;split at h
    .rename_i F;simp only[j5]at h;obtain⟨q,hq,h⟩:=h;cases h;exact EW A K F E hq C hi M
    .cases h
   .cases h
  .rename_i i off len cap E;split at h
   .rename_i e K;split at h
    .rename_i size F;simp only[j5]at h;obtain⟨q,hq,h⟩:=h;cases h;exact Ct A K F E hq C hi M
    .cases h
   .cases h
  .exact mX (by simp[A]) C hi M h
 .rename_i t x lo hi' mx A;split at h
  .rename_i e K;split at h
   .rename_i n l hh m hn hl hhh V;split at h
    .rename_i hc;obtain⟨c1,c2,N,R⟩:=hc;obtain⟨ad,S,hnil⟩:=Fp (P:=P) (o:=o) A K R hn hl hhh V c1 c2 N M;split at h
     .rename_i e;subst e;rw[cH]at S;split at h
      .cases h;refine⟨_,g,w,S,.same C hi (.b7 _ _ ?_)⟩;cases ad with
       |none=>rw[hnil rfl];exact .nil
       |some a=>exact .empty _ _
      .split at h
       .rename_i hz;obtain⟨rfl,rfl⟩:=hz;cases h;obtain⟨g',hg⟩:=sq (P:=P) C hi _ ad;exact⟨_,g',w,S,hg⟩
       .cases h
     .cases h;exact⟨_,g,w,S,.same C hi (.undef _)⟩
    .cases h
   .cases h
  .cases h
 .rename_i t x f A;split at h
  .rename_i cs E;simp only[bS,jK]at h;obtain⟨fs,W,fd,Y,size,F,ag,hg,d,⟨ds,hc,hd⟩,h⟩:=h;cases h;exact B6 A E W Y F hg hc hd C hi M
  .rename_i cs E;simp only[bS,jK]at h;obtain⟨fs,W,fd,Y,size,F,ag,hg,d,⟨ds,hc,hd⟩,h⟩:=h;cases h;exact Cx A E W Y F hg hc hd C hi M
  .cases h
 .rename_i x k A;split at h
  .rename_i vs E;simp only[j5]at h;obtain⟨q,hq,h⟩:=h;cases h;exact E4 A E hq C hi M
  .cases h
 .rename_i c A;obtain⟨callee,args,ts⟩:=c;simp only at h;split at h
  .rename_i f;exact absurd A (hnc _ _ _)
  .rename_i b;split at h
   .rename_i r hr;cases h;exact CE A C hi M hr
   .exact mX (by simp[A]) C hi M h
  .cases h
 .rename_i A;split at h
  .rename_i hn;cases h;exact⟨_,g,w,.inl (Kf A M hn),Good.same C hi (.b7 _ _ (.raw _ rfl))⟩
  .split at h
   .rename_i hn;cases h;exact⟨_,g,w,.inl (Gq A M hn),Good.same C hi (.b7 _ _ (.raw _ rfl))⟩
   .exact mX (by simp[A]) C hi M h
 .rename_i A;exact mX (by simp[A]) C hi M h
 .rename_i A;exact mX (by simp[A]) C hi M h
 .rename_i A;exact mX (by simp[A]) C hi M h
 .cases h
end
section
variable{P:fL}{X:Nat}{w0:fK}{S0:Nat->Nat->Prop}{Nb:Nat}{F:Fence}{m:Nat}{pf:fM->Bool}{hint:fM->Hint}{call:gO}{h:Hint}
def PW(H:List fU)(i:Nat):Nat:=match H[i]? with
 |some (.box cs)=>I cs
 |some (.mt _ _ cs)=>mN cs
 |some (.tok _ _)=>0
 |some (.map _)=>0
 |some .hole=>0
 |none=>0
def Gh.drop(g:Gh)(H:List fU)(h0:Nat):Gh:={g with S:=λb o=>g.S b o\/∃i,h0<=i/\e8 g H i=O b/\o<PW H i}
theorem Ext.drop{g:Gh}{w:fK}(N:Nat)(H:List fU)(h0:Nat):Ext N g w (g.drop H h0) w:=
 ⟨λ_ _ h=>.inl h,λ_ _ _=>rfl,λ_ _ h=>⟨rfl,h⟩,λ_ _ v n h=>⟨v,n,h,j7 _,λ_=>rfl⟩⟩
theorem oC{fl:Bool}{g:Gh}{H:List fU}{h0:Nat}{w:fK}{v:fP}{p:PV}(M:Qu P g X (I H) H w)(E:fW g (I H) w v p):fW (g.drop H h0) h0 w v (jo fl H h0 p):=by
 have s:Ext (I H) g w (g.drop H h0) w:=Ext.drop _ _ _;cases E with
 |b7 v d e=>exact .b7 _ _ (e.ext s)
 |agg=>exact .undef _
 |fz=>exact .undef _
 |vec v t es v0 n m l z x y=>
  simp only[jo];split
  .rename_i hc;exact .vec _ _ _ v0 n hc.1 (l.ext s) z x y
  .exact .b7 _ _ (l.ext s)
 |ptr i o hi=>
  simp only[jo];split
  .exact .ptr (g:=g.drop H h0) i o ⟨by assumption,hi.2⟩
  .exact .undef _
 |eI b o cs c m l=>exact .eI b o cs c (λi hi=>⟨(m i hi).1,.inl (m i hi).2⟩) (λi u A=>(l i u A).ext s)
 |arr i o len cap hi hc=>
  simp only[jo];split
  .exact .arr (g:=g.drop H h0) i o len cap ⟨by assumption,hi.2⟩ hc
  .rename_i Q;split
   .rename_i d e;refine .b7 _ _ ?_;simp only[gH]at e;split at e
    .rename_i cs B;simp only[j5]at e;obtain⟨es,e,rfl⟩:=e;obtain⟨k,_,c1,c2,c3,R⟩:=vI e;obtain⟨_,⟨vals,T,k1,k2,k3⟩,_⟩:=M.box i cs B;refine .ew (g.fg i) o len cap k es (λj=>vals.getD (o+j) undef) c1.symm hc c2 (λj hj=>?_) (λF j d u e A=>?_)
     .have q:o+j<vals.size:=by omega
      refine⟨?_,.inr ⟨i,by omega,iI B,by simp only[PW,B];omega⟩⟩;rw[cell_of_row w _ _ vals T (0,0) k1,jH,jA q];rfl
     .obtain⟨l,_⟩:=R F j d u e A;have q:o+(F*k+j)<vals.size:=by rw[k2];exact(af.1 l).1
      have:=(k3 (o+(F*k+j)) _ _ (jA q) l).hX.ext s
      simpa[jH,jA q]using this
    .cases e
   .exact .undef _
 |fn f vs cs m l=>
  simp only[jo];split
  .rename_i C;refine .fn _ _ _ m λj v c g1 N=>?_
   have V:=an.1 C c (jF N);have E:=l j v c g1 N;cases E with
   |b7 v d e=>exact .b7 _ _ (e.ext s)
   |ptr i o hi=>exact .ptr (g:=g.drop H h0) i o ⟨by simpa using V,hi.2⟩
   |eI b o cs c k1 k2=>exact .eI b o cs c (λi hi=>⟨(k1 i hi).1,.inl (k1 i hi).2⟩) (λi u A=>(k2 i u A).ext s)
   |_=>simp at V
  .exact .undef _
 |ms t gg lo len cp v v0 n m l z x y=>
  simp only[jo];split
  .exact .ms (g:=g.drop H h0) t gg lo len cp v v0 n (by assumption) l z x y
  .split
   .rename_i d e;refine .b7 _ _ ?_;simp only[gH]at e;split at e
    .rename_i te g' cs B;split at e
     .rename_i G;rw[jK]at e;obtain⟨ds,D,e⟩:=e;split at e
      .rename_i K;cases e;have r:=ZO B;simp only at r;obtain⟨v1,k1,k2⟩:=M.mt t _ _ _ r;rw[l]at k1;simp only[j9,jI]at k1;obtain⟨rfl,rfl⟩:=k1;exact Hs k2 (x G.symm).1 D K (by obtain⟨a,c,W,_,Y,_⟩:=y;exact⟨a,c,W,Y⟩) s.S (λb o L ho=>.inr ⟨t,by omega,by rw[iO r,l];exact L,by simp only[PW,r];exact ho⟩)
      .cases e
     .cases e
    .cases e
   .exact .undef _
 |mp t gg j v v0 n m l z x y=>
  simp only[jo];split
  .exact .mp (g:=g.drop H h0) t gg j v v0 n (by assumption) l z x y
  .exact .undef _
 |hC i hi=>
  simp only[jo];split
  .exact .hC (g:=g.drop H h0) i ⟨by assumption,hi.2⟩
  .exact .undef _
 |j0 b v m l=>exact .j0 b v m l
 |undef=>exact .undef _
end
section
variable{P:fL}{X:Nat}{w0:fK}{S0:Nat->Nat->Prop}{g:Gh}{H H':List fU}{w:fK}{p:PV}
theorem oD{v:fP}{d:fS}(f:Qu P g X (I H) H w)(e:fW g (I H) w v p)(c:gH H p=O d):gL w (g.drop H 0).S v d:=by
 have h:=oC (fl:=U) (h0:=0) f e;cases p with
 |b7 l=>simp[gH]at c;subst c;exact h.hX
 |vec t es=>simp[gH]at c;subst c;simp only[jo,bY,false_and,ai]at h;exact h.hX
 |arr i o len cap=>simp only[jo,bY,ai,c]at h;exact h.hX
 |ms t gg lo len cp=>simp only[jo,bY,ai,c]at h;exact h.hX
 |j0 b=>
  simp[gH]at c;subst c;cases e with
  |j0 b v j k=>
   cases b with
   |true=>rw[j rfl];exact .nil
   |false=>obtain⟨a,cap,rfl⟩:=k rfl;exact .empty a cap
 |_=>simp[gH]at c
theorem ni{v:fP}{d:fS}(f:Qu P g X (I H) H w)(k:fW g (I H) w v p)(c:ja H p=O d):gL w (g.drop H 0).S v d:=by
 cases p with
 |agg cs=>
  simp only[ja,j5]at c;obtain⟨ds,c,rfl⟩:=c;obtain⟨p1,m⟩:=lV _ _ c;cases k with
  |agg vs cs q n=>
   refine .agg _ _ y9 λj v d g1 l=>?_
   have e:j<I cs:=by rw[<-p1];exact(af.1 l).1
   have hc:cs[j]?=O cs[j]:=jC e;exact oD f (n j v _ g1 hc) (m j _ d hc l)
 |_=>exact oD f k c
theorem oF{S g:Nat->Nat->Prop}{w':fK}{v:fP}{d:fS}(h:gL w S v d)(e:d.scalar=J):gL w' g v d:=by
 cases h with
 |raw v h=>exact .raw v h
 |agg vs cs k l=>
  refine .agg vs cs k λj v c g1 f=>?_
  have V:=an.1 e c (jF f);have m:=l j v c g1 f;cases c with
  |raw u=>cases m with|raw _ h=>exact .raw _ h
  |_=>simp at V
 |_=>simp[fS.scalar]at e
end
section
variable{P:fL}{X:Nat}{w0:fK}{S0:Nat->Nat->Prop}{pf:fM->Bool}{call:gO}
theorem C7:∀{v w:fP},Hv v w=J->v=w:=by
 intro v w h;unfold Hv at h;split at h
 .simp only[jE,zE,bE]at h;rw[h.1,h.2]
 .simp only[bE]at h;rw[h]
 .rename_i a b;have h:=eq_of_beq h;cases a;cases b;simp only at h;rw[h]
 .rfl
 .rfl
 .rfl
 .rfl
 .simp only[jE,zE,dx]at h;obtain⟨⟨rfl,c,d⟩,f,g⟩:=h;have e:∀{a:Array Value},a.toList=[]->a=#[]:=λ{a} h=>by cases a;simp_all
  rw[e c,e d,e f,e g]
 .cases h
mutual
theorem Dv:∀{d e:fS},qO d e=J->d=e
 |.raw v,.raw w,h=>by rw[qO]at h;rw[C7 h]
 |.ew es,.ew fs,h=>by rw[qO]at h;rw[pU h]
 |.agg es,.agg fs,h=>by rw[qO]at h;rw[pU h]
 |.raw _,.ew _,h=>by simp[qO]at h
 |.raw _,.agg _,h=>by simp[qO]at h
 |.ew _,.raw _,h=>by simp[qO]at h
 |.ew _,.agg _,h=>by simp[qO]at h
 |.agg _,.raw _,h=>by simp[qO]at h
 |.agg _,.ew _,h=>by simp[qO]at h
theorem pU:∀{l m:List fS},qv l m=J->l=m
 |[],[],_=>rfl
 |a::l,b::m,h=>by rw[qv,jE]at h;rw[Dv h.1,pU h.2]
 |[],_::_,h=>by simp[qv]at h
 |_::_,[],h=>by simp[qv]at h
end
mutual
theorem Da:∀{p q:PV},mM p q=J->p=q
 |.b7 d,q,h=>by
  cases q<;>simp only[mM,reduceCtorEq]at h
  rw[Dv h]
 |.agg l,q,h=>by
  cases q<;>simp only[mM,reduceCtorEq]at h
  rw[nP h]
 |.fz l,q,h=>by
  cases q<;>simp only[mM,reduceCtorEq]at h
  rw[nP h]
 |.vec t es,q,h=>by
  cases q<;>simp only[mM,reduceCtorEq,jE,zE]at h
  rw[h.1,pU h.2]
 |.ptr i o,q,h=>by
  cases q<;>simp only[mM,reduceCtorEq,jE,zE]at h
  rw[h.1,h.2]
 |.eI cs,q,h=>by
  cases q<;>simp only[mM,reduceCtorEq]at h
  rw[pU h]
 |.arr i o l c,q,h=>by
  cases q<;>simp only[mM,reduceCtorEq,jE,zE]at h
  rw[h.1.1,h.1.2,h.2.1,h.2.2]
 |.fn f l,q,h=>by
  cases q<;>simp only[mM,reduceCtorEq,jE,zE]at h
  rw[h.1,nP h.2]
 |.ms t g o l c,q,h=>by
  cases q<;>simp only[mM,reduceCtorEq,jE,zE]at h
  rw[h.1.1,h.1.2,h.2.1,h.2.2.1,h.2.2.2]
 |.mp t g j,q,h=>by
  cases q<;>simp only[mM,reduceCtorEq,jE,zE]at h
  rw[h.1,h.2.1,h.2.2]
 |.hC i,q,h=>by
  cases q<;>simp only[mM,reduceCtorEq,zE]at h
  rw[h]
 |.j0 b,q,h=>by
  cases q<;>simp only[mM,reduceCtorEq,bE]at h
  rw[h]
 |.undef,q,h=>by
  cases q<;>simp only[mM,reduceCtorEq]at h
  rfl
theorem nP:∀{l m:List PV},pD l m=J->l=m
 |[],[],_=>rfl
 |a::l,b::m,h=>by rw[pD,jE]at h;rw[Da h.1,nP h.2]
 |[],_::_,h=>by simp[pD]at h
 |_::_,[],h=>by simp[pD]at h
end
theorem EY:∀{l m:List (Value×PV)},Am l m=J->l=m
 |[],[],_=>rfl
 |a::l,b::m,h=>by rw[Am,jE,jE]at h;rw[EY h.2,Prod.ext (C7 h.1.1) (Da h.1.2)]
 |[],_::_,h=>by simp[Am]at h
 |_::_,[],h=>by simp[Am]at h
theorem LY{a b:fU}(h:Ma a b=J):a=b:=by
 unfold Ma at h;split at h
 .rw[EY h]
 .rw[nP h]
 .simp only[jE,zE]at h;rw[h.1,h.2]
 .simp only[jE,zE]at h;rw[h.1.1,h.1.2,nP h.2]
 .cases h
theorem tH:∀{l m:List fU},xB l m=J->l=m
 |[],[],_=>rfl
 |a::l,b::m,h=>by rw[xB,jE]at h;rw[LY h.1,tH h.2]
 |[],_::_,h=>by simp[xB]at h
 |_::_,[],h=>by simp[xB]at h
def km(P:fL)(pf:fM->Bool)(call:gO):Prop:=
 ∀f args H p H',call f args H=O (p,H')->(∃fn c,P.funcs[f]?=O fn/\fn.body=O c/\(fn.name== "runtime.NumGoroutine")=U)/\
  (pf f=J->H'=H/\(∃ds,gR H args=O ds)/\∀H2,gR H2 args=gR H args->call f args H2=O (p,H2))/\
  ∀(X:Nat) (w0:fK) (S0:Nat->Nat->Prop) (g:Gh) (w:fK) (vals:Array Value),vals.size=I args->(∀(j:Nat) v q,vals[j]?=O v->args[j]?=O q->fW g (I H) w v q)->
   Qu P g X (I H) H w->Inv X w0 S0 g w->iU g w->Calls P f vals w λe w'=>∃v g',e=.returned v/\Good P X w0 S0 H g w p H' v g' w'
theorem lv{n:Nat}:∀{cs:List PV} {j:Nat} {c:PV},mc n cs=J->cs[j]?=O c->c.under n=J
 |c::cs,0,d,h,e=>by simp only[mc,jE]at h;cases e;exact h.1
 |c::cs,j+1,d,h,e=>by simp only[mc,jE]at h;exact lv h.2 (by simpa using e)
structure qT (n:Nat) (g g':Gh):Prop where
 S:g'.S=g.S
 fg:∀i,i<n->g'.fg i=g.fg i
 live:∀i,i<n->(g'.live i↔g.live i)
 own:∀i,i<n->g'.own i=g.own i
theorem qT.refl(n:Nat)(g:Gh):qT n g g:=⟨rfl,λ_ _=>rfl,λ_ _=>Iff.rfl,λ_ _=>rfl⟩
theorem fW.nb{g g':Gh}{N N' n:Nat}{w:fK}(h:qT n g g')(r:n<=N'){v:fP}{q:PV}(B:fW g N w v q):q.under n=J->fW g' N' w v q:=by
 induction B with
 |b7 v d C=>intro _;exact .b7 v d (h.S ▸ C)
 |agg vs cs l _ s=>intro e;exact .agg vs cs l λj v c x p=>s j v c x p (lv e p)
 |fz vs cs l _ s=>intro e;exact .fz vs cs l λj v c x p=>s j v c x p (lv e p)
 |vec v t es v0 k l m y z A=>
  intro e;have e:t<n:=by simpa[PV.under]using e
  exact .vec v t es v0 k (jP e r) (h.S ▸ m) (by rw[h.own t e];exact y) z A
 |ptr i o hi=>
  intro e;have e:i<n:=by simpa[PV.under]using e
  rw[<-h.fg i e];exact .ptr i o ⟨jP e r,(h.live i e).2 hi.2⟩
 |eI b o cs c l m=>intro _;exact .eI b o cs c (λi hi=>by rw[h.S];exact l i hi) (λi u D=>by rw[h.S];exact m i u D)
 |arr i o len cap hi hc=>
  intro e;have e:i<n:=by simpa[PV.under]using e
  rw[<-h.fg i e];exact .arr i o len cap ⟨jP e r,(h.live i e).2 hi.2⟩ hc
 |fn f vs cs l _ s=>intro e;exact .fn f vs cs l λj v c x p=>s j v c x p (lv e p)
 |ms t gg lo len cp v v0 k l m y z A=>
  intro e;have e:t<n:=by simpa[PV.under]using e
  exact .ms t gg lo len cp v v0 k (jP e r) (by rw[h.own t e];exact m) y z A
 |mp t gg j v v0 k l m y z A=>
  intro e;have e:t<n:=by simpa[PV.under]using e
  exact .mp t gg j v v0 k (jP e r) (by rw[h.own t e];exact m) y z A
 |hC i hi=>
  intro e;have e:i<n:=by simpa[PV.under]using e
  rw[<-h.fg i e];exact .hC i ⟨jP e r,(h.live i e).2 hi.2⟩
 |j0 b v l m=>intro _;exact .j0 b v l m
 |undef v=>intro _;exact .undef v
theorem pX{H:List fU}{n i:Nat}{x:fU}(h:(H.take n)[i]?=O x):i<n/\H[i]?=O x:=by
 rw[jR]at h;split at h
 .exact⟨‹_›,h⟩
 .cases h
theorem Lq{g:Gh}{H:List fU}{n i:Nat}(h:i<n):e8 g (H.take n) i=e8 g H i:=by unfold e8;rw[jR,aj h]
theorem lW{g:Gh}{H:List fU}{n i b:Nat}(h:e8 g (H.take n) i=O b):i<n/\e8 g H i=O b:=by
 have hi:i<n:=by
  unfold e8 at h;rw[jR]at h;by_cases q:i<n
  .exact q
  .rw[ae q]at h;cases h
 exact⟨hi,by rw[<-Lq hi];exact h⟩
theorem As{g g':Gh}{n:Nat}(h:qT n g g'){H:List fU}{i:Nat}(hi:i<n):e8 g' H i=e8 g H i:=by unfold e8;rw[h.fg i hi,h.own i hi]
theorem qZ.nb{g g':Gh}{N N' n:Nat}{w:fK}{e:fN}{cs:List PV}{v0:fP}(m:qT n g g')(E:n<=N')(F:mc n cs=J)(h:qZ P g N X w e cs v0):qZ P g' N' X w e cs v0:=by
 rcases h with h|⟨b,k,cap,cur,rfl,h0,q,r,s,t,x,y,z,A⟩|⟨b,k,cap,cur,size,ds,rfl,h0,q,r,s,B,t,C,f,x,y,z,A⟩
 .exact .inl h
 .exact .inr (.inl ⟨b,k,cap,cur,rfl,h0,q,r,s,t,x,y,λo l=>z o (by rw[m.S]at l;exact l),λj v c D p=>(A j v c D p).nb m E (lv F p)⟩)
 .exact .inr (.inr ⟨b,k,cap,cur,size,ds,rfl,h0,q,r,s,B,t,C,f,x,y,λo l=>z o (by rw[m.S]at l;exact l),λi j d u v D p G=>by rw[m.S];exact A i j d u v D p G⟩)
theorem tD.nb{g g':Gh}{n:Nat}{w:fK}{e:fN}{k:Nat}{v0:fP}(d:qT n g g')(h:tD P g X w e k v0):tD P g' X w e k v0:=by
 rcases h with h|⟨b,cap,cur,size,rfl,f,j,l,m,p,q,r⟩
 .exact .inl h
 .exact .inr ⟨b,cap,cur,size,rfl,f,j,l,m,p,q,λo c=>r o (by rw[d.S]at c;exact c)⟩
theorem Qu.first{g g':Gh}{N N' n:Nat}{H:List fU}{w:fK}(s:Qu P g X N H w)(f:qT n g g')(A:n<=N')(D:(H.take n).all (fU.under n)=J):Qu P g' X N' (H.take n) w:=by
 have t:∀{i:Nat} {x:fU},(H.take n)[i]?=O x->x.under n=J:=λh=>an.1 D _ (jF h)
 refine⟨λi cs hi=>?_,λi e k hi=>?_,λi e k cs hi=>?_,λi es hi=>?_,λi e cs hi=>?_,λi x hi=>?_,λi j b p q=>?_⟩
 .obtain⟨d,l⟩:=pX hi;obtain⟨p,⟨vals,E,q,B,z⟩,C⟩:=s.box i cs l;rw[f.fg i d];exact⟨p,⟨vals,E,q,B,λj v c u r=>(z j v c u r).nb f A (lv (t hi) r)⟩,λo y=>C o (by rw[f.S]at y;exact y)⟩
 .obtain⟨d,l⟩:=pX hi;obtain⟨v0,p,q⟩:=s.tok i e k l;exact⟨v0,by rw[f.own i d];exact p,q.nb f⟩
 .obtain⟨d,l⟩:=pX hi;obtain⟨v0,p,q⟩:=s.mt i e k cs l;exact⟨v0,by rw[f.own i d];exact p,q.nb f A (t hi)⟩
 .obtain⟨d,l⟩:=pX hi;obtain⟨p,⟨arr,clock,q,B,z⟩,C⟩:=s.map i es l;rw[f.fg i d];refine⟨p,⟨arr,clock,q,B,λj m c u r=>⟨(z j m c u r).1,(z j m c u r).2.nb f A ?_⟩⟩,λo y=>C o (by rw[f.S]at y;exact y)⟩;have:=t hi;simp only[fU.under,j8]at this;exact this c (jF r)
 .obtain⟨d,l⟩:=pX hi;rw[f.own i d];exact s.xb i e cs l
 .obtain⟨d,l⟩:=pX hi;obtain⟨q1,q2⟩:=s.live i x l;refine⟨λF=>(f.live i d).2 (q1 F),λG=>?_⟩;obtain⟨u,r⟩:=q2 G;exact⟨λhl=>u ((f.live i d).1 hl),by rw[f.own i d];exact r⟩
 .obtain⟨l1,o1⟩:=lW p;obtain⟨l2,o2⟩:=lW q;rw[As f l1]at o1;rw[As f l2]at o2;exact s.sep i j b o1 o2
theorem qD{A C:List fU}{n i:Nat}{x:fU}(c:I A=n)(h:(A++C)[i]?=O x):(i<n/\A[i]?=O x)\/(n<=i/\C[i - n]?=O x):=by
 rw[jT]at h;split at h
 .exact .inl ⟨by omega,h⟩
 .exact .inr ⟨by omega,by rw[<-c];exact h⟩
theorem Dw(hcall:km P pf call){f:fM}{args:List PV}{n:Nat}{H H2:List fU}{g:Gh}{w:fK}{p:PV}{vals:Array Value}(Q:jn call f args n H=O (p,H2))(hn:vals.size=I args)(hr:∀(j:Nat) v q,vals[j]?=O v->args[j]?=O q->fW g (I H) w v q)(L:Qu P g X (I H) H w)(hi:Inv X w0 S0 g w)(hG:iU g w):
  (∃fn c,P.funcs[f]?=O fn/\fn.body=O c/\(fn.name== "runtime.NumGoroutine")=U)/\Calls P f vals w λe w'=>∃v g',e= .returned v/\Good P X w0 S0 H g w p H2 v g' w':=by
 unfold jn at Q;split at Q
 case isFalse=>cases Q
 rename_i hc;obtain⟨hlen,hba,hbH⟩:=hc;split at Q
 case h_2=>cases Q
 rename_i p1 H1 hcl;split at Q
 case isFalse=>cases Q
 rename_i hq;obtain⟨hbp,hbH1⟩:=hq;simp only[j9,jI]at Q;obtain⟨rfl,rfl⟩:=Q;have htl:I (H.take n)=n:=by rw[zW];omega
 obtain⟨k1,_,k3⟩:=hcall _ _ _ _ _ hcl;refine⟨k1,(k3 X w0 S0 g w vals hn (λj v q W R=>?_) ?_ hi hG).mono λe w' he=>?_⟩
 .rw[htl];exact(hr j v q W R).nb (qT.refl n g) (j7 n) (lv hba R)
 .rw[htl];exact L.first (qT.refl n g) (j7 n) hbH
 obtain⟨v,g1,rfl,C⟩:=he;have hl1:n<=I H1:=by have:=C.len;omega
 have Y:I (H1.take n)=n:=by rw[zW];omega
 let M:Gh:={fg:=λi=>if i<n then g1.fg i else g.fg i,live:=λi=>if i<n then g1.live i else g.live i,own:=λi=>if i<n then g1.own i else g.own i,S:=g1.S}
 have E:qT n g1 M:=⟨rfl,λi h=>aj h,λi h=>by show(if i<n then g1.live i else g.live i)↔_;rw[aj h],λi h=>aj h⟩
 have G:Ext (I H) g w M w':=by
  have he:=C.ext;rw[htl]at he;refine⟨he.S,he.cell,λi hi2 hl=>?_,λt ht v n' s=>?_⟩
  .by_cases h:i<n
   .obtain⟨W,R⟩:=he.fg i h hl;exact⟨(E.fg i h).trans W,(E.live i h).2 R⟩
   .exact⟨ae h,by show(if i<n then g1.live i else g.live i);rw[ae h];exact hl⟩
  .by_cases h:t<n
   .rw[E.own t h];exact he.own t h v n' s
   .exact⟨v,n',(ae h).trans s,j7 _,λ_=>rfl⟩
 have N:I (H1.take n++H.drop n)=I H:=by rw[jW,Y,y7];omega
 have r:∀{i:Nat} {x:fU},n<=i->(H.drop n)[i - n]?=O x->H[i]?=O x:=λ{i x} d h=>by rw[zJ,show n+(i - n)=i by omega]at h;exact h
 have u:∀i,n<=i->e8 M (H1.take n++H.drop n) i=e8 g H i:=λi d=>by
  have e:(H1.take n++H.drop n)[i]?=H[i]?:=by rw[zO y9,Y,zJ];congr 1;omega
  have eb:M.fg i=g.fg i:=ae y9;have eo:M.own i=g.own i:=ae y9;unfold e8;rw[e,eb,eo]
 have y:∀i,i<n->e8 M (H1.take n++H.drop n) i=e8 g1 H1 i:=λi hlt=>by
  have e:(H1.take n++H.drop n)[i]?=H1[i]?:=by rw[zP y9,jR,aj hlt]
  unfold e8;rw[e,E.fg i hlt,E.own i hlt]
 have T:∀{i b:Nat},n<=i->e8 g H i=O b->∀j,e8 g (H.take n) j≠O b:=λd s j hj=>by obtain⟨l,o⟩:=lW hj;have:=L.sep _ _ _ s o;omega
 have B:∀{i b:Nat},n<=i->e8 g H i=O b->w'.heap[b]?=w.heap[b]?:=λd s=>C.fr.ey _ (L.eM s).2.1 (T d s)
 have K:∀{i b:Nat},n<=i->e8 g H i=O b->∀o,M.S b o->g.S b o:=λd s o hs=>by
  rcases C.fr.pd _ o hs with h|h|⟨j,h⟩
  .exact h
  .have:=(L.eM s).2.1;omega
  .exact absurd h (T d s j)
 have m:=C.heap.first E (show n<=I H by omega) hbH1
 have hheap:Qu P M X (I H) (H1.take n++H.drop n) w':=by
  refine⟨λi cs h=>?_,λi e k h=>?_,λi e k cs h=>?_,λi es h=>?_,λi e cs h=>?_,λi x h=>?_,λi j b z A=>?_⟩
  .rcases qD Y h with⟨_,h⟩|⟨d,h⟩
   .exact m.box i cs h
   .have D:=r d h;obtain⟨z,⟨vals',ty,A,h3,h4⟩,h5⟩:=L.box i cs D;rw[show M.fg i=g.fg i from ae y9];exact⟨z,⟨vals',ty,by rw[B d (iI D),A],h3,λj v c W R=>(h4 j v c W R).ext G (j7 _)⟩,λo s=>h5 o (K d (iI D) o s)⟩
  .rcases qD Y h with⟨_,h⟩|⟨d,h⟩
   .exact m.tok i e k h
   .have D:=r d h;obtain⟨v0,z,A⟩:=L.tok i e k D;have s:∀b,v0.ownBlock=O b->e8 g H i=O b:=λb F=>by rw[lD D,z];exact F
    exact⟨v0,(ae y9).trans z,A.ey (λb F=>B d (s b F)) (λb F=>K d (s b F))⟩
  .rcases qD Y h with⟨_,h⟩|⟨d,h⟩
   .exact m.mt i e k cs h
   .have D:=r d h;obtain⟨v0,z,A⟩:=L.mt i e k cs D;have s:∀b,gh v0=O b->e8 g H i=O b:=λb F=>by rw[iO D,z];exact F
    exact⟨v0,(ae y9).trans z,A.ey G (j7 _) (λb F=>B d (s b F)) (λb F=>K d (s b F))⟩
  .rcases qD Y h with⟨_,h⟩|⟨d,h⟩
   .exact m.map i es h
   .have D:=r d h;obtain⟨z,⟨arr,clock,A,h3,h4⟩,h5⟩:=L.map i es D;rw[show M.fg i=g.fg i from ae y9];exact⟨z,⟨arr,clock,⟨by rw[B d (ku D),A.1],A.2⟩,h3,λj v c W R=>⟨(h4 j v c W R).1,(h4 j v c W R).2.ext G (j7 _)⟩⟩,λo s=>h5 o (K d (ku D) o s)⟩
  .rcases qD Y h with⟨_,h⟩|⟨d,h⟩
   .exact m.xb i e cs h
   .have D:=r d h;obtain⟨v0,z,A⟩:=L.xb i e cs D;exact⟨v0,(ae y9).trans z,A⟩
  .rcases qD Y h with⟨_,h⟩|⟨d,h⟩
   .exact m.live i x h
   .have D:=r d h;obtain⟨q1,q2⟩:=L.live i x D;have el:M.live i=g.live i:=ae y9;have eo:M.own i=g.own i:=ae y9;rw[el,eo];exact⟨q1,q2⟩
  .by_cases c1:i<n<;>by_cases c2:j<n
   .rw[y i c1]at z;rw[y j c2]at A;exact C.heap.sep i j b z A
   .rw[y i c1]at z;rw[u j y9]at A;obtain⟨j',hj'⟩:=C.fr.e8 i b z (L.eM A).2.1;exact absurd hj' (T y9 A j')
   .rw[u i y9]at z;rw[y j c2]at A;obtain⟨j',hj'⟩:=C.fr.e8 j b A (L.eM z).2.1;exact absurd hj' (T y9 z j')
   .rw[u i y9]at z;rw[u j y9]at A;exact L.sep i j b z A
 refine⟨v,M,rfl,G,by omega,?_,?_,⟨C.inv.below,C.inv.size,C.inv.kk,C.inv.lt⟩,⟨C.fr.size,λb F hnb=>?_,λi b s F=>?_,λb o hs=>?_⟩⟩
 .rw[N];exact C.rep.nb E hlen hbp
 .rw[N];exact hheap
 .exact C.fr.ey b F (λi hi2=>hnb i (lW hi2).2)
 .by_cases c:i<n
  .rw[y i c]at s;obtain⟨j,hj⟩:=C.fr.e8 i b s F;exact⟨j,(lW hj).2⟩
  .rw[u i y9]at s;exact⟨i,s⟩
 .rcases C.fr.pd b o hs with h|h|⟨j,h⟩
  .exact .inl h
  .exact .inr (.inl h)
  .exact .inr (.inr ⟨j,(lW h).2⟩)
end
theorem mo(f:Nat->Nat):∀cs,PV.uc f cs=cs.map (PV.eR f)
 |[]=>rfl
 |c::r=>by simp[PV.uc,mo f r]
theorem Ia(f:Nat->Nat)(ds:List fS):(ds.map PV.b7).map (PV.eR f)=ds.map PV.b7:=by simp[PV.eR]
theorem Ks(f:Nat->Nat)(p:PV):(p.eR f).cells=p.cells.map (PV.eR f):=by cases p<;>simp[PV.eR,PV.cells,mo]
theorem xt(f:Nat->Nat):∀cs,iG (cs.map (PV.eR f))=iG cs
 |[]=>rfl
 |.b7 d::r=>by simp[iG,PV.eR,xt f r]
 |.agg _::_|.fz _::_|.vec ..::_|.ptr ..::_|.eI _::_|.arr ..::_|.fn ..::_|.ms ..::_|.mp ..::_|.hC _::_|.j0 _::_|.undef::_=>by simp[iG,PV.eR]
theorem IN(f:Nat->Nat)(cs:List PV):ls (cs.map (PV.eR f))=(ls cs).eR f:=by
 unfold ls;rw[xt];cases iG cs with
 |some ds=>rfl
 |none=>simp[PV.eR,mo]
theorem I6{c d:Type}(f:c->d)(cs vs:List c)(o:Nat):rR (cs.map f) o (vs.map f)=(rR cs o vs).map (Naa f):=by unfold rR;simp only[jZ];split <;>simp
theorem Ap{d j:Type}(f:d->j)(c:Nat->Option (Nat×Nat)):∀(g:List (Nat×List d)) (cs:List d),lN c (cs.map f) (g.map λx=>(x.1,x.2.map f))=(lN c cs g).map (Naa f)
 |[],cs=>rfl
 |(i,vs)::r,cs=>by
  simp only[zV,lN];cases c i with
  |none=>rfl
  |some x=>
   simp only[jZ];split
   .rw[I6];cases rR cs x.1 vs with
    |none=>rfl
    |some e=>simpa using Ap f c r e
   .rfl
theorem OO{f:Nat->Nat}{c:PV}(h:c.eR f=.b7 (.ew [])):c=.b7 (.ew []):=by cases c<;>simp_all [PV.eR]
theorem qJ(f:Nat->Nat):∀(p:List (Nat×TypeId)) (k k2:Nat) (d l:List PV) (bs:List fU),(∀i,f (k2+i)=k+i)->ko k (d.map (PV.eR f)) p=O (l,bs)->
  ∃g,ko k2 d p=O (g,bs)/\l=g.map (PV.eR f)
 |[],k,k2,d,l,bs,n,h=>by cases h;exact⟨d,rfl,rfl⟩
 |(j,e)::r,k,k2,d,l,bs,n,h=>by
  unfold ko at h |-;split at h
  .rename_i m;rw[jD,j5]at m;obtain⟨c,hc,m⟩:=m;rw[OO m]at hc;rw[hc];split at h
   .rename_i s t q;cases h
    have u:(d.map (PV.eR f)).set j (.vec k [])=(d.set j (.vec k2 [])).map (PV.eR f):=by rw[fG];simp[PV.eR];have:=n 0;simp at this;rw[this]
    rw[u]at q;obtain⟨g,v,w⟩:=qJ f r (k+1) (k2+1) _ _ _ (λi=>by have:=n (1+i);rw[bO,bO];exact this) q;exact⟨g,by simp only[v],w⟩
   .cases h
  .cases h
theorem pw:∀(g:List (Nat×TypeId)) (k:Nat) (cs c:List PV) (bs:List fU),ko k cs g=O (c,bs)->∀f,bs.map (fU.eR f)=bs/\∀x∈bs,x≠.hole
 |[],k,cs,c,bs,h,f=>by cases h;exact⟨rfl,by simp⟩
 |(j,e)::r,k,cs,c,bs,h,f=>by
  unfold ko at h;split at h
  .split at h
   .rename_i l;cases h;obtain⟨m,n⟩:=pw r _ _ _ _ l f;refine⟨by simp[fU.eR,m],λx d=>?_⟩;rcases ar.1 d with rfl|d
    .intro h;cases h
    .exact n x d
   .cases h
  .cases h
structure Fv (f:Nat->Nat) (g:Gh) (N:Nat) (g':Gh) (N':Nat):Prop where
 S:g'.S=g.S
 fg:∀i,i<N->g.live i->f i<N'/\g'.live (f i)/\g'.fg (f i)=g.fg i
 own:∀t,t<N->∀x,g.own t=O x->f t<N'/\g'.own (f t)=O x
section
variable{f:Nat->Nat}{g g':Gh}{N N' X:Nat}{P:fL}{H H':List fU}{w:fK}
theorem fW.eR(m:Fv f g N g' N'){v:fP}{p:PV}(h:fW g N w v p):fW g' N' w v (p.eR f):=by
 have z:∀{v d},gL w g.S v d->gL w g'.S v d:=λh=>by rw[m.S];exact h
 induction h with
 |b7 v d h=>exact .b7 _ _ (z h)
 |agg vs cs e l q=>
  simp only[PV.eR,mo];refine .agg vs _ (by simpa using e) λj v c g1 k=>?_
  rw[jD,j5]at k;obtain⟨r,k,rfl⟩:=k;exact q j v r g1 k
 |fz vs cs e l q=>
  simp only[PV.eR,mo];refine .fz vs _ (by simpa using e) λj v c g1 k=>?_
  rw[jD,j5]at k;obtain⟨r,k,rfl⟩:=k;exact q j v r g1 k
 |vec v t es v0 n e l s x y=>
  obtain⟨k1,k2⟩:=m.own t e _ s;exact .vec v _ es v0 n k1 (z l) k2 x y
 |ptr i o hi=>
  obtain⟨k1,k2,k3⟩:=m.fg i hi.1 hi.2;rw[<-k3];exact .ptr _ o ⟨k1,k2⟩
 |eI b o cs c e l=>exact .eI b o cs c (λi hi=>⟨(e i hi).1,by rw[m.S];exact(e i hi).2⟩) (λi u A=>z (l i u A))
 |arr i o len cap hi hc=>
  obtain⟨k1,k2,k3⟩:=m.fg i hi.1 hi.2;rw[<-k3];exact .arr _ o len cap ⟨k1,k2⟩ hc
 |fn B vs cs e l q=>
  simp only[PV.eR,mo];refine .fn B vs _ (by simpa using e) λj v c g1 k=>?_
  rw[jD,j5]at k;obtain⟨r,k,rfl⟩:=k;exact q j v r g1 k
 |ms t gg lo len cp v v0 n e l s x y=>
  obtain⟨k1,k2⟩:=m.own t e _ l;exact .ms _ gg lo len cp v v0 n k1 k2 s x y
 |mp t gg j v v0 n e l s x y=>
  obtain⟨k1,k2⟩:=m.own t e _ l;exact .mp _ gg j v v0 n k1 k2 s x y
 |hC i hi=>
  obtain⟨k1,k2,k3⟩:=m.fg i hi.1 hi.2;rw[<-k3];exact .hC _ ⟨k1,k2⟩
 |j0 b v e l=>exact .j0 b v e l
 |undef v=>exact .undef v
theorem ug{vs:Array Value}{cs:List PV}(d:vs.size=I cs)(e:∀(j:Nat) v c,vs[j]?=O v->cs[j]?=O c->c.eR f=c):cs.map (PV.eR f)=cs:=by
 apply bG;intro j;rw[jD];cases hc:cs[j]? with
 |none=>rfl
 |some c=>
  have g:j<vs.size:=by rw[d];exact(af.1 hc).1
  simp[e j _ c (jA g) hc]
theorem fW.fix(d:∀i,i<N->f i=i){v:fP}{p:PV}(h:fW g N w v p):p.eR f=p:=by
 induction h with
 |agg vs cs c k e=>simp only[PV.eR,mo,ug c e]
 |fz vs cs c k e=>simp only[PV.eR,mo,ug c e]
 |fn l vs cs c k e=>simp only[PV.eR,mo,ug c e]
 |vec v t es v0 n c=>simp[PV.eR,d t c]
 |ptr i o hi=>simp[PV.eR,d i hi.1]
 |arr i o len cap hi=>simp[PV.eR,d i hi.1]
 |ms t gg lo len cp v v0 n c=>simp[PV.eR,d t c]
 |mp t gg j v v0 n c=>simp[PV.eR,d t c]
 |hC i hi=>simp[PV.eR,d i hi.1]
 |_=>rfl
theorem Qu.fix(d:Qu P g X N H w)(k:∀i,i<N->f i=i){i:Nat}{x:fU}(h:H[i]?=O x):x.eR f=x:=by
 cases x with
 |box cs=>
  obtain⟨_,⟨vals,t,_,m,p⟩,_⟩:=d.box i cs h;simp only[fU.eR,ug m λj v c a b=>(p j v c a b).fix k]
 |tok e n=>rfl
 |mt e n cs=>
  obtain⟨v0,_,r⟩:=d.mt i e n cs h;rcases r with⟨rfl,_⟩|⟨b,l,cap,cur,_,_,_,_,_,q4,_,q6,_,s⟩|⟨b,l,cap,cur,size,u,_,_,_,_,_,_,rfl,_⟩
  rotate_right
  .simp only[fU.eR,zG];rfl
  .rfl
  .have:cs.map (PV.eR f)=cs:=by
    apply bG;intro j;rw[jD];cases hc:cs[j]? with
    |none=>rfl
    |some c=>
     have q:j<cur.size:=by have:=(af.1 hc).1;omega
     simp[(s j _ c (jA q) hc).fix k]
   simp only[fU.eR,this]
 |map es=>
  obtain⟨_,⟨arr,clock,_,m,p⟩,_⟩:=d.map i es h
  have:(es.map λx=>(x.1,x.2.eR f))=es:=by
   apply bG;intro j;rw[jD];cases hc:es[j]? with
   |none=>rfl
   |some c=>
    have q:j<arr.size:=by rw[m];exact(af.1 hc).1
    simp[(p j _ c (jA q) hc).2.fix k]
  simp only[fU.eR,this]
 |hole=>rfl
def NV(f:Nat->Nat)(g':Gh)(H H':List fU):Prop:=
 ∀(i:Nat) y,H'[i]?=O y->(y=.hole/\¬g'.live i/\g'.own i=Z)\/∃(j:Nat) (x:fU),H[j]?=O x/\x≠.hole/\f j=i/\y=x.eR f
theorem oQ(l:Fv f g N g' N')(m:Qu P g X N H w)(hl:I H<=N)(p:NV f g' H H'){i b:Nat}(h:e8 g' H' i=O b):∃j,f j=i/\e8 g H j=O b:=by
 have d:∀{x:fU} {j:Nat},H[j]?=O x->j<N:=λh=>jP (af.1 h).1 hl
 unfold e8 at h;split at h
 .rename_i cs hi;rcases p i _ hi with⟨e,_⟩|⟨j,x,c,q,rfl,k⟩
  .cases e
  .cases x<;>simp only[fU.eR,reduceCtorEq]at k
   rw[(l.fg j (d c) (m.ua c)).2.2]at h;exact⟨j,rfl,by rw[iI c];exact h⟩
 .rename_i e n hi;rcases p i _ hi with⟨e,_⟩|⟨j,x,c,q,rfl,k⟩
  .cases e
  .cases x<;>simp only[fU.eR,reduceCtorEq]at k
   obtain⟨v0,k1,k2⟩:=m.tok j _ _ c;rw[(l.own j (d c) _ k1).2]at h;exact⟨j,rfl,by rw[lD c,k1];exact h⟩
 .rename_i e n cs hi;rcases p i _ hi with⟨e,_⟩|⟨j,x,c,q,rfl,k⟩
  .cases e
  .cases x<;>simp only[fU.eR,reduceCtorEq]at k
   obtain⟨v0,k1,k2⟩:=m.mt j _ _ _ c;rw[(l.own j (d c) _ k1).2]at h;exact⟨j,rfl,by rw[iO c,k1];exact h⟩
 .rename_i es hi;rcases p i _ hi with⟨e,_⟩|⟨j,x,c,q,rfl,k⟩
  .cases e
  .cases x<;>simp only[fU.eR,reduceCtorEq]at k
   rw[(l.fg j (d c) (m.s3 c)).2.2]at h;exact⟨j,rfl,by rw[ku c];exact h⟩
 .cases h
 .cases h
theorem Qu.eR(p:Fv f g N g' N')(t:Qu P g X N H w)(hl:I H<=N)(A:NV f g' H H'):Qu P g' X N' H' w:=by
 have s:∀{x:fU} {j:Nat},H[j]?=O x->j<N:=λh=>jP (af.1 h).1 hl
 refine⟨λi cs hi=>?_,λi e n hi=>?_,λi e n cs hi=>?_,λi es hi=>?_,λi e cs hi=>?_,λi y hi=>?_,λi i' b m z=>?_⟩
 .rcases A i _ hi with⟨e,_⟩|⟨j,x,m,z,rfl,r⟩
  .cases e
  .cases x<;>simp only[fU.eR,reduceCtorEq]at r
   cases r;rw[(p.fg j (s m) (t.ua m)).2.2];obtain⟨b1,⟨vals,R,b2,E,D⟩,F⟩:=t.box j _ m;refine⟨b1,⟨vals,R,b2,by simpa using E,λk v c g1 q=>?_⟩,by rw[p.S];exact F⟩;rw[jD,j5]at q;obtain⟨C,q,rfl⟩:=q;exact(D k v C g1 q).eR p
 .rcases A i _ hi with⟨e,_⟩|⟨j,x,m,z,rfl,r⟩
  .cases e
  .cases x<;>simp only[fU.eR,reduceCtorEq]at r
   cases r;obtain⟨v0,k1,k2⟩:=t.tok j _ _ m;refine⟨v0,(p.own j (s m) _ k1).2,?_⟩;rcases k2 with k2|⟨b,cap,cur,size,B,G,T,W,Y,a6,a7,a8⟩
   .exact .inl k2
   .exact .inr ⟨b,cap,cur,size,B,G,T,W,Y,a6,a7,by rw[p.S];exact a8⟩
 .rcases A i _ hi with⟨e,_⟩|⟨j,x,m,z,rfl,r⟩
  .cases e
  .cases x<;>simp only[fU.eR,reduceCtorEq]at r
   cases r;obtain⟨v0,k1,k2⟩:=t.mt j _ _ _ m;refine⟨v0,(p.own j (s m) _ k1).2,?_⟩;rcases k2 with⟨rfl,k2⟩|⟨b,l,cap,cur,B,q0,q1,q2,q3,q4,q5,q6,q7,K⟩|⟨b,l,cap,cur,size,da,B,q0,q1,q2,q3,L,rfl,q4,M,q5,q6,q7,K⟩
   .exact .inl ⟨rfl,k2⟩
   .refine .inr (.inl ⟨b,l,cap,cur,B,q0,q1,q2,q3,⟨by simpa using q4.1,by rw[aV,j8];intro x Q;have:=an.1 q4.2 x Q;cases x<;>first|exact this|rfl⟩,q5,q6,by rw[p.S];exact q7,λk v c g1 q=>?_⟩)
    rw[jD,j5]at q;obtain⟨C,q,rfl⟩:=q;exact(K k v C g1 q).eR p
   .refine .inr (.inr ⟨b,l,cap,cur,size,da,B,q0,q1,q2,q3,L,by rw[zG];rfl,q4,M,q5,q6,by rw[p.S];exact q7,λi j d u v g1 q g3=>by rw[p.S];exact K i j d u v g1 q g3⟩)
 .rcases A i _ hi with⟨e,_⟩|⟨j,x,m,z,rfl,r⟩
  .cases e
  .cases x<;>simp only[fU.eR,reduceCtorEq]at r
   cases r;rw[(p.fg j (s m) (t.s3 m)).2.2];obtain⟨b1,⟨arr,clock,b2,E,D⟩,F⟩:=t.map j _ m;refine⟨b1,⟨arr,clock,b2,by simpa using E,λk v c g1 q=>?_⟩,by rw[p.S];exact F⟩;rw[jD,j5]at q;obtain⟨C,q,rfl⟩:=q;exact⟨(D k v C g1 q).1,(D k v C g1 q).2.eR p⟩
 .rcases A i _ hi with⟨e,_⟩|⟨j,x,m,z,rfl,r⟩
  .cases e
  .cases x<;>simp only[fU.eR,reduceCtorEq]at r
   cases r;obtain⟨v0,k1,k2⟩:=t.xb j _ _ m;exact⟨v0,(p.own j (s m) _ k1).2,k2⟩
 .rcases A i _ hi with⟨rfl,m,z⟩|⟨j,x,m,z,rfl,rfl⟩
  .exact⟨λh=>h.elim,λ_=>⟨m,z⟩⟩
  .refine⟨λhp=>(p.fg j (s m) ((t.live j x m).1 ?_)).2.1,λQ=>absurd ?_ z⟩
   .cases x<;>first|trivial|exact hp
   .cases x<;>simp[fU.eR]at Q |-
 .obtain⟨j,rfl,B⟩:=oQ p t hl A m;obtain⟨j',rfl,G⟩:=oQ p t hl A z;rw[t.sep j j' b B G]
end
theorem OJ{b n i:Nat}(h:b<=n):wG b n (si b n i)=i:=by unfold wG si;split <;>(try split)<;>(try split)<;>(try split)<;>omega
theorem OC{b n i:Nat}(h:b<=n):si b n (wG b n i)=i:=by unfold wG si;split <;>(try split)<;>(try split)<;>(try split)<;>omega
mutual
theorem wE {f k:Nat->Nat} (h:∀i,k (f i)=i):∀p:PV,(p.eR f).eR k=p
 |.b7 d=>rfl
 |.agg cs=>by simp only[PV.eR];rw[rX h cs]
 |.fz vs=>by simp only[PV.eR];rw[rX h vs]
 |.vec t es=>by simp only[PV.eR,h]
 |.ptr i o=>by simp only[PV.eR,h]
 |.eI cs=>rfl
 |.arr i o l c=>by simp only[PV.eR,h]
 |.fn g cap=>by simp only[PV.eR];rw[rX h cap]
 |.ms t g lo len cap=>by simp only[PV.eR,h]
 |.mp t g j=>by simp only[PV.eR,h]
 |.hC i=>by simp only[PV.eR,h]
 |.j0 b=>rfl
 |.undef=>rfl
theorem rX {f k:Nat->Nat} (h:∀i,k (f i)=i):∀l:List PV,PV.uc k (PV.uc f l)=l
 |[]=>rfl
 |c::r=>by simp only[PV.uc];rw[wE h c,rX h r]
end
theorem O5{f k:Nat->Nat}(h:∀i,k (f i)=i)(x:fU):(x.eR f).eR k=x:=by
 cases x with
 |box cs=>simp only[fU.eR,zG];congr 1;exact(aJ λc _=>wE h c).trans (cD _)
 |tok e n=>rfl
 |mt e g cs=>simp only[fU.eR,zG];congr 1;exact(aJ λc _=>wE h c).trans (cD _)
 |map es=>simp only[fU.eR,zG];congr 1;exact(aJ λc _=>by simp only[Function.comp,wE h];rfl).trans (cD _)
 |hole=>rfl
theorem NT{f:Nat->Nat}{x:fU}(h:x.eR f=.hole):x=.hole:=by cases x<;>simp[fU.eR]at h |-
def Gh.via(g:Gh)(k:Nat->Nat):Gh:={fg:=λi=>g.fg (k i),live:=λi=>g.live (k i),own:=λi=>g.own (k i),S:=g.S}
section
variable{P:fL}{X N:Nat}{g:Gh}{H H':List fU}{w:fK}{f k:Nat->Nat}
theorem Dj(h:∀i,k (f i)=i)(c:∀i,i<N->f i<N):Fv f g N (g.via k) N:=
 ⟨rfl,λi hi hl=>⟨c i hi,by show g.live (k (f i));rw[h];exact hl,by show g.fg (k (f i))=_;rw[h]⟩,λt d x e=>⟨c t d,by show g.own (k (f t))=_;rw[h];exact e⟩⟩
theorem C6(h:∀i,f (k i)=i)(j:Qu P g X N H w)(c:∀i,H'[i]?=(H[k i]?).map (fU.eR f)):NV f (g.via k) H H':=λi y hi=>by
 rw[c,j5]at hi;obtain⟨x,d,rfl⟩:=hi;by_cases e:x=.hole
 .subst e;exact .inl ⟨rfl,(j.live _ _ d).2 rfl⟩
 .exact .inr ⟨k i,x,d,e,h i,rfl⟩
end
theorem BM{call:gO}{f:fM}{args:List PV}{m:Nat}{A Y R:List fU}{p:PV}(V:I A=m)(h:jn call f args m A=O (p,R)):jn call f args m (A++Y)=O (p,R++Y):=by
 have c:(A++Y).take m=A:=by rw[<-V];exact dN
 have d:(A++Y).drop m=Y:=by rw[<-V];exact dM
 have e:A.take m=A:=by rw[<-V];exact cG
 have g:A.drop m=[]:=by rw[<-V];exact eL
 unfold jn at h |-;rw[c,d];rw[e,g]at h;split at h
 case isFalse=>cases h
 rename_i hc;rw[aj ⟨by rw[jW];omega,hc.2⟩];split at h
 case h_2=>cases h
 rename_i p1 H1 j;split at h
 case isFalse=>cases h
 rename_i k;rw[aj k];simp only[jV,j9,jI]at h;rw[h.1,h.2]
theorem Ra{A B C:List fU}{b m i:Nat}{F:fU->fU}(c:I A=b)(hB:I B=m):(B.map F++(A.map F++C.map F))[i]?=((A++(B++C))[wG b (b+m) i]?).map F:=by
 unfold wG;rw[show b+m - b=m by omega];by_cases d:i<m
 .rw[aj d,zP (by simpa[hB]using d),zO y9,c,show i+b - b=i by omega,zP y9,jD]
 .rw[ae d,zO (by simp[hB];omega),jZ,hB];by_cases e:i<b+m
  .rw[aj e,zP (by simp[c];omega),zP y9,jD]
  .rw[ae e,zO (by simp[c];omega),jZ,c,zO y9,c,zO y9,hB,jD];congr 2;omega
theorem Nu{A C R:List fU}{b m i:Nat}{d e:Nat->Nat}(f:I A=b)(hR:I R=m)(h:∀i,e (d i)=i):(A++R.map (fU.eR e)++C)[i]?=((R++(A.map (fU.eR d)++C.map (fU.eR d)))[si b (b+m) i]?).map (fU.eR e):=by
 have c:∀o:Option fU,(o.map (fU.eR d)).map (fU.eR e)=o:=λo=>by cases o<;>simp[O5 h]
 unfold si;rw[ay,show b+m - b=m by omega];by_cases g:i<b
 .rw[aj g,zP y9,zO y9,hR,show i+m - m=i by omega,zP yA,jD,c]
 .rw[ae g,zO y9,f];by_cases j:i<b+m
  .rw[aj j,zP yA,zP y9,jD]
  .rw[ae j,zO yA,jZ,hR,zO y9,hR,zO yA,jZ,f,jD,c];congr 1;omega
section
variable{P:fL}{X:Nat}{w0:fK}{S0:Nat->Nat->Prop}{pf:fM->Bool}{call:gO}
theorem Tc(G:km P pf call){f:fM}{args:List PV}{b n:Nat}{H H2:List fU}{g:Gh}{w:fK}{p:PV}{vals:Array Value}(K:u4 call f args b n H=O (p,H2))(hn:vals.size=I args)(hr:∀(j:Nat) v q,vals[j]?=O v->args[j]?=O q->fW g (I H) w v q)(hH:Qu P g X (I H) H w)(hi:Inv X w0 S0 g w)(hG:iU g w):
  (∃fn c,P.funcs[f]?=O fn/\fn.body=O c/\(fn.name== "runtime.NumGoroutine")=U)/\Calls P f vals w λe w'=>∃v g',e= .returned v/\Good P X w0 S0 H g w p H2 v g' w':=by
 unfold u4 at K;split at K
 case isFalse=>cases K
 rename_i hc;obtain⟨hbn,hnl⟩:=hc;split at K
 case h_2=>cases K
 rename_i p1 R d;simp only[j9,jI]at K;obtain⟨rfl,rfl⟩:=K;obtain⟨m,rfl⟩:∃m,n=b+m:=⟨n - b,by omega⟩
 obtain⟨A,B,C,rfl,D,hB⟩:∃A B C,H=A++(B++C)/\(I A)=b/\(I B)=m:=⟨H.take b,(H.drop b).take m,H.drop (b+m),by rw[show H.drop (b+m)=(H.drop b).drop m by rw[cV],y8,y8],by rw[zW];omega,by rw[zW,y7];omega⟩
 have t1:((A++(B++C)).take (b+m)).drop b=B:=by rw[<-D,<-hB,<-ay,<-jW,dN,dM]
 have t2:(A++(B++C)).take b=A:=by rw[<-D];exact dN
 have t3:(A++(B++C)).drop (b+m)=C:=by rw[<-D,<-hB,<-ay,<-jW];exact dM
 rw[t1,show b+m - b=m by omega]at d;rw[t2,t3];have y:∀i,wG b (b+m) (si b (b+m) i)=i:=λi=>OJ hbn
 have hdu:∀i,si b (b+m) (wG b (b+m) i)=i:=λi=>OC hbn
 have hN:I (A++(B++C))=b+m+I C:=by simp[D,hB];omega
 have nu:∀i,i<I (A++(B++C))->si b (b+m) i<I (A++(B++C)):=λi h=>by rw[hN]at h |-;unfold si;split <;>(try split)<;>omega
 have nd:∀i,i<I (A++(B++C))->wG b (b+m) i<I (A++(B++C)):=λi h=>by rw[hN]at h |-;unfold wG;split <;>(try split)<;>omega
 have ht:=Dj (g:=g) y nu;have l:=C6 (f:=si b (b+m)) (k:=wG b (b+m)) (H':=B.map (fU.eR (si b (b+m)))++(A.map (fU.eR (si b (b+m)))++C.map (fU.eR (si b (b+m))))) hdu hH (λi=>Ra D hB);have E:I (B.map (fU.eR (si b (b+m)))++(A.map (fU.eR (si b (b+m)))++C.map (fU.eR (si b (b+m)))))=I (A++(B++C)):=by simp[D,hB];omega
 have hH1:=Qu.eR ht hH (j7 _) l;have hfr2:=BM (Y:=A.map (fU.eR (si b (b+m)))++C.map (fU.eR (si b (b+m)))) (by simpa using hB) d
 obtain⟨k1,k2⟩:=Dw G (X:=X) (w0:=w0) (S0:=S0) (g:=g.via (wG b (b+m))) (w:=w) (vals:=vals) hfr2 (by simpa using hn) (λj v q a1 W=>by rw[jD,j5]at W;obtain⟨q',W,rfl⟩:=W;rw[E];exact(hr j v q' a1 W).eR ht) (by rw[E];exact hH1) ⟨hi.below,hi.size,hi.kk,hi.lt⟩ (hG.x0 λ_ _ h=>h)
 refine⟨k1,k2.mono λe w' he=>?_⟩;obtain⟨v,g1,rfl,z⟩:=he
 have L:I R=m:=by
  unfold jn at d;split at d
  case isFalse=>cases d
  split at d
  case h_2=>cases d
  rename_i p2 H3 hcl;split at d
  case isFalse=>cases d
  simp only[j9,jI]at d;have:=z.len;rw[E,hN,<-d.2]at this;rw[<-d.2];simp only[jW,zW,y7,jZ,D,hB]at this |-;omega
 have M:I (R++(A.map (fU.eR (si b (b+m)))++C.map (fU.eR (si b (b+m)))))=I (A++(B++C)):=by simp[D,hB,L];omega
 have hl3:I (A++R.map (fU.eR (wG b (b+m)))++C)=I (A++(B++C)):=by simp[D,hB,L]
 have F:=z.rep;have r:=z.heap;rw[M]at F r;have N:=Dj (g:=g1) hdu nd;have u:=C6 (f:=wG b (b+m)) (k:=si b (b+m)) (H':=A++R.map (fU.eR (wG b (b+m)))++C) y r (λi=>Nu D L y);have s:=z.ext;rw[E]at s;refine⟨v,g1.via (si b (b+m)),rfl,⟨s.S,s.cell,λi Q hl=>?_,λt ht3 v' n' ho=>?_⟩,by omega,?_,?_,⟨z.inv.below,z.inv.size,z.inv.kk,z.inv.lt⟩,⟨z.fr.size,λx hx hnx=>?_,λi x ho hx=>?_,λx o hs=>?_⟩⟩
 .obtain⟨a1,W⟩:=s.fg (si b (b+m) i) (nu i Q) (by show g.live (wG b (b+m) (si b (b+m) i));rw[y];exact hl);exact⟨a1.trans (by show g.fg (wG b (b+m) (si b (b+m) i))=_;rw[y]),W⟩
 .exact s.own (si b (b+m) t) (nu t ht3) v' n' (by show g.own (wG b (b+m) (si b (b+m) t))=_;rw[y];exact ho)
 .rw[hl3];exact F.eR N
 .rw[hl3];exact Qu.eR N r (by rw[M];exact j7 _) u
 .refine z.fr.ey x hx λi Q=>?_
  obtain⟨j,_,hj⟩:=oQ ht hH (j7 _) l Q;exact hnx j hj
 .obtain⟨j,_,hj⟩:=oQ N r (by rw[M];exact j7 _) u ho;obtain⟨j',hj'⟩:=z.fr.e8 j x hj hx;obtain⟨j2,_,T⟩:=oQ ht hH (j7 _) l hj';exact⟨j2,T⟩
 .rcases z.fr.pd x o hs with h|h|⟨j,h⟩
  .exact .inl h
  .exact .inr (.inl h)
  .obtain⟨j2,_,T⟩:=oQ ht hH (j7 _) l h;exact .inr (.inr ⟨j2,T⟩)
theorem pH{A C:List fU}{i:Nat}{x:fU}(h:(A++C)[i]?=O x):(i<I A/\A[i]?=O x)\/∃j,i=j+I A/\C[j]?=O x:=by
 rcases qD rfl h with h|⟨d,c⟩
 .exact .inl h
 .exact .inr ⟨i - I A,by omega,c⟩
theorem Tj(hcall:km P pf call){f:fM}{args:List PV}{H H2:List fU}{g:Gh}{w:fK}{p:PV}{vals:Array Value}(hf:yN call f args H=O (p,H2))(hn:vals.size=I args)(hr:∀(j:Nat) v q,vals[j]?=O v->args[j]?=O q->fW g (I H) w v q)(W:Qu P g X (I H) H w)(hi:Inv X w0 S0 g w)(hG:iU g w):
  (∃fn c,P.funcs[f]?=O fn/\fn.body=O c/\(fn.name== "runtime.NumGoroutine")=U)/\Calls P f vals w λe w'=>∃v g',e= .returned v/\Good P X w0 S0 H g w p H2 v g' w':=by
 unfold yN at hf;split at hf
 case isFalse=>cases hf
 rename_i hba;split at hf
 case h_2=>cases hf
 rename_i p1 R hcl;simp only[j9,jI]at hf;obtain⟨rfl,rfl⟩:=hf;obtain⟨k1,_,k3⟩:=hcall _ _ _ _ _ hcl;refine⟨k1,(k3 X w0 S0 g w vals hn (λj v q Q Y=>(hr j v q Q Y).nb (qT.refl 0 g) (j7 0) (lv hba Y)) (W.first (n:=0) (qT.refl 0 g) (j7 0) rfl) hi hG).mono λe w' he=>?_⟩;obtain⟨v,g1,rfl,r⟩:=he
 let T:Gh:={fg:=λi=>if i<I H then g.fg i else g1.fg (i - I H),live:=λi=>if i<I H then g.live i else g1.live (i - I H),own:=λi=>if i<I H then g.own i else g1.own (i - I H),S:=g1.S}
 have n1:∀i,¬(i+I H<I H):=λi=>by omega
 have n2:∀i,i+I H - I H=i:=λi=>by omega
 have eb:∀i,T.fg (i+I H)=g1.fg i:=λi=>by show(if _ then _ else _)=_;rw[ae (n1 i),n2]
 have el:∀i,T.live (i+I H)=g1.live i:=λi=>by show(if _ then _ else _)=_;rw[ae (n1 i),n2]
 have eo:∀i,T.own (i+I H)=g1.own i:=λi=>by show(if _ then _ else _)=_;rw[ae (n1 i),n2]
 have ob:∀i,i<I H->T.fg i=g.fg i:=λi h=>aj h
 have ol:∀i,i<I H->T.live i=g.live i:=λi h=>aj h
 have oo:∀i,i<I H->T.own i=g.own i:=λi h=>aj h
 have hlen:I (H++R.map (fU.eR (·+I H)))=I R+I H:=by simp;omega
 have ht:Fv (·+I H) g1 (I R) T (I R+I H):=
  ⟨rfl,λi hi2 hl=>⟨by show i+I H<_;omega,by rw[el];exact hl,eb i⟩,λt ht3 x d=>⟨by show t+I H<_;omega,by rw[eo];exact d⟩⟩
 have K:Ext (I H) g w T w':=⟨r.ext.S,r.ext.cell,λi hi2 hl=>⟨ob i hi2,by rw[ol i hi2];exact hl⟩,λt ht3 v' n' B=>⟨v',n',by rw[oo t ht3];exact B,j7 _,λ_=>rfl⟩⟩;have hle:I H<=I R+I H:=eU _ _;have D:∀i b,e8 g ([]:List fU) i≠O b:=λi b h=>by simp[e8]at h
 have L:∀{i b:Nat},e8 g H i=O b->b<w.heap.size:=λh=>(W.eM h).2.1
 have u:∀{i b:Nat},e8 g H i=O b->w'.heap[b]?=w.heap[b]?:=λB=>r.fr.ey _ (L B) λi=>D i _
 have M:∀{i b:Nat},e8 g H i=O b->∀o,T.S b o->g.S b o:=λB o hs=>by
  rcases r.fr.pd _ o hs with h|h|⟨j,h⟩
  .exact h
  .have:=L B;omega
  .exact absurd h (D j _)
 have s:∀{j:Nat} {y:fU},(R.map (fU.eR (·+I H)))[j]?=O y->∃x,R[j]?=O x/\y=x.eR (·+I H):=λh=>by rw[jD,j5]at h;obtain⟨x,E,C⟩:=h;exact⟨x,E,C.symm⟩
 have hheap:Qu P T X (I R+I H) (H++R.map (fU.eR (·+I H))) w':=by
  have N:∀{i b:Nat},e8 T (H++R.map (fU.eR (·+I H))) i=O b->(i<I H/\e8 g H i=O b)\/∃j,i=j+I H/\e8 g1 R j=O b:=λ{i b} h=>by
   by_cases c:i<I H
   .refine .inl ⟨c,?_⟩;rw[<-h];unfold e8;rw[zP c,ob i c,oo i c]
   .obtain⟨j,rfl⟩:∃j,i=j+I H:=⟨i - I H,by omega⟩;refine .inr ⟨j,rfl,?_⟩;rw[<-h];unfold e8;rw[zO y9,n2,jD,eb,eo];cases R[j]? with
    |none=>rfl
    |some x=>cases x<;>rfl
  refine⟨λi cs h=>?_,λi e k h=>?_,λi e k cs h=>?_,λi es h=>?_,λi e cs h=>?_,λi x h=>?_,λi j b E C=>?_⟩
  .rcases pH h with⟨m,d⟩|⟨j,rfl,d⟩
   .obtain⟨E,⟨vals',ty,C,F,A⟩,h5⟩:=W.box i cs d;rw[ob i m];exact⟨E,⟨vals',ty,by rw[u (iI d),C],F,λj v c Q Y=>(A j v c Q Y).ext K hle⟩,λo B=>h5 o (M (iI d) o B)⟩
   .obtain⟨x,F,A⟩:=s d;cases x<;>simp only[fU.eR,reduceCtorEq]at A
    cases A;rw[eb];obtain⟨b1,⟨vals,ty,b2,b3,b4⟩,b5⟩:=r.heap.box j _ F;refine⟨b1,⟨vals,ty,b2,by simpa using b3,λk v c q1 q2=>?_⟩,b5⟩;rw[jD,j5]at q2;obtain⟨c',q2,rfl⟩:=q2;exact(b4 k v c' q1 q2).eR ht
  .rcases pH h with⟨m,d⟩|⟨j,rfl,d⟩
   .obtain⟨v0,E,C⟩:=W.tok i e k d;have B:∀b,v0.ownBlock=O b->e8 g H i=O b:=λb G=>by rw[lD d,E];exact G
    exact⟨v0,by rw[oo i m];exact E,C.ey (λb G=>u (B b G)) (λb G=>M (B b G))⟩
   .obtain⟨x,F,A⟩:=s d;cases x<;>simp only[fU.eR,reduceCtorEq]at A
    cases A;obtain⟨v0,k1,k2⟩:=r.heap.tok j _ _ F;refine⟨v0,by rw[eo];exact k1,?_⟩;rcases k2 with k2|⟨b,cap,cur,size,Q,Y,a3,a4,a5,a6,a7,a8⟩
    .exact .inl k2
    .exact .inr ⟨b,cap,cur,size,Q,Y,a3,a4,a5,a6,a7,a8⟩
  .rcases pH h with⟨m,d⟩|⟨j,rfl,d⟩
   .obtain⟨v0,E,C⟩:=W.mt i e k cs d;have B:∀b,gh v0=O b->e8 g H i=O b:=λb G=>by rw[iO d,E];exact G
    exact⟨v0,by rw[oo i m];exact E,C.ey K hle (λb G=>u (B b G)) (λb G=>M (B b G))⟩
   .obtain⟨x,F,A⟩:=s d;cases x<;>simp only[fU.eR,reduceCtorEq]at A
    cases A;obtain⟨v0,k1,k2⟩:=r.heap.mt j _ _ _ F;refine⟨v0,by rw[eo];exact k1,?_⟩;rcases k2 with⟨rfl,k2⟩|⟨b,l,cap,cur,Q,q0,q1,q2,q3,q4,q5,q6,q7,q8⟩|⟨b,l,cap,cur,size,da,Q,q0,q1,q2,q3,q3',rfl,q4,q4',q5,q6,q7,q8⟩
    .exact .inl ⟨rfl,k2⟩
    .refine .inr (.inl ⟨b,l,cap,cur,Q,q0,q1,q2,q3,⟨by simpa using q4.1,by rw[aV,j8];intro x d;have:=an.1 q4.2 x d;cases x<;>first|exact this|rfl⟩,q5,q6,q7,λk v c z1 z2=>?_⟩)
     rw[jD,j5]at z2;obtain⟨c',z2,rfl⟩:=z2;exact(q8 k v c' z1 z2).eR ht
    .exact .inr (.inr ⟨b,l,cap,cur,size,da,Q,q0,q1,q2,q3,q3',by rw[zG];rfl,q4,q4',q5,q6,q7,q8⟩)
  .rcases pH h with⟨m,d⟩|⟨j,rfl,d⟩
   .obtain⟨E,⟨arr,clock,C,F,A⟩,h5⟩:=W.map i es d;rw[ob i m];exact⟨E,⟨arr,clock,⟨by rw[u (ku d),C.1],C.2⟩,F,λj v c Q Y=>⟨(A j v c Q Y).1,(A j v c Q Y).2.ext K hle⟩⟩,λo B=>h5 o (M (ku d) o B)⟩
   .obtain⟨x,F,A⟩:=s d;cases x<;>simp only[fU.eR,reduceCtorEq]at A
    cases A;rw[eb];obtain⟨b1,⟨arr,clock,b2,b3,b4⟩,b5⟩:=r.heap.map j _ F;refine⟨b1,⟨arr,clock,b2,by simpa using b3,λk v c q1 q2=>?_⟩,b5⟩;rw[jD,j5]at q2;obtain⟨c',q2,rfl⟩:=q2;exact⟨(b4 k v c' q1 q2).1,(b4 k v c' q1 q2).2.eR ht⟩
  .rcases pH h with⟨m,d⟩|⟨j,rfl,d⟩
   .obtain⟨v0,E,C⟩:=W.xb i e cs d;exact⟨v0,by rw[oo i m];exact E,C⟩
   .obtain⟨x,F,A⟩:=s d;cases x<;>simp only[fU.eR,reduceCtorEq]at A
    cases A;obtain⟨v0,k1,k2⟩:=r.heap.xb j _ _ F;exact⟨v0,by rw[eo];exact k1,k2⟩
  .rcases pH h with⟨m,d⟩|⟨j,rfl,d⟩
   .rw[ol i m,oo i m];exact W.live i x d
   .obtain⟨y,F,rfl⟩:=s d;obtain⟨q1,q2⟩:=r.heap.live j y F;rw[el,eo];refine⟨λhp=>q1 ?_,λhx2=>q2 (NT hx2)⟩;cases y<;>first|trivial|exact hp
  .rcases N E with⟨c1,o1⟩|⟨i',rfl,o1⟩<;>rcases N C with⟨c2,o2⟩|⟨j',rfl,o2⟩
   .exact W.sep i j b o1 o2
   .obtain⟨z,hz⟩:=r.fr.e8 j' b o2 (L o1);exact absurd hz (D z b)
   .obtain⟨z,hz⟩:=r.fr.e8 i' b o1 (L o2);exact absurd hz (D z b)
   .rw[r.heap.sep i' j' b o1 o2]
 refine⟨v,T,rfl,K,by omega,by rw[hlen];exact r.rep.eR ht,by rw[hlen];exact hheap,⟨r.inv.below,r.inv.size,r.inv.kk,r.inv.lt⟩,⟨r.fr.size,λb G hnb=>r.fr.ey b G λi=>D i b,λi b B G=>?_,λb o hs=>?_⟩⟩
 .by_cases c:i<I H
  .refine⟨i,?_⟩;rw[<-B];unfold e8;rw[zP c,ob i c,oo i c]
  .obtain⟨j,rfl⟩:∃j,i=j+I H:=⟨i - I H,by omega⟩
   have C:e8 g1 R j=O b:=by
    rw[<-B];unfold e8;rw[zO y9,n2,jD,eb,eo];cases R[j]? with
    |none=>rfl
    |some x=>cases x<;>rfl
   obtain⟨z,hz⟩:=r.fr.e8 j b C G;exact absurd hz (D z b)
 .rcases r.fr.pd b o hs with h|h|⟨j,h⟩
  .exact .inl h
  .exact .inr (.inl h)
  .exact absurd h (D j b)
end
def sP(F:Fence):Prop:=F=Fence.wide\/∃l,F=Fence.wide.inRound l
theorem sP.fn{F:Fence}(h:sP F)(f:fM):F.fn f:=by rcases h with rfl|⟨l,rfl⟩<;>exact trivial
theorem sP.depth{F:Fence}(h:sP F):F.depth=Z:=by rcases h with rfl|⟨l,rfl⟩<;>rfl
theorem sP.calls{F:Fence}(h:sP F){n:Nat}{P:fL}{f:fM}{args:Array Value}{w:fK}{R:Ending->fK->Prop}(hc:Calls P f args w R):CallsIn F n P f args w R:=by
 rcases h with rfl|⟨l,rfl⟩
 .exact callsIn_wide.2 hc
 .exact(callsIn_wide (n:=n)).2 hc
structure lU (P:fL) (X:Nat) (w0:fK) (S0:Nat->Nat->Prop) (Nb:Nat) (g:Gh) (st:St) (a:Act) (w:fK):Prop where
 heap:Qu P g X (I st.heap) st.heap w
 inv:Inv X w0 S0 g w
 rep:sC g (I st.heap) w a.tmps st.b6
 base:Nb<=I st.heap
def gS(S:Nat->Nat->Prop):Gh:={fg:=λ_=>0,live:=λ_=>False,own:=λ_=>Z,S}
theorem nz{P:fL}{X:Nat}{S0:Nat->Nat->Prop}{w0:fK}:Qu P (gS S0) X 0 [] w0:=⟨λi cs h=>by simp at h,λi e n h=>by simp at h,λi e n cs h=>by simp at h,λi es h=>by simp at h,λi e cs h=>by simp at h,λi x h=>by simp at h,λi j b h=>by simp[e8]at h⟩
theorem sR:∀(cs:List PV),(iG cs).isSome=J->∀c∈cs,∃d,c=.b7 d
 |[],_,c,hc=>by cases hc
 |.b7 d::r,h,c,hc=>by
  simp only[iG,Option.isSome_map]at h;rcases ar.1 hc with rfl|hc
  .exact⟨d,rfl⟩
  .exact sR r h c hc
 |.agg _::_,h,_,_=>by cases h
 |.fz _::_,h,_,_=>by cases h
 |.vec ..::_,h,_,_=>by cases h
 |.ptr ..::_,h,_,_=>by cases h
 |.eI ..::_,h,_,_=>by cases h
 |.arr ..::_,h,_,_=>by cases h
 |.fn ..::_,h,_,_=>by cases h
 |.ms ..::_,h,_,_=>by cases h
 |.mp ..::_,h,_,_=>by cases h
 |.hC ..::_,h,_,_=>by cases h
 |.j0 ..::_,h,_,_=>by cases h
 |.undef::_,h,_,_=>by cases h
section
variable{P:fL}{X:Nat}{w0:fK}{S0:Nat->Nat->Prop}{Nb:Nat}{F:Fence}{m:Nat}{pf:fM->Bool}{call:gO}{h:Hint}
theorem Ec(r:km P pf call){f:fM}{H:List fU}{es:List (Value×PV)}{g:Gh}{w:fK}{vals:Array Value}(hc:call f (([]:List fS).map .b7) []=O (.hC 0,[.map es]))(z:es.all (λe=>e.2.plainCell)=J)(hn:vals.size=0)(A:Qu P g X (I H) H w)(hi:Inv X w0 S0 g w)(M:iU g w):
  (∃fn c,P.funcs[f]?=O fn/\fn.body=O c/\(fn.name== "runtime.NumGoroutine")=U)/\Calls P f vals w λe w'=>∃v g',e= .returned v/\Good P X w0 S0 H g w (.hC (I H)) (H++[.map es]) v g' w':=by
 obtain⟨k1,_,k3⟩:=r _ _ _ _ _ hc;refine⟨k1,(k3 w.heap.size w g.S (gS g.S) w vals (by simpa using hn) (λj v q g1 Q=>by simp at Q) nz ⟨Below.refl _ _,j7 _,λb o h=>.inl h,hi.lt⟩ (M.x0 λ_ _ h=>h)).mono λe' B R=>?_⟩;obtain⟨v,g1,rfl,C⟩:=R;have s:=C.inv.below;obtain⟨m1,⟨arr,clock,m2,m3,m4⟩,m5⟩:=C.heap.map 0 es rfl
 let G:Gh:={fg:=λj=>if j=I H then g1.fg 0 else g.fg j,live:=λj=>j=I H\/g.live j,own:=g.own,S:=g.S}
 have d:G.fg (I H)=g1.fg 0:=by simp[G]
 have k:Ext (I H) g w G B:=⟨λ_ _ h=>h,λb o u=>s.cell (p:=⟨b,o,Z⟩) (hi.lt b o u),λi y h=>⟨by simp only[G];rw[ae y9],.inr h⟩,λt T v n h=>⟨v,n,h,j7 _,λ_=>rfl⟩⟩
 have W:v=.map (O (g1.fg 0)):=by have:=C.rep;cases this;rfl
 have l:∀i b,e8 G H i=O b->e8 g H i=O b:=λi b h=>iE (g:=g) h (λj Y=>by simp only[G];rw[ae y9]) (λj Y=>rfl)
 have x:Qu P G X (I H+1) H B:=A.ey k (eZ _) (j7 _) (λi b h=>s.block b (A.eM h).2.1) (λi b h o u=>u) (λt T=>rfl);refine⟨v,G,rfl,k,by simp,?_,?_,⟨hi.below.trans (s.mono hi.size),jX hi.size s.size,hi.kk,λb o u=>jP (hi.lt b o u) s.size⟩,Fr.kk s.size (λb h=>s.block b h) (λi b h y=>?_) (λb o h=>.inl h)⟩
 .have:=fW.hC (g:=G) (N:=I (H++[fU.map es])) (w:=B) (I H) ⟨by simp,.inl rfl⟩;rw[d]at this;rw[W];exact this
 .rw[jW];refine x.snoc _ (λ_ h=>by cases h) (λ_ _ h=>by cases h) (λi b h F=>?_) (hmap:=λes2 h=>?_)
  .rw[ku (es:=es) yB,d]at F;cases F;have h3:=(A.eM (l i _ h)).2.1;omega
  .cases h;rw[d];refine⟨jX hi.size m1,⟨arr,clock,m2,m3,λj m c K D=>⟨(m4 j m c K D).1,?_⟩⟩,λo u=>?_⟩
   .have E:=an.1 z c (jF D);have L:=(m4 j m c K D).2;generalize c.2=q at E L;cases q<;>first|(simp[PV.plainCell]at E;done)|skip
    exact .b7 _ _ (oF L.hX (by simpa[PV.plainCell]using E))
   .have:=hi.lt _ o u;omega
 .rcases tT h with h|⟨_,rfl⟩
  .exact⟨i,l i b h⟩
  .rw[d]at y;omega
theorem C0(A:km P pf call){f:fM}{args:List PV}{H H':List fU}{g:Gh}{w:fK}{p:PV}{vals:Array Value}(s:kW call f args H=O (p,H'))(hn:vals.size=I args)(hr:∀(j:Nat) v q,vals[j]?=O v->args[j]?=O q->fW g (I H) w v q)(T:Qu P g X (I H) H w)(hi:Inv X w0 S0 g w)(hG:iU g w):
  (∃fn c,P.funcs[f]?=O fn/\fn.body=O c/\(fn.name== "runtime.NumGoroutine")=U)/\Calls P f vals w λe w'=>∃v g',e= .returned v/\Good P X w0 S0 H g w p H' v g' w':=by
 unfold kW at s;split at s
 case h_2=>cases s
 rename_i ds hds;split at s
 case h_3=>cases s
 case h_2=>
  rename_i es hc;split at s
  case isFalse=>cases s
  rename_i m;simp only[j9,jI]at s;obtain⟨rfl,rfl⟩:=s;have hnil:args=[]:=dx.1 m.1;subst hnil;have hds0:ds=[]:=by simpa[gR]using hds.symm
  subst hds0;exact Ec A hc m.2 hn T hi hG
 rename_i t gg len cp H1 hc;split at s
 case h_2=>cases s
 rename_i e g' cs V;split at s
 case isFalse=>cases s
 rename_i m;obtain⟨rfl,K,hdat,r⟩:=m;cases s;obtain⟨p1,p2⟩:=kE _ _ hds;obtain⟨k1,_,k3⟩:=A _ _ _ _ _ hc
 have B:∀(j:Nat) v d,vals[j]?=O v->ds[j]?=O d->∃q,args[j]?=O q/\fW g (I H) w v q/\ja H q=O d:=λj v d g1 E=>by
  have hlt:j<I args:=by rw[<-p1];exact(af.1 E).1
  have hq:args[j]?=O args[j]:=jC hlt;exact⟨_,hq,hr j v _ g1 hq,p2 j _ d hq E⟩
 obtain⟨L,hSlt,W,M,hSup⟩:∃L:Nat->Nat->Prop,(∀b o,L b o->b<w.heap.size)/\(∀(j:Nat) v d,vals[j]?=O v->ds[j]?=O d->gL w L v d)/\(args.any PV.fx=U->∀b o,L b o->g.S b o)/\(∀b o,g.S b o->L b o):=by
  by_cases hl:args.any PV.fx=J
  .refine⟨(g.drop H 0).S,λb o k=>?_,λj v d g1 E=>?_,λh=>(by rw[hl]at h;cases h),λ_ _ h=>.inl h⟩
   .rcases k with k|⟨j,hj,hjb,_⟩
    .exact hi.lt b o k
    .exact(T.eM hjb).2.1
   .obtain⟨q,h1,y,h3⟩:=B j v d g1 E;exact ni T y h3
  .refine⟨g.S,hi.lt,λj v d g1 E=>?_,λ_ _ _ h=>h,λ_ _ h=>h⟩;obtain⟨q,h1,y,h3⟩:=B j v d g1 E;refine nR y h3 ?_;have:=bF.1 (by simpa using hl) q (jF h1)
   simpa using this
 refine⟨k1,(k3 w.heap.size w L (gS L) w vals yA (λj v q g1 E=>?_) nz ⟨Below.refl _ _,j7 _,λb o h=>.inl h,hSlt⟩ (hG.x0 hSup)).mono λe' w1 he=>?_⟩
 .simp only[jD,j5]at E;obtain⟨d,hd,rfl⟩:=E;exact .b7 _ _ (W j v d g1 hd)
 obtain⟨v,g1,rfl,hg⟩:=he
 let G:Gh:={fg:=g.fg,live:=g.live,own:=λj=>if j=I H then O (v,1)else g.own j,S:=λb o=>g.S b o\/(g1.S b o/\w.heap.size<=b)}
 have Y:=hg.inv.below;have C:∀b o,g1.S b o->L b o\/w.heap.size<=b:=hg.inv.kk;have D:∀b o,G.S b o->g.S b o\/w.heap.size<=b:=λb o h=>h.imp id λh=>h.2
 have N:Ext (I H) g w G w1:=⟨λ_ _ h=>.inl h,λb o k=>Y.cell (p:=⟨b,o,Z⟩) (hi.lt b o k),λ_ _ h=>⟨rfl,h⟩,λt ht v n h=>⟨v,n,by simp only[G];rw[ae y9];exact h,j7 _,λ_=>rfl⟩⟩;have z:G.own (I H)=O (v,1):=by simp[G]
 obtain⟨v1,o1,o2⟩:=hg.heap.mt t e g' cs (by have:=ZO V;simpa using this)
 have key:Lg v/\v=iK v 0 len/\(∃a c,v=.slice a len c/\len<=c/\(0<c->a.isSome=J))/\(∀b,gh v=O b->w.heap.size<=b)/\qZ P G (I H+1) X w1 e (cs.take len) v:=by
  have hrep:=hg.rep;cases hrep with
  |ms _ _ _ _ _ _ v0 n r1 r2 r3 r4 r5=>
   rw[r2]at o1;simp only[j9,jI]at o1;obtain⟨rfl,rfl⟩:=o1;obtain⟨hv,_⟩:=r4 rfl
   have hup:∀(u:fS) (x:fP),gL w1 g1.S x u->args.any PV.fx=U->gL w1 G.S x u:=λu x hu hl=>hu.mono (λb o h=>by
    rcases C b o h with y|y
    .exact .inl (M hl b o y)
    .exact .inr ⟨h,y⟩) λ_ _ _=>rfl
   rcases o2 with⟨rfl,hv0⟩|⟨b,l,cap,cur,rfl,q0,q1,q2,q3,q4,q5,q6,q7,q8⟩|⟨b,l,cap,cur,size,da,rfl,q0,q1,q2,q3,q3',rfl,q4,q4',q5,q6,q7,q8⟩
   .obtain rfl:len=0:=by simpa using K
    rcases hv0 with rfl|⟨a,rfl⟩
    .subst hv;exact⟨.inl rfl,rfl,⟨Z,0,rfl,j7 _,λh=>absurd h (zA _)⟩,λb h=>by simp[gh,iK]at h,.inl ⟨rfl,.inl rfl⟩⟩
    .subst hv;refine⟨.inr (.inl ⟨_,rfl⟩),by simp[iK,Addr.add],⟨_,0,rfl,j7 _,λ_=>rfl⟩,λb h=>by simp[gh,iK]at h,.inl ⟨rfl,.inr ⟨_,rfl⟩⟩⟩
   .have hv':v=.slice (O ⟨b,0,Z⟩) len cap:=by rw[hv];simp[iK,Addr.add]
    subst hv'
    have hlc:len<=cap:=by obtain⟨a9,c9,e9,_,e10,_⟩:=r5;cases e9;exact e10
    refine⟨.inr (.inr ⟨b,len,cap,rfl⟩),by simp[iK,Addr.add],⟨_,cap,rfl,hlc,λ_=>rfl⟩,λb' h=>?_,.inr (.inl ⟨b,len,cap,cur,rfl,q0,jX hi.size q1,q2,q3,⟨by have:=q4.1;simp;omega,AH q4.2 len⟩,q5,q6,λo k=>k.elim (λk=>by have:=hi.lt b o k;omega) (λk=>q7 o k.1),λj u c Q F=>?_⟩)⟩
    .simp[gh]at h;omega
    .rw[jR]at F;split at F
     .obtain⟨d,rfl⟩:=sR _ hdat c (jF (i:=j) (by rw[jR,aj (by assumption)];exact F));have hu:=(q8 j u _ Q F).hX;by_cases hl:args.any PV.fx=J
      .rw[hl]at r;exact .b7 _ _ (oF hu (an.1 (by simpa using r) (PV.b7 d) (jF (i:=j) (by rw[jR,aj (by assumption)];exact F))))
      .refine .b7 _ _ (hu.mono (λb o h=>?_) λ_ _ _=>rfl);rcases C b o h with y|y
       .exact .inl (M (by simpa using hl) b o y)
       .exact .inr ⟨h,y⟩
     .cases F
   .have hv':v=.slice (O ⟨b,0,Z⟩) len cap:=by rw[hv];simp[iK,Addr.add]
    subst hv';have hlen':len<=I da:=by simpa using K
    refine⟨.inr (.inr ⟨b,len,cap,rfl⟩),by simp[iK,Addr.add],⟨_,cap,rfl,by omega,λ_=>rfl⟩,λb' h=>?_,.inr (.inr ⟨b,len,cap,cur,size,da.take len,rfl,q0,jX hi.size q1,q2,q3,q3',by rw[cM],Aj q4 len,by rw[zW];omega,q5,q6,λo k=>k.elim (λk=>by have:=hi.lt b o k;omega) (λk=>q7 o k.1),λi j d u x Q F a3=>?_⟩)⟩
    .simp[gh]at h;omega
    .have hmem:=jF Q;rw[jR]at Q;split at Q
     .have hu:=q8 i j d u x Q F a3;by_cases hl:args.any PV.fx=J
      .rw[hl]at r;have k:d.scalar=J:=an.1 (by simpa using r) (PV.b7 d) (by rw[<-cM];exact aq.2 ⟨d,hmem,rfl⟩);refine oF hu ?_;have hnum:=ia (an.1 q4 d (jF Q));rw[oE hnum q3']at k;have:=an.1 k u (jF F);cases u<;>simp_all [fS.scalar]
      .exact hup u x hu (by simpa using hl)
     .cases Q
 obtain⟨c1,c2,⟨a0,c0,c3,c4,c5⟩,c6,c7⟩:=key
 have hkeep:Qu P G X (I H+1) H w1:=T.ey N (eZ _) (j7 _) (λi b h=>Y.block b (T.eM h).2.1) (λi b h o k=>by
  rcases D b o k with k|k
  .exact k
  .exact absurd (T.eM h).2.1 y9) (λt ht=>by simp only[G];rw[ae y9])
 have R:∀i b,e8 G H i=O b->e8 g H i=O b:=λi b h=>iE (g:=g) h (λ_ _=>rfl) (λj hj=>by simp only[G];rw[ae y9])
 refine⟨v,G,rfl,N,by simp,?_,?_,?_,?_⟩
 .exact .ms _ _ _ _ _ _ v 1 yB z (j7 _) (λ_=>⟨c2,c1⟩) ⟨a0,c0,c3,c4,c4,c5⟩
 .rw[jW];refine hkeep.snoc _ (λ_ h=>by cases h) (λ_ _ h=>by cases h) (λi b h y=>?_) (λe2 n2 cs2 h=>?_)
  .rw[iO (e:=e) (n:=1) (cs:=cs.take len) yB,z]at y;have h3:=(T.eM (R i b h)).2.1;have h4:=c6 b y;omega
  .cases h;exact⟨v,z,c7⟩
 .refine⟨hi.below.trans (Y.mono hi.size),jX hi.size Y.size,λb o k=>?_,λb o k=>?_⟩
  .rcases D b o k with k|k
   .exact hi.kk b o k
   .exact .inr (jX hi.size k)
  .rcases k with k|k
   .exact jP (hi.lt b o k) Y.size
   .exact hg.inv.lt b o k.1
 .refine Fr.kk Y.size (λb h=>Y.block b h) (λi b h hlt=>?_) (λb o h=>(D b o h).imp id λh=>.inl h);rcases oL h with h|⟨_,h⟩
  .exact⟨i,R i b h⟩
  .rw[z]at h;have:=c6 b h;omega
theorem Nx(m:km P pf call){f:fM}{args:List PV}{H H1:List fU}{g:Gh}{w:fK}{p:PV}{ds:List fS}{d:fS}{vals:Array Value}(hl:¬args.any PV.fx=J)(y:gR H args=O ds)(hc:call f (ds.map .b7) []=O (p,H1))(u:ja H1 p=O d)(hn:vals.size=I args)(E:∀(j:Nat) v q,vals[j]?=O v->args[j]?=O q->fW g (I H) w v q)(z:Qu P g X (I H) H w)(hi:Inv X w0 S0 g w)(F:iU g w):
  (∃fn c,P.funcs[f]?=O fn/\fn.body=O c/\(fn.name== "runtime.NumGoroutine")=U)/\Calls P f vals w λe w'=>∃v g',e= .returned v/\Good P X w0 S0 H g w (.b7 d) H v g' w':=by
 obtain⟨p1,G⟩:=kE _ _ y;obtain⟨k1,_,k3⟩:=m _ _ _ _ _ hc;refine⟨k1,(k3 w.heap.size w g.S (gS g.S) w vals yA (λj v q g1 D=>?_) nz ⟨Below.refl _ _,j7 _,λb o h=>.inl h,hi.lt⟩ (F.x0 λ_ _ h=>h)).mono λe w' x=>?_⟩
 .simp only[jD,j5]at D;obtain⟨d,u,rfl⟩:=D;have l:j<I args:=by rw[<-p1];exact(af.1 u).1
  have A:args[j]?=O args[j]:=jC l;have B:=bF.1 (by simpa using hl) _ (jF A);have K:gL w g.S v d:=nR (E j v _ g1 A) (G j _ d A u) (by simpa using B);exact .b7 _ _ K
 obtain⟨v,g1,rfl,r⟩:=x;have s:=r.inv.below
 have C:∀b o,(g1.drop H1 0).S b o->g.S b o\/(w.heap.size<=b/\b<w'.heap.size):=λb o k=>by
  have l:b<w'.heap.size:=by
   rcases k with k|⟨j,_,t,_⟩
   .exact r.inv.lt b o k
   .exact(r.heap.eM t).2.1
  rcases k with k|⟨j,_,t,_⟩
  .rcases r.inv.kk b o k with h|h
   .exact .inl h
   .exact .inr ⟨h,l⟩
  .exact .inr ⟨(r.heap.eM t).1,l⟩
 have L:fW {g with S:=λb o=>g.S b o\/(w.heap.size<=b/\b<w'.heap.size)} (I H) w' v (.b7 d):=.b7 _ _ ((ni r.heap r.rep u).mono C λ_ _ _=>rfl)
 have x:Ext (I H) g w {g with S:=λb o=>g.S b o\/(w.heap.size<=b/\b<w'.heap.size)} w':=
  ⟨λ_ _ h=>.inl h,λb o k=>s.cell (p:=⟨b,o,Z⟩) (hi.lt b o k),λ_ _ h=>⟨rfl,h⟩,λ_ _ v n h=>⟨v,n,h,j7 _,λ_=>rfl⟩⟩
 refine⟨v,_,rfl,x,j7 _,L,z.ey x (j7 _) (j7 _) (λi b h=>s.block b (z.eM h).2.1) (λi b h o k=>?_) (λ_ _=>rfl),⟨hi.below.trans (s.mono hi.size),jX hi.size s.size,λb o k=>?_,λb o k=>?_⟩,Fr.kk s.size (λb h=>s.block b h) (λi b h _=>⟨i,iE (g:=g) h (λ_ _=>rfl) (λ_ _=>rfl)⟩) (λb o h=>h.imp id λh=>.inl h.1)⟩
 .rcases k with k|⟨k,_⟩
  .exact k
  .exact absurd (z.eM h).2.1 y9
 .rcases k with k|⟨k,_⟩
  .exact hi.kk b o k
  .exact .inr (jX hi.size k)
 .rcases k with k|⟨_,k⟩
  .exact jP (hi.lt b o k) s.size
  .exact k
theorem Ss(l:km P pf call){f:fM}{ops:List Operand}{args:List PV}{t e:Nat}{H H':List fU}{g:Gh}{w:fK}{a:Act}{p:PV}{D:fO->PV}(n:wx call f ops (ops.map D) t e H=O (p,H'))(M:Nai g H w a D)(u:Qu P g X (I H) H w)(hi:Inv X w0 S0 g w)(y:iU g w):
  (∃fn c,P.funcs[f]?=O fn/\fn.body=O c/\(fn.name== "runtime.NumGoroutine")=U)/\Calls P f (ops.map a.eval).toArray w λe w'=>∃v g',e= .returned v/\Good P X w0 S0 H g w p H' v g' w':=by
 unfold wx at n;split at n
 case h_2=>cases n
 rename_i s;have d:=Bl (P:=P) (S0:=S0) (w0:=w0) u hi e;obtain⟨k1,_,k3⟩:=l _ _ _ _ _ n;refine⟨k1,(k3 X w0 S0 _ w (ops.map a.eval).toArray yB (λj v q g1 k=>?_) d.heap d.inv (y.ext d.ext)).mono λe' B z=>?_⟩
 .simp only[bb,jD,j5]at g1;obtain⟨x,r,rfl⟩:=g1;rw[zF]at k;split at k
  .rename_i A;subst A;split at k
   .simp at k;subst k;rw[s]at r;simp at r;subst r;exact d.rep
   .cases k
  .simp only[jD,r,jN,j9]at k;subst k;exact(M x).ext d.ext d.len
 .obtain⟨v,g',rfl,m⟩:=z;exact⟨v,g',rfl,d.ext.trans m.ext d.len,jX d.len m.len,m.rep,m.heap,m.inv,d.fr.trans m.fr⟩
theorem mv{f:fM}{fn:Func}{c:Code}(e:P.funcs[f]?=O fn)(g:fn.body=O c)(hn:(fn.name== "runtime.NumGoroutine")=U)(args:Array Value)(w:fK):
  (callFunc f args).run P w=.ok (.enter f args) w:=by
 have d:¬fn.name= "runtime.NumGoroutine" :=by simpa using hn
 simp[callFunc,e,g,d]
theorem uL(hF:sP F)(l:km P pf call){ow:List (Nat×TypeId)}{o:Oper}{st:St}{p:PV}{H':List fU}{g:Gh}{a:Act}{w:fK}{K:Act->fK->Prop}{Q:Exit->Act->fK->Prop}(k:gU P call ow o (ev st.b6) st.heap=O (p,H'))(hst:lU P X w0 S0 Nb g st a w)(hK:∀v g' w',Good P X w0 S0 st.heap g w p H' v g' w'->K (a.put o.dst v) w'):o.wpIn F m P a w K Q:=by
 have M:∀x,fW g (I st.heap) w (a.eval x) (ev st.b6 x):=λx=>hst.rep.ev x
 refine⟨λf _=>hF.fn f,?_⟩;have hnd:∀c,o.op≠.defer c:=λc e=>by rw[gU]at k;simp[e]at k
 rw[Oper.semAt_eq _ _ _ hnd];by_cases hc:∃f args ts,o.op=.call {callee:=.value f,args,argTypes:=ts}
 .obtain⟨f,args,ts,ho⟩:=hc
  have T:∀(r:gO),(∀n A p' H2,r n A st.heap=O (p',H2)->(∃fn c,P.funcs[n]?=O fn/\fn.body=O c/\(fn.name== "runtime.NumGoroutine")=U)/\∀vals:Array Value,vals.size=I A->(∀(j:Nat) v q,vals[j]?=O v->A[j]?=O q->fW g (I st.heap) w v q)->Calls P n vals w λe w'=>∃v g',e= .returned v/\Good P X w0 S0 st.heap g w p' H2 v g' w')->
    ∀(n:fM) (cap:List PV) (y:Array Value),a.eval f=.func (.func n) #[] y->y.size=I cap->
    (∀(j:Nat) v q,y[j]?=O v->cap[j]?=O q->fW g (I st.heap) w v q)->r n (args.toList.map (ev st.b6)++cap) st.heap=O (p,H')->
    o.uponIn F m P a K Q ((execOp a.eval o).run P w):=λr hc2 n cap y hf hl hcr W=>by
   obtain⟨⟨fn,c,N,Y,h3⟩,h4⟩:=hc2 _ _ _ _ W
   have z:(execOp a.eval o).run P w=.ok (.enter n (args.map a.eval++y)) w:=by simp[execOp,ho,resolve,hf,Deferred.ofValue,invoke,mv N Y h3]
   rw[z];refine⟨λB=>(by rw[hF.depth]at B;cases B),hF.calls ((h4 _ (by simp[hl]) (λj v q g1 D=>?_)).mono λe w' S=>?_)⟩
   .rw[aL]at g1;rw[jT]at D;simp only[Array.size_map,jZ,bj]at g1 D;split at g1
    .rename_i hj;rw[aj hj]at D;simp only[zL,j5]at g1;obtain⟨x,E,rfl⟩:=g1;simp only[jD,zI,E,jN,j9]at D;subst D;exact M x
    .rename_i hj;rw[ae hj]at D;exact hcr _ v q g1 D
   .obtain⟨v,g',rfl,G⟩:=S;exact hK v g' w' G
  have t:=M f
  have L:∀(r:gO),(∀n A p' H2,r n A st.heap=O (p',H2)->(∃fn c,P.funcs[n]?=O fn/\fn.body=O c/\(fn.name== "runtime.NumGoroutine")=U)/\∀vals:Array Value,vals.size=I A->(∀(j:Nat) v q,vals[j]?=O v->A[j]?=O q->fW g (I st.heap) w v q)->Calls P n vals w λe w'=>∃v g',e= .returned v/\Good P X w0 S0 st.heap g w p' H2 v g' w')->
    mz r (ev st.b6 f) (args.toList.map (ev st.b6)) st.heap=O (p,H')->o.uponIn F m P a K Q ((execOp a.eval o).run P w):=λr hc2 k=>by
   unfold mz at k;split at k
   .rename_i n first cap E
    rw[E]at t;have B:=t.hX;have H:=t.e6 (u:=.func (.func n) first cap) rfl;rw[H]at B;have s:kd (.func (.func n) first cap)=J:=by cases B;assumption
    simp only[kd,jE,cP]at s;obtain⟨rfl,rfl⟩:=s;exact T r hc2 n [] #[] H rfl (λj v q h=>by simp at h) (by simpa using k)
   .rename_i n cap E;rw[E]at t;generalize H:a.eval f=vf at t;cases t with
    |fn f vs cs N Y=>exact T r hc2 _ cap vs H N Y k
   .cases k
  have hcG:∀n A p' H2,call n A st.heap=O (p',H2)->(∃fn c,P.funcs[n]?=O fn/\fn.body=O c/\(fn.name== "runtime.NumGoroutine")=U)/\∀vals:Array Value,vals.size=I A->(∀(j:Nat) v q,vals[j]?=O v->A[j]?=O q->fW g (I st.heap) w v q)->Calls P n vals w λe w'=>∃v g',e= .returned v/\Good P X w0 S0 st.heap g w p' H2 v g' w':=λn A p' H2 h=>by obtain⟨k1,_,k3⟩:=l _ _ _ _ _ h;exact⟨k1,λvals hn hr=>k3 X w0 S0 g w vals hn hr hst.heap hst.inv hst.rep.py⟩
  have plain:mz call (ev st.b6 f) (args.toList.map (ev st.b6)) st.heap=O (p,H')->o.uponIn F m P a K Q ((execOp a.eval o).run P w):=L call hcG
  have winf:∀b d,sf call (ev st.b6 f) (args.toList.map (ev st.b6)) b d st.heap=O (p,H')->o.uponIn F m P a K Q ((execOp a.eval o).run P w):=λb d k=>L (FD call b d) (λn A p' H2 h=>by
   unfold FD at h;by_cases hlb:I st.heap<=b
   .rw[aj hlb]at h;refine⟨?_,λvals hn hr=>(Tj l h hn hr hst.heap hst.inv hst.rep.py).2⟩;unfold yN at h;split at h
    case isFalse=>cases h
    split at h
    case h_2=>cases h
    rename_i W;exact(l _ _ _ _ _ W).1
   .rw[ae hlb]at h;refine⟨?_,λvals hn hr=>(Tc l h hn hr hst.heap hst.inv hst.rep.py).2⟩;unfold u4 at h;split at h
    case isFalse=>cases h
    split at h
    case h_2=>cases h
    rename_i hfr;unfold jn at hfr;split at hfr
    case isFalse=>cases hfr
    split at hfr
    case h_2=>cases hfr
    rename_i W;exact(l _ _ _ _ _ W).1) k
  have key:∀(n:fM) (cap:List PV) (y:Array Value),a.eval f=.func (.func n) #[] y->y.size=I cap->
    (∀(j:Nat) v q,y[j]?=O v->cap[j]?=O q->fW g (I st.heap) w v q)->call n (args.toList.map (ev st.b6)++cap) st.heap=O (p,H')->
    o.uponIn F m P a K Q ((execOp a.eval o).run P w):=T call hcG
  have frame:∀d,lB call (ev st.b6 f) (args.toList.map (ev st.b6)) d st.heap=O (p,H')->o.uponIn F m P a K Q ((execOp a.eval o).run P w):=λd k=>by
   unfold lB at k;split at k
   case h_2=>cases k
   rename_i n first cap E
   rw[E]at t;have B:=t.hX;have H:=t.e6 (u:=.func (.func n) first cap) rfl;rw[H]at B;have s:kd (.func (.func n) first cap)=J:=by cases B;assumption
   simp only[kd,jE,cP]at s;obtain⟨rfl,rfl⟩:=s
   have C:=Dw l (vals:=args.map a.eval) k yB (λj v q g1 D=>by simp only[zL,j5]at g1;obtain⟨x,E,rfl⟩:=g1;simp only[jD,zI,E,jN,j9]at D;subst D;exact M x) hst.heap hst.inv hst.rep.py
   obtain⟨⟨fn,c,N,Y,h3⟩,h4⟩:=C
   have z:(execOp a.eval o).run P w=.ok (.enter n (args.map a.eval)) w:=by simp[execOp,ho,resolve,H,Deferred.ofValue,invoke,mv N Y h3]
   rw[z];refine⟨λB=>(by rw[hF.depth]at B;cases B),hF.calls (h4.mono λe w' S=>?_)⟩;obtain⟨v,g',rfl,G⟩:=S;exact hK v g' w' G
  rw[gU]at k;simp only[ho]at k;split at k
  case h_2=>
   rename_i jj ee ow';by_cases h13:13000<=jj
   .rw[aj h13]at k;unfold p5 at k;split at k
    case h_2=>cases k
    rename_i q R hf
    have hR:R=st.heap/\q=p/\H'=st.heap:=by
     split at k
     .rename_i S;cases k;exact⟨tH S,rfl,rfl⟩
     .split at k
      .rename_i S;cases k;exact⟨S,rfl,rfl⟩
      .cases k
    obtain⟨e1,e2,e3⟩:=hR;exact frame _ (by rw[hf,e1,e2,e3])
   rw[ae h13]at k;by_cases h12:12000<=jj
   .rw[aj h12]at k;by_cases h125:12500<=jj
    .rw[aj h125]at k;exact winf _ _ k
    .rw[ae h125]at k;exact frame _ k
   rw[ae h12]at k;by_cases h70:jj=7000
   .rw[aj h70]at k;unfold p6 at k;split at k
    case h_2=>cases k
    rename_i n first cap E
    split at k
    .cases k
    rename_i hl;split at k
    case h_2=>cases k
    rename_i ds hps;split at k
    case h_2=>cases k
    rename_i p1 H1 hc1;simp only[j5]at k;obtain⟨d,hd1,k⟩:=k;cases k;rw[E]at t;have B:=t.hX;have H:=t.e6 (u:=.func (.func n) first cap) rfl;rw[H]at B;have s:kd (.func (.func n) first cap)=J:=by cases B;assumption
    simp only[kd,jE,cP]at s;obtain⟨rfl,rfl⟩:=s
    have C:=Nx l (vals:=args.map a.eval) hl hps hc1 hd1 yB (λj v q g1 D=>by simp only[zL,j5]at g1;obtain⟨x,E,rfl⟩:=g1;simp only[jD,zI,E,jN,j9]at D;subst D;exact M x) hst.heap hst.inv hst.rep.py
    obtain⟨⟨fn,c,N,Y,h3⟩,h4⟩:=C
    have z:(execOp a.eval o).run P w=.ok (.enter n (args.map a.eval)) w:=by simp[execOp,ho,resolve,H,Deferred.ofValue,invoke,mv N Y h3]
    rw[z];refine⟨λB=>(by rw[hF.depth]at B;cases B),hF.calls (h4.mono λe w' S=>?_)⟩;obtain⟨v,g',rfl,G⟩:=S;exact hK v g' w' G
   rw[ae h70]at k;by_cases h60:6000<=jj
   .rw[aj h60]at k;unfold rN at k;split at k
    .rename_i v' H1 N;split at k
     .cases k;exact plain N
     .cases k
    .cases k
   rw[ae h60]at k;split at k
   case h_2=>cases k
   rename_i n first cap E
   rw[E]at t;have B:=t.hX;have H:=t.e6 (u:=.func (.func n) first cap) rfl;rw[H]at B;have s:kd (.func (.func n) first cap)=J:=by cases B;assumption
   simp only[kd,jE,cP]at s;obtain⟨rfl,rfl⟩:=s
   have C:(∃fn c,P.funcs[n]?=O fn/\fn.body=O c/\(fn.name== "runtime.NumGoroutine")=U)/\Calls P n (args.map a.eval) w λe w'=>∃v g',e= .returned v/\Good P X w0 S0 st.heap g w p H' v g' w':=by
    split at k
    .unfold tm at k;split at k
     .rename_i p1 H1 N;simp only[j5]at k;obtain⟨⟨d,H2⟩,hc1,k⟩:=k;cases k
      obtain⟨k1,k2⟩:=C0 l (w:=w) (vals:=args.map a.eval) N yB (λj v q g1 D=>by simp only[zL,j5]at g1;obtain⟨x,E,rfl⟩:=g1;simp only[jD,zI,E,jN,j9]at D;subst D;exact M x) hst.heap hst.inv hst.rep.py
      refine⟨k1,k2.mono λe w' S=>?_⟩;obtain⟨v,g1,rfl,G⟩:=S
      obtain⟨D,l2,e2,Y,i2,f2,l3,r2⟩:=mW [p1] [v] g1 H1 [d] H2 G.heap G.inv (λj u c H hc=>by
       cases j with
       |zero=>simp at H hc;subst H hc;exact G.rep
       |succ j=>simp at H) (by simp[gy,hc1])
      exact⟨v,D,rfl,G.ext.trans e2 G.len,by rw[l2];exact G.len,.b7 _ _ (r2 0 v d rfl rfl),by rw[l2];exact Y,i2,G.fr.trans f2⟩
     .cases k
    split at k
    .have:=Ss l (w:=w) (a:=a) (args:=[]) k M hst.heap hst.inv hst.rep.py;have e:(args.toList.map a.eval).toArray=args.map a.eval:=by apply Array.ext';simp
     rw[e]at this;exact this
    .exact C0 l (w:=w) (vals:=args.map a.eval) k yB (λj v q g1 D=>by simp only[zL,j5]at g1;obtain⟨x,E,rfl⟩:=g1;simp only[jD,zI,E,jN,j9]at D;subst D;exact M x) hst.heap hst.inv hst.rep.py
   obtain⟨⟨fn,c,N,Y,h3⟩,h4⟩:=C
   have z:(execOp a.eval o).run P w=.ok (.enter n (args.map a.eval)) w:=by simp[execOp,ho,resolve,H,Deferred.ofValue,invoke,mv N Y h3]
   rw[z];refine⟨λB=>(by rw[hF.depth]at B;cases B),hF.calls (h4.mono λe w' S=>?_)⟩;obtain⟨v,g',rfl,G⟩:=S;exact hK v g' w' G
  exact plain k
 .obtain⟨v,g',w',hres,G⟩:=Mw (a:=a) (λf args ts e=>hc ⟨f,args,ts,e⟩) hst.heap hst.inv M k;rcases hres with hr|⟨hr,rfl⟩
  .rw[hr];exact hK v g' w' G
  .rw[hr];exact hK undef g' w' G
theorem kU{g:Gh}{N:Nat}{w:fK}{tmps:Array Value}{s:List PV}{ops:Array Oper}{o:Oper}{b:Bool}(l:sC g N w tmps s)(hw:gI ops s o=O b):
  Region.wanted o (yielded ops tmps)=b:=by
 unfold gI at hw;unfold Region.wanted;split at hw
 .rename_i m;simp only[m];exact jS hw
 .rename_i j f m;simp only[m];split at hw
  .cases hw
  .rename_i d p;have e:=l.2 d;split at hw
   .rename_i b' k;have c:d<tmps.size:=by rw[l.1];exact(af.1 k).1
    rw[jB,k,aE]at e;have:=e.e6 (u:=.bool b') rfl;rw[jH,jA c,aE]at this
    have n:yielded ops tmps j=O b':=by unfold yielded;rw[p];simp[jA c,this]
    rw[n];have:=jS hw;rw[<-this];cases b'<;>cases f<;>rfl
   .rename_i k;have c:d<tmps.size:=by rw[l.1];exact(af.1 k).1
    rw[jB,k,aE]at e;rw[jH,jA c,aE]at e
    have n:yielded ops tmps j=Z:=by unfold yielded;rw[p];simp only[zX,jA c];generalize tmps[d]=u at e;cases e;rfl
    rw[n];have:=jS hw;rw[<-this];rfl
   .cases hw
theorem nT{g:Gh}{N:Nat}{w:fK}:fW g N w undef (.fz []):=.fz _ _ rfl (λj v c h=>by simp at h)
theorem lU.put{g g':Gh}{st:St}{a:Act}{w w':fK}{p:PV}{H':List fU}{v:fP}(hst:lU P X w0 S0 Nb g st a w)(c:Good P X w0 S0 st.heap g w p H' v g' w')(d:Option Tmp):
  lU P X w0 S0 Nb g' ⟨mH st.b6 d p,H'⟩ (a.put d v) w':=
 ⟨c.heap,c.inv,(hst.rep.ext c.ext c.len).put d c.rep,jX hst.base c.len⟩
theorem ji(a:Act)(d:Option Tmp)(v:fP):(a.put d v).defers=a.defers:=by cases d<;>rfl
theorem pr(p:sP F)(d:km P pf call){r:Nat}{ops:Array Oper}{Q:Exit->Act->fK->Prop}:∀(os:List Oper) (i:Nat) (st st':St) (g:Gh) (a:Act) (w:fK),
  lR P call h r ops i os st=O st'->(∀j,os[j]?=ops[i+j]?)->lU P X w0 S0 Nb g st a w->
  (∀g' a' w',Ext Nb g w g' w'->Fr g st.heap w g' st'.heap w'->lU P X w0 S0 Nb g' st' a' w'->a'.defers=a.defers->Q .normal a' w')->wpOpsIn F m P ops Q (List.range' i (I os)) a w
 |[],i,st,st',g,a,w,k,_,hst,q=>by cases k;exact q g a w (Ext.refl _ _ _) (Fr.refl _ _ _) hst rfl
 |o::os,i,st,st',g,a,w,k,hl,hst,q=>by
  have h0:ops[i]?=O o:=by simpa using(hl 0).symm
  have l:∀j,os[j]?=ops[i+1+j]?:=λj=>by have:=hl (j+1);rw[show i+1+j=i+(j+1) by omega];simpa using this
  simp only[zH,cn,wpOpsIn,h0];unfold lR at k;split at k
  .rename_i C c;unfold iW at c;split at c
   .rename_i hw;rw[kU hst.rep hw,aj rfl];split at c
    .rename_i v H n;cases c;refine uL p d n hst λu g' w' s=>?_
     refine pr p d os (i+1) _ _ g' _ w' k l (hst.put s o.dst) λt x y z A e B=>?_
     exact q t x y ((s.ext.less hst.base).trans z (j7 _)) (s.fr.trans A) e (B.trans (ji _ _ _))
    .cases c
   .rename_i hw;rw[kU hst.rep hw];simp only[j6,ai];cases c;refine⟨λf _=>p.fn f,?_⟩;refine pr p d os (i+1) _ _ g _ w k l ⟨hst.heap,hst.inv,hst.rep.put o.dst nT,hst.base⟩ λt x y z A e B=>?_
    exact q t x y z A e (B.trans (ji _ _ _))
   .cases c
  .cases k
end
section
variable{P:fL}{X:Nat}{w0:fK}{S0:Nat->Nat->Prop}{Nb:Nat}{F:Fence}{m:Nat}{pf:fM->Bool}{hint:fM->Hint}{call:gO}{h:Hint}
theorem Bi{H:List fU}{p:PV}{d:fS}(h:gH H p=O d)(c:p.tl=J):∃l,d=.ew l:=by
 cases p with
 |arr i o len cap=>
  simp only[gH]at h;split at h
  .rw[j5]at h;obtain⟨ds,_,rfl⟩:=h;exact⟨_,rfl⟩
  .cases h
 |ms t g lo len cap=>
  simp only[gH]at h;split at h
  .split at h
   .rw[jK]at h;obtain⟨ds,_,h⟩:=h;split at h
    .cases h;exact⟨_,rfl⟩
    .cases h
   .cases h
  .cases h
 |_=>simp[PV.tl]at c
theorem EH{fl:Bool}{H:List fU}{h0:Nat}{c:PV}(h:c.flat=J):(jo fl H h0 c).flat=J:=by
 cases c with
 |b7 d=>exact h
 |vec t es=>simp only[jo];split <;>rfl
 |arr i o len cap=>
  simp only[jo];split
  .rfl
  .split
   .rename_i d e;obtain⟨l,rfl⟩:=Bi e rfl;rfl
   .rfl
 |ms t g lo len cap=>
  simp only[jo];split
  .rfl
  .split
   .rename_i d e;obtain⟨l,rfl⟩:=Bi e rfl;rfl
   .rfl
 |ptr|mp|hC|fn=>simp only[jo];split <;>rfl
 |_=>rfl
theorem xp{fl:Bool}{g:Gh}{H:List fU}{h0:Nat}{w:fK}{v:fP}{p:PV}(k:Qu P g X (I H) H w)(e:fW g (I H) w v p):fW (g.drop H h0) h0 w v (xU fl H h0 p):=by
 unfold xU;split
 .rename_i cs;cases e with
  |agg vs cs f l=>
   refine fW.ls (by simpa using f) λj v c g1 d=>?_
   simp only[jD,j5]at d;obtain⟨m,d,rfl⟩:=d;exact oC k (l j v m g1 d)
 .cases e with
  |fz vs cs f l=>exact .fz _ _ f λj v c g1 d=>by simp at d
 .exact oC k e
theorem Az{fl:Bool}(H:List fU)(h0:Nat)(ks:List Nat):∀(s:List PV) (i j:Nat),(sG fl H h0 ks i s)[j]?=(s[j]?).map λv=>if ks.contains (i+j)then xU fl H h0 v else .undef
 |[],i,j=>by simp[sG]
 |v::r,i,j=>by
  cases j with
  |zero=>simp[sG]
  |succ j=>simp only[sG,eP];rw[Az H h0 ks r (i+1) j,show i+1+j=i+(j+1) by omega]
theorem um{fl:Bool}(H:List fU)(h0:Nat)(ks:List Nat):∀(s:List PV) (i:Nat),I (sG fl H h0 ks i s)=I s
 |[],i=>rfl
 |v::r,i=>by simp[sG,um H h0 ks r (i+1)]
theorem yc{g:Gh}{st:St}{a:Act}{w:fK}{h0:Nat}(ey:Option (List Nat))(hst:lU P X w0 S0 h0 g st a w):∃g',Ext h0 g w g' w/\Fr g st.heap w g' (jz h0 ey st).heap w/\lU P X w0 S0 h0 g' (jz h0 ey st) a w:=by
 cases ey with
 |none=>exact⟨g,Ext.refl _ _ _,Fr.refl _ _ _,hst⟩
 |some ks=>
  have F:I (st.heap.take h0)=h0:=by simp[hst.base]
  have he:Ext (I st.heap) g w (g.drop st.heap h0) w:=Ext.drop _ _ _
  suffices s:(∀i b,e8 (g.drop st.heap h0) ((st.heap.take h0).map (gv (Ob ks) st.heap h0)) i=O b->i<h0/\e8 g st.heap i=O b)/\lU P X w0 S0 h0 (g.drop st.heap h0) (jz h0 (O ks) st) a w from
   ⟨g.drop st.heap h0,Ext.drop _ _ _,Fr.kk (j7 _) (λ_ _=>rfl) (λi b h _=>⟨i,(s.1 i b h).2⟩) (λb o h=>h.imp id λ⟨i,_,hi,_⟩=>.inr ⟨i,hi⟩),s.2⟩
  have k:∀i x,((st.heap.take h0).map (gv (Ob ks) st.heap h0))[i]?=O x->∃y,i<h0/\st.heap[i]?=O y/\x=gv (Ob ks) st.heap h0 y:=λi x H=>by
   simp only[jD,j5]at H;obtain⟨y,N,rfl⟩:=H;rw[jR]at N;split at N
   .exact⟨y,by assumption,N,rfl⟩
   .cases N
  have C:∀i b,e8 (g.drop st.heap h0) ((st.heap.take h0).map (gv (Ob ks) st.heap h0)) i=O b->i<h0/\e8 g st.heap i=O b:=λi b B=>by
   unfold e8 at B;split at B
   .rename_i cs hi;obtain⟨y,r,m,f⟩:=k i _ hi;cases y with
    |hole=>simp[gv]at f
    |box q=>exact⟨r,by rw[iI m];exact B⟩
    |tok=>simp[gv]at f
    |mt=>simp[gv]at f
    |map=>simp[gv]at f
   .rename_i e n hi;obtain⟨y,r,m,f⟩:=k i _ hi;cases y with
    |hole=>simp[gv]at f
    |box q=>simp[gv]at f
    |tok e' n'=>exact⟨r,by rw[lD m];exact B⟩
    |mt=>simp[gv]at f
    |map=>simp[gv]at f
   .rename_i e n cs hi;obtain⟨y,r,m,f⟩:=k i _ hi;cases y with
    |hole=>simp[gv]at f
    |box q=>simp[gv]at f
    |tok e' n'=>simp[gv]at f
    |mt e' n' q=>exact⟨r,by rw[iO m];exact B⟩
    |map=>simp[gv]at f
   .rename_i es hi;obtain⟨y,r,m,f⟩:=k i _ hi;cases y with
    |hole=>simp[gv]at f
    |box q=>simp[gv]at f
    |tok e' n'=>simp[gv]at f
    |mt e' n' q=>simp[gv]at f
    |map M=>exact⟨r,by rw[ku m];exact B⟩
   .cases B
   .cases B
  have z:∀i b o,i<h0->e8 g st.heap i=O b->(g.drop st.heap h0).S b o->g.S b o:=λi b o hi B s=>by
   rcases s with s|⟨j,hj,D,_⟩
   .exact s
   .have:=hst.heap.sep i j _ B D;omega
  refine⟨C,?_,?_,?_,by simp[jz];exact Nat.le_min.2 ⟨j7 _,hst.base⟩⟩
  .simp only[jz,jZ,F];refine⟨λi cs hi=>?_,λi e n hi=>?_,λi e n cs hi=>?_,λi es hi=>?_,λi e cs hi=>?_,λi x hi=>?_,λi j b r m=>hst.heap.sep i j b (C i b r).2 (C j b m).2⟩
   .obtain⟨y,r,m,f⟩:=k i _ hi;cases y with
    |hole=>simp[gv]at f
    |tok=>simp[gv]at f
    |mt=>simp[gv]at f
    |map=>simp[gv]at f
    |box q=>
     simp only[gv,fU.box.injEq]at f;subst f;obtain⟨b1,⟨vals,ty,b2,R,Q⟩,T⟩:=hst.heap.box i q m;refine⟨b1,⟨vals,ty,b2,by simpa using R,λj v c g1 A=>?_⟩,λo E=>T o (z i _ o r (iI m) E)⟩;simp only[jD,j5]at A;obtain⟨K,A,rfl⟩:=A;exact oC hst.heap (Q j v K g1 A)
   .obtain⟨y,r,m,f⟩:=k i _ hi;cases y with
    |hole=>simp[gv]at f
    |box q=>simp[gv]at f
    |tok e' n'=>
     simp only[gv,fU.tok.injEq]at f;obtain⟨rfl,rfl⟩:=f;obtain⟨v0,L,W⟩:=hst.heap.tok i _ _ m;exact⟨v0,L,W.ey (λ_ _=>rfl) (λb B o E=>z i b o r (by rw[lD m,L];exact B) E)⟩
    |mt=>simp[gv]at f
    |map=>simp[gv]at f
   .obtain⟨y,r,m,f⟩:=k i _ hi;cases y with
    |hole=>simp[gv]at f
    |box q=>simp[gv]at f
    |tok e' n'=>simp[gv]at f
    |map=>simp[gv]at f
    |mt e' n' q=>
     simp only[gv,fU.mt.injEq]at f;obtain⟨rfl,rfl,rfl⟩:=f;obtain⟨v0,L,W⟩:=hst.heap.mt i _ _ _ m;refine⟨v0,L,?_⟩;rcases W with⟨rfl,hn⟩|⟨b,l,cap,cur,rfl,q0,q1,q2,q3,q4,q5,q6,q7,Y⟩|⟨b,l,cap,cur,size,da,rfl,q0,q1,q2,q3,q3',rfl,q4,q4',q5,q6,q7,Y⟩
     .exact .inl ⟨rfl,hn⟩
     .refine .inr (.inl ⟨b,l,cap,cur,rfl,q0,q1,q2,q3,⟨by simpa using q4.1,by rw[aV,j8];exact λx H=>EH (an.1 q4.2 x H)⟩,q5,q6,λo E=>q7 o (z i b o r (by rw[iO m,L];simp[gh];omega) E),λj v c g1 A=>?_⟩)
      simp only[jD,j5]at A;obtain⟨K,A,rfl⟩:=A;exact oC hst.heap (Y j v K g1 A)
     .refine .inr (.inr ⟨b,l,cap,cur,size,da,rfl,q0,q1,q2,q3,q3',?_,q4,q4',q5,q6,λo E=>q7 o (z i b o r (by rw[iO m,L];simp[gh];omega) E),λi' j d u v a1 a2 a3=>(Y i' j d u v a1 a2 a3).ext he⟩);rw[zG];rfl
   .obtain⟨y,r,m,f⟩:=k i _ hi;cases y with
    |hole=>simp[gv]at f
    |box q=>simp[gv]at f
    |tok e' n'=>simp[gv]at f
    |mt=>simp[gv]at f
    |map M=>
     simp only[gv,fU.map.injEq]at f;subst f;obtain⟨b1,⟨arr,clock,b2,R,Q⟩,T⟩:=hst.heap.map i M m;refine⟨b1,⟨arr,clock,b2,by simpa using R,λj v c g1 A=>?_⟩,λo E=>T o (z i _ o r (ku m) E)⟩;simp only[jD,j5]at A;obtain⟨K,A,rfl⟩:=A;exact⟨(Q j v K g1 A).1,xp hst.heap (Q j v K g1 A).2⟩
   .obtain⟨y,r,m,f⟩:=k i _ hi;cases y with
    |hole=>simp[gv]at f
    |box q=>simp[gv]at f
    |tok e' n'=>simp[gv]at f
    |map=>simp[gv]at f
    |mt e' n' q=>
     simp only[gv,fU.mt.injEq]at f;obtain⟨rfl,rfl,rfl⟩:=f;exact hst.heap.xb i _ _ m
   .obtain⟨y,r,m,rfl⟩:=k i _ hi;refine⟨λhp=>(hst.heap.live i y m).1 (by cases y<;>first|trivial|exact hp),λH=>(hst.heap.live i y m).2 (by cases y<;>simp[gv]at H |-)⟩
  .refine⟨hst.inv.below,hst.inv.size,λb o s=>?_,λb o s=>?_⟩
   .rcases s with s|⟨j,hj,D,_⟩
    .exact hst.inv.kk b o s
    .exact .inr (hst.heap.eM D).1
   .rcases s with s|⟨j,hj,D,_⟩
    .exact hst.inv.lt b o s
    .exact(hst.heap.eM D).2.1
  .simp only[jz,jZ,F];refine⟨by rw[um];exact hst.rep.1,λt=>?_,hst.rep.py.x0 λ_ _ h=>.inl h⟩;have G:=hst.rep.2 t;rw[jB,Az,zZ];rw[jB]at G;cases s:st.b6[t]? with
   |none=>
    rw[s]at G;simp only[dH,Option.getD_none]at G |-;generalize a.tmps.getD t undef=v at G |-;cases G with
    |fz vs cs r m=>exact .fz _ _ r λj v c g1 A=>by simp at A
   |some p=>
    rw[s]at G;simp only[jN,aE]at G |-;split
    .exact xp hst.heap G
    .exact .undef _
def zy:Ex->Exit
 |.normal=>.normal
 |.exit id=>.exit id
 |.ret=>.ret
end
section
variable{P:fL}{X N:Nat}{w0 w:fK}{S0:Nat->Nat->Prop}{g g0:Gh}{H H0:List fU}{r:Nat}{o o':Obj}
def ye:Obj->Bool
 |.map _ _|.stringIter _ _=>J
 |_=>U
theorem Qu.x6{W:fK}(f:Qu P g X N H W){i b:Nat}(h:e8 g H i=O b):∃x,W.heap[b]?=O x/\(x.isCells=J\/ye x=J):=by
 unfold e8 at h;split at h
 .rename_i cs hi;cases h;obtain⟨d,⟨vals,p,c,_⟩,_⟩:=f.box i cs hi;exact⟨_,c,.inl rfl⟩
 .rename_i e n hi;obtain⟨v0,d,c⟩:=f.tok i e n hi;rw[d]at h;rcases c with⟨rfl,_⟩|⟨b',cap,cur,size,rfl,j,k,_⟩
  .simp[Value.ownBlock]at h
  .simp[Value.ownBlock]at h;subst h;exact⟨_,k,.inl rfl⟩
 .rename_i e n cs hi;obtain⟨v0,d,c⟩:=f.mt i e n cs hi;rw[d]at h;rcases c with⟨_,rfl|⟨a,rfl⟩⟩|⟨b',l,cap,cur,rfl,j,k,m,_⟩|⟨b',l,cap,cur,size,ds,rfl,j,k,m,_⟩
  .simp[gh]at h
  .simp[gh]at h
  .simp[gh]at h;obtain⟨_,rfl⟩:=h;exact⟨_,m,.inl rfl⟩
  .simp[gh]at h;obtain⟨_,rfl⟩:=h;exact⟨_,m,.inl rfl⟩
 .rename_i es hi;cases h;obtain⟨d,⟨arr,o,⟨c,j⟩,_⟩,_⟩:=f.map i es hi;exact⟨_,c,.inr (by cases o<;>first|rfl|cases j)⟩
 .cases h
 .cases h
theorem Qu.pc{W:fK}(d:Qu P g X N H W)(h:W.heap[r]?=O o)(j:o.isCells=U)(f:ye o=U)(i:Nat):e8 g H i≠O r:=λe=>by obtain⟨x,hc,c⟩:=d.x6 e;rw[h]at hc;cases hc;rcases c with c|c<;>simp_all
theorem Qu.put{W:fK}(f:Qu P g X N H W)(hl:I H<=N)(h:W.heap[r]?=O o)(j:o.isCells=U)(c:o'.isCells=U)(d:ye o=U:=by rfl):Qu P g X N H (W.putObj r o'):=
 f.ey (Ext.put N g h j c) (j7 _) hl (λi b k=>World.putObj_heap_other λe=>f.pc h j d i (by rw[k,e])) (λ_ _ _ _ h=>h) (λ_ _=>rfl)
theorem Inv.put{W:fK}(hi:Inv X w0 S0 g W)(c:X<=r):Inv X w0 S0 g (W.putObj r o'):=
 ⟨Below.putObj hi.below c,by simpa using hi.size,hi.kk,λb o h=>by simpa using hi.lt b o h⟩
theorem Fr.put{W:fK}(c:Fr g0 H0 w g H W)(e:w.heap.size<=r):Fr g0 H0 w g H (W.putObj r o'):=
 ⟨by simpa using c.size,λb d hn=>(World.putObj_heap_other y9).trans (c.ey b d hn),c.e8,c.pd⟩
theorem UF{k g':Gh}{K H':List fU}{w':fK}(d:Qu P k X N K w)(hl:I K<=N)(f:k.S=g.S)(r:Ext 0 g w g' w')(l:Fr g H w g' H' w')(m:∀i j b,e8 k K i=O b->e8 g H j=O b->False)(M:Nat):
  Ext M k w {k with S:=g'.S} w'/\Qu P {k with S:=g'.S} X N K w'/\∀i j b,e8 {k with S:=g'.S} K i=O b->e8 g' H' j=O b->False:=by
 have s:∀M,Ext M k w {k with S:=g'.S} w':=λM=>⟨λb o h=>r.S b o (f ▸ h),λb o h=>r.cell b o (f ▸ h),λ_ _ h=>⟨rfl,h⟩,λ_ _ v n h=>⟨v,n,h,j7 _,λ_=>rfl⟩⟩
 refine⟨s M,d.ey (s N) (j7 _) hl (λi b c=>l.ey b (d.eM c).2.1 λj p=>m i j b c p) (λi b c o t=>?_) (λ_ _=>rfl),λi j b e u=>?_⟩
 .rcases l.pd b o t with h|h|⟨j,p⟩
  .rw[f];exact h
  .exact absurd (d.eM c).2.1 y9
  .exact(m i j b c p).elim
 .have e:e8 k K i=O b:=e;obtain⟨x,q⟩:=l.e8 j b u (d.eM e).2.1;exact m i x b e q
end
structure we (P:fL) (X:Nat) (w0:fK) (S0:Nat->Nat->Prop) (h0:Nat) (g:Gh) (H:List fU) (w:fK) (D l:Nat) (r:Loop) (gc:Gh) (Hc:List fU) (gi:Gh) (Hi:List fU) (W:fK):Prop where
 hc:Qu P gc X (I Hc) Hc W
 hi:Qu P gi X (I Hi) Hi W
 inv:Inv X w0 S0 gc W
 S:gc.S=gi.S
 ext:Ext h0 g w gc W
 fr:Fr g H w gc Hc W
 Pq:∀i j b,e8 gc Hc i=O b->e8 gi Hi j=O b->False
 new:∀j b,e8 gi Hi j=O b->w.heap.size<=b
 loop:W.heap[l]?=O (.loop r)
 z8:W.heap[D]?=O (.deferred (O []))
 hB:X<=w.heap.size
 hD:w.heap.size<=D
 hl:w.heap.size<=l
 ne:D≠l
section
variable{P:fL}{X h0 D l:Nat}{w0 w W W':fK}{S0:Nat->Nat->Prop}{g gc gi gc' gi':Gh}{H Hc Hi Hc' Hi':List fU}{r:Loop}
theorem Inv.x0{g g':Gh}(h:Inv X w0 S0 g w)(e:g'.S=g.S):Inv X w0 S0 g' w:=⟨h.below,h.size,λb o c=>h.kk b o (e ▸ c),λb o c=>h.lt b o (e ▸ c)⟩
theorem we.inner(c:we P X w0 S0 h0 g H w D l r gc Hc gi Hi W)(p:Ext 0 gi W gi' W')(e:Fr gi Hi W gi' Hi' W')(m:Qu P gi' X (I Hi') Hi' W')(f:Inv X w0 S0 gi' W'):
  we P X w0 S0 h0 g H w D l r {gc with S:=gi'.S} Hc gi' Hi' W':=by
 obtain⟨q,s,t⟩:=UF c.hc (j7 _) c.S p e c.Pq h0;refine⟨s,m,f.x0 rfl,rfl,c.ext.trans q (j7 _),⟨jX c.fr.size e.size,λb d hn=>?_,c.fr.e8,λb o u=>?_⟩,t,λj b k=>?_,?_,?_,c.hB,c.hD,c.hl,c.ne⟩
 .exact(e.ey b (jP d c.fr.size) λj k=>by have:=c.new j b k;omega).trans (c.fr.ey b d hn)
 .rcases e.pd b o u with h|h|⟨j,k⟩
  .exact c.fr.pd b o (by rw[c.S];exact h)
  .exact .inr (.inl (jX c.fr.size h))
  .exact .inr (.inl (c.new j b k))
 .by_cases d:b<W.heap.size
  .obtain⟨v,n⟩:=e.e8 j b k d;exact c.new v b n
  .have:=c.fr.size;omega
 .exact(e.ey l (iQ c.loop) (c.hi.pc c.loop rfl rfl)).trans c.loop
 .exact(e.ey D (iQ c.z8) (c.hi.pc c.z8 rfl rfl)).trans c.z8
theorem we.outer(c:we P X w0 S0 h0 g H w D l r gc Hc gi Hi W)(n:Ext h0 gc W gc' W')(e:Fr gc Hc W gc' Hc' W')(f:Qu P gc' X (I Hc') Hc' W')(d:Inv X w0 S0 gc' W')(M:Nat):
  we P X w0 S0 h0 g H w D l r gc' Hc' {gi with S:=gc'.S} Hi W'/\Ext M gi W {gi with S:=gc'.S} W':=by
 obtain⟨p,q,s⟩:=UF c.hi (j7 _) c.S.symm (n.less (zQ _)) e (λi j b k m=>c.Pq j i b m k) M;refine⟨⟨f,q,d,rfl,c.ext.trans n (j7 _),c.fr.trans e,λi j b k m=>s j i b m k,c.new,?_,?_,c.hB,c.hD,c.hl,c.ne⟩,p⟩
 .exact(e.ey l (iQ c.loop) (c.hc.pc c.loop rfl rfl)).trans c.loop
 .exact(e.ey D (iQ c.z8) (c.hc.pc c.z8 rfl rfl)).trans c.z8
theorem we.put(c:we P X w0 S0 h0 g H w D l r gc Hc gi Hi W)(d:Loop):we P X w0 S0 h0 g H w D l d gc Hc gi Hi (W.putObj l (.loop d)):=
 ⟨c.hc.put (j7 _) c.loop rfl rfl,c.hi.put (j7 _) c.loop rfl rfl,c.inv.put (jX c.hB c.hl),c.S,c.ext.trans (Ext.put h0 gc c.loop rfl rfl) (j7 _),c.fr.put c.hl,c.Pq,c.new,
  World.putObj_heap_same (iQ c.loop),(World.putObj_heap_other c.ne).trans c.z8,c.hB,c.hD,c.hl,c.ne⟩
theorem we.x9(c:we P X w0 S0 h0 g H w D l r gc Hc gi Hi W)(d:Loop)(N:Nat)(k:Gh):Ext N k W k (W.putObj l (.loop d)):=Ext.put N k c.loop rfl rfl
end
section
variable{σ:Type}{P:fL}{X:Nat}{w0:fK}{S0:Nat->Nat->Prop}{Nb l:Nat}{m:Nat}{pf:fM->Bool}{call:gO}{h:Hint}{Y:List fS->σ->Option (Bool×σ)}{Out:σ->Gh->List fU->fK->Prop}
def pT(P:fL)(X:Nat)(w0:fK)(S0:Nat->Nat->Prop)(Out:σ->Gh->List fU->fK->Prop):Prop:=
 ∀s g H w g' H' w',Out s g H w->Ext 0 g w g' w'->Fr g H w g' H' w'->Qu P g' X (I H') H' w'->Inv X w0 S0 g' w'->Out s g' H' w'
def VL(P:fL)(X:Nat)(w0:fK)(S0:Nat->Nat->Prop)(l:Nat)(Y:List fS->σ->Option (Bool×σ))(Out:σ->Gh->List fU->fK->Prop):Prop:=
 ∀(g:Gh) (H:List fU) (w:fK) (vals:Array Value) (ds:List fS) (s s':σ) (b:Bool) (m:Nat),Y ds s=O (b,s')->Out s g H w->Qu P g X (I H) H w->Inv X w0 S0 g w->
  vals.size=I ds->(∀(j:Nat) v d,vals[j]?=O v->ds[j]?=O d->gL w g.S v d)->
  ∃fn tmps assign body,(Instr.yield l vals).run P w=.ok (.round l fn tmps assign body) w/\
   RoundIn Fence.wide m P l fn tmps assign body w λe w'=>e=.returned (.bool b)/\∃g',Ext (I H) g w g' w'/\Qu P g' X (I H) H w'/\Inv X w0 S0 g' w'/\Out s' g' H w'
structure Ow (P:fL) (X:Nat) (w0:fK) (S0:Nat->Nat->Prop) (l Nb:Nat) (Out:σ->Gh->List fU->fK->Prop) (g:Gh) (is:pZ σ) (a:Act) (w:fK):Prop where
 st:lU P X w0 S0 Nb g is.st a w
 ys:∀t,t∈is.ys->a.tmps[t]?=O (.func (.yield l) #[] #[])
 out:Out is.out g is.st.heap w
theorem IV{k:Option (List Nat)}{ys:List Tmp}{t:Tmp}(h:t∈AD k ys):t∈ys:=by
 cases k with
 |none=>exact h
 |some ks=>exact(bp.mp h).1
theorem Bt{ys:List Tmp}{a:Act}{d:Option Tmp}{v:fP}(h:∀t,t∈ys->a.tmps[t]?=O (.func (.yield l) #[] #[])):∀t,t∈sO ys d->(a.put d v).tmps[t]?=O (.func (.yield l) #[] #[]):=λt c=>by
 cases d with
 |none=>exact h t c
 |some d=>
  simp only[sO,bp,bne_iff_ne,ne_eq]at c;show(a.tmps.setIfInBounds d v)[t]?=_
  rw[dy (λe=>c.2 e.symm)];exact h t c.1
def LS(P:fL)(X:Nat)(w0:fK)(S0:Nat->Nat->Prop)(l:Nat)(Out:σ->Gh->List fU->fK->Prop)(ops:Array Oper)(o:Oper)(is c:pZ σ):Prop:=
 ∀(Nb:Nat) (g:Gh) (a:Act) (w:fK) (m:Nat) (K:Act->fK->Prop) (Q:Exit->Act->fK->Prop),Ow P X w0 S0 l Nb Out g is a w->
  (∀g' a' w',Ext Nb g w g' w'->Ow P X w0 S0 l Nb Out g' c a' w'->a'.defers=a.defers->K a' w')->
  (if Region.wanted o (yielded ops a.tmps)then o.wpIn Fence.wide m P a w K Q else(∀f,o.about P w a.eval=O f->Fence.wide.fn f)/\K (a.put o.dst undef) w)
theorem Pe(d:km P pf call)(hst:pT P X w0 S0 Out){r i:Nat}{ops:Array Oper}{o:Oper}{is:pZ σ}{k:St}(e:iW P call h r ops i o is.st=O k):
  LS P X w0 S0 l Out ops o is ⟨k,sO is.ys o.dst,is.out⟩:=by
 intro Nb g a w m K Q c p;have q:sP Fence.wide:=.inl rfl;unfold iW at e;split at e
 .rename_i hw;rw[kU c.st.rep hw,aj rfl];split at e
  .rename_i v H n;cases e;refine uL q d n c.st λu g' w' j=>?_
   exact p g' _ w' (j.ext.less c.st.base) ⟨c.st.put j o.dst,Bt c.ys,hst _ _ _ _ _ _ _ c.out (j.ext.less (zQ _)) j.fr j.heap j.inv⟩ (ji _ _ _)
  .cases e
 .rename_i hw;rw[kU c.st.rep hw];simp only[j6,ai];cases e;exact⟨λf _=>q.fn f,p g _ w (Ext.refl _ _ _) ⟨⟨c.st.heap,c.st.inv,c.st.rep.put o.dst nT,c.st.base⟩,Bt c.ys,c.out⟩ (ji _ _ _)⟩
 .cases e
theorem vp{o:Oper}(h:o.guard=Z)(y:Nat->Option Bool):Region.wanted o y=J:=by simp[Region.wanted,h]
theorem S2(y:km P pf call)(hst:pT P X w0 S0 Out)(hY:VL P X w0 S0 l Y Out){r i:Nat}{ops:Array Oper}{o:Oper}{is n:pZ σ}(c:mr P call h Y r ops i o is=O n):
  LS P X w0 S0 l Out ops o is n:=by
 unfold mr at c
 have z:∀{n},((iW P call h r ops i o is.st).map λst=>(⟨st,sO is.ys o.dst,is.out⟩:pZ σ))=O n->LS P X w0 S0 l Out ops o is n:=λc=>by simp only[j5]at c;obtain⟨st1,c,rfl⟩:=c;exact Pe y hst c
 split at c
 .rename_i t A C;split at c
  .rename_i q;split at c
   .rename_i d B;split at c
    .rename_i D;cases c;intro Nb g a w m K Q k E;rw[vp C,aj rfl];have F:sP Fence.wide:=.inl rfl;refine⟨λf _=>F.fn f,?_⟩;rw[Oper.semAt_eq _ _ _ (by simp[A])];have s:(execOp a.eval o).run P w=.ok (.value (a.eval (.tmp t))) w:=by simp[execOp,A]
     rw[s];have G:a.tmps[t]?=O (.func (.yield l) #[] #[]):=k.ys t (by simpa using q);have H:a.eval (.tmp t)=.func (.yield l) #[] #[]:=by show a.tmps.getD t undef=_;simp[jH,G]
     refine E g _ w (Ext.refl _ _ _) ⟨⟨k.st.heap,k.st.inv,?_,k.st.base⟩,λL M=>?_,k.out⟩ (ji _ _ _)
     .have:=k.st.rep.put (a:=a) o.dst (v:=a.eval (.tmp t)) (p:=.undef) (.undef _);rw[B]at this |-;exact this
     .rw[B];show(a.tmps.setIfInBounds d _)[L]?=_
      by_cases e:L=d
      .subst e;rw[Array.getElem?_setIfInBounds_self_of_lt (by rw[k.st.rep.1];exact D),H]
      .rw[dy (λe'=>e e'.symm)];rcases ar.1 M with h|h
       .exact absurd h e
       .exact k.ys L h
    .cases c
   .cases c
  .exact z c
 .rename_i t args ts A C;split at c
  .rename_i q;split at c
   .rename_i ds N;split at c
    .cases c
    .rename_i R;split at c
     .rename_i b out hy;cases c;intro Nb g a w m K Q k E;rw[vp C,aj rfl];have F:sP Fence.wide:=.inl rfl;refine⟨λf _=>F.fn f,?_⟩;rw[Oper.semAt_eq _ _ _ (by simp[A])];have G:a.tmps[t]?=O (.func (.yield l) #[] #[]):=k.ys t (by simpa using q);have H:a.eval (.tmp t)=.func (.yield l) #[] #[]:=by show a.tmps.getD t undef=_;simp[jH,G]
      obtain⟨p1,p2⟩:=kE _ _ N
      obtain⟨fn,tmps,assign,body,s,u⟩:=hY g is.st.heap w (args.map a.eval) ds is.out out b (m - 1) hy k.out k.st.heap k.st.inv (by simp at p1 |-;omega) (λj v d g1 g2=>by
       simp only[zL,j5]at g1;obtain⟨x,hx,rfl⟩:=g1;have T:(args.toList.map (ev is.st.b6))[j]?=O (ev is.st.b6 x):=by simp[hx]
       refine nR (k.st.rep.ev x) (p2 j _ d T g2) ?_;have:=bF.1 (by simpa using R) _ (jF T)
       simpa using this)
      have S:(execOp a.eval o).run P w=.ok (.round l fn tmps assign body) w:=by simp[execOp,A,resolve,H,Deferred.ofValue,invoke,s]
      rw[S,Oper.uponIn_round];refine⟨λB=>by simp[Fence.wide]at B,u.mono λe w' he=>?_⟩;obtain⟨rfl,g',W,e2,e3,e4⟩:=he;exact E g' _ w' (W.less k.st.base) ⟨⟨e2,e3,(k.st.rep.ext W (j7 _)).put o.dst (.b7 _ _ (.raw _ rfl)),k.st.base⟩,Bt k.ys,e4⟩ (ji _ _ _)
     .cases c
   .cases c
  .exact z c
 .exact z c
theorem yS(c:km P pf call)(hst:pT P X w0 S0 Out)(p:VL P X w0 S0 l Y Out){r:Nat}{ops:Array Oper}{Q:Exit->Act->fK->Prop}:∀(os:List Oper) (i:Nat) (is is':pZ σ) (g:Gh) (a:Act) (w:fK),
  kM P call h Y r ops i os is=O is'->(∀j,os[j]?=ops[i+j]?)->Ow P X w0 S0 l Nb Out g is a w->
  (∀g' a' w',Ext Nb g w g' w'->Ow P X w0 S0 l Nb Out g' is' a' w'->a'.defers=a.defers->Q .normal a' w')->wpOpsIn Fence.wide m P ops Q (List.range' i (I os)) a w
 |[],i,is,is',g,a,w,d,_,e,f=>by cases d;exact f g a w (Ext.refl _ _ _) e rfl
 |o::os,i,is,is',g,a,w,d,hl,e,f=>by
  have h0:ops[i]?=O o:=by simpa using(hl 0).symm
  have k:∀j,os[j]?=ops[i+1+j]?:=λj=>by have:=hl (j+1);rw[show i+1+j=i+(j+1) by omega];simpa using this
  simp only[zH,cn,wpOpsIn,h0];unfold kM at d;split at d
  .rename_i n q;refine S2 c hst p q Nb g a w m _ Q e λg1 s t u v x=>?_
   exact yS c hst p os (i+1) n is' g1 s t d k v λy z A B C D=>f y z A (u.trans B (j7 _)) C (D.trans x)
  .cases d
def Ox(P:fL)(X:Nat)(w0:fK)(S0:Nat->Nat->Prop)(l:Nat)(Out:σ->Gh->List fU->fK->Prop)(c:Code)(is:pZ σ)(e:Ex)(is':pZ σ):Prop:=
 ∀(Nb:Nat) (g:Gh) (a:Act) (w:fK) (m:Nat) (Q:Exit->Act->fK->Prop),Ow P X w0 S0 l Nb Out g is a w->
  (∀g' a' w',Ext Nb g w g' w'->Ow P X w0 S0 l Nb Out g' is' a' w'->a'.defers=a.defers->Q (zy e) a' w')->c.wpIn Fence.wide m P Q a w
theorem DZ(F:km P pf call)(hst:pT P X w0 S0 Out)(hY:VL P X w0 S0 l Y Out):∀(n:Nat),
  (∀(c:Code) (is is':pZ σ) (e:Ex),ic P call h Y n c is=O (e,is')->Ox P X w0 S0 l Out c is e is')/\
  (∀(b:Code) (h0:Nat) (is is':pZ σ) (e:Ex),ic.iloop P call h Y b h0 n is=O (e,is')->h0<=I is.st.heap->
   ∀(g:Gh) (a:Act) (w:fK) (m:Nat) (Q:Exit->Act->fK->Prop),Ow P X w0 S0 l h0 Out g is a w->
    (∀g' a' w',Ext h0 g w g' w'->Ow P X w0 S0 l h0 Out g' is' a' w'->a'.defers=a.defers->Q (zy e) a' w')->Code.roundsIn Fence.wide m P b Q n a w):=by
 intro n;induction n with
 |zero=>exact⟨λc is is' e d=>by simp[ic]at d,λb h0 is is' e d=>by simp[ic.iloop]at d⟩
 |succ n ih=>
  obtain⟨p,H⟩:=ih;refine⟨λc is is' e d=>?_,λb h0 is is' e d hle=>?_⟩
  .intro Nb g a w m Q f s;cases c with
   |skip=>simp only[ic,j9,jI]at d;obtain⟨rfl,rfl⟩:=d;exact wpIn_skip (s g a w (Ext.refl _ _ _) f rfl)
   |region r ops K=>
    cases K
    .simp only[ic]at d;simp only[j5]at d;obtain⟨q,d,E⟩:=d;simp only[jI]at E;obtain⟨rfl,rfl⟩:=E;refine wpIn_region ?_;have:=yS (Q:=Q) (m:=m) F hst hY ops.toList 0 is q g a w d (λj=>by simp) f s
     rwa [bj,<-dJ]at this
    .simp[ic]at d
   |seq x y=>
    simp only[ic]at d;refine wpIn_seq ?_;split at d
    .rename_i q E;refine p x is q .normal E Nb g a w m _ f λg1 u v A k B=>?_
     exact p y q is' e d Nb g1 u v m Q k λL M N R S T=>s L M N (A.trans R (j7 _)) S (T.trans B)
    .rename_i C;refine p x is is' e d Nb g a w m _ f λg1 u v A k B=>?_
     have:=s g1 u v A k B;cases e with
     |normal=>exact absurd d (C is')
     |exit id=>exact this
     |ret=>exact this
   |cond x y z=>
    simp only[ic]at d;split at d
    .rename_i W;exact wpIn_cond_true (oB (f.st.rep.ev x) W) (p y is is' e d Nb g a w m Q f s)
    .rename_i W;exact wpIn_cond_false (oB (f.st.rep.ev x) W) (p z is is' e d Nb g a w m Q f s)
    .cases d
   |block id b=>
    simp only[ic]at d;refine wpIn_block ?_;split at d
    .rename_i id' q E;refine p b is q _ E Nb g a w m _ f λg1 u v A k B=>?_
     split at d
     .rename_i G;simp only[j9,jI]at d;obtain⟨rfl,rfl⟩:=d;have:=s g1 u v A k B
      simpa[zy,Exit.inBlock,G]using this
     .rename_i G;simp only[j9,jI]at d;obtain⟨rfl,rfl⟩:=d;have:=s g1 u v A k B
      simpa[zy,Exit.inBlock,G]using this
    .rename_i C;refine p b is is' e d Nb g a w m _ f λg1 u v A k B=>?_
     have:=s g1 u v A k B;cases e with
     |normal=>exact this
     |exit id=>exact absurd d (C id is')
     |ret=>exact this
   |loop b=>
    simp only[ic]at d;refine wpIn_loop_rounds n ?_;refine H b (I is.st.heap) is is' e d (j7 _) g a w m Q ⟨⟨f.st.heap,f.st.inv,f.st.rep,j7 _⟩,f.ys,f.out⟩ λg1 u v A k B=>?_
    exact s g1 u v (A.less f.st.base) ⟨⟨k.st.heap,k.st.inv,k.st.rep,jX f.st.base k.st.base⟩,k.ys,k.out⟩ B
   |exit id=>simp only[ic,j9,jI]at d;obtain⟨rfl,rfl⟩:=d;exact wpIn_exit (s g a w (Ext.refl _ _ _) f rfl)
   |ret=>simp only[ic,j9,jI]at d;obtain⟨rfl,rfl⟩:=d;exact wpIn_ret (s g a w (Ext.refl _ _ _) f rfl)
   |_=>simp[ic]at d
  .intro g a w m Q f s;rw[roundsIn_succ];simp only[ic.iloop]at d;obtain⟨g0,e0,f0,D⟩:=yc ((Zc b).bind h.i7) f.st;have I0:Ow P X w0 S0 l h0 Out g0 ⟨jz h0 ((Zc b).bind h.i7) is.st,AD ((Zc b).bind h.i7) is.ys,is.out⟩ a w:=⟨D,λt ht=>f.ys t (IV ht),hst _ _ _ _ _ _ _ f.out (e0.less (zQ _)) f0 D.heap D.inv⟩;split at d
   .rename_i q E;refine p b _ q .normal E h0 g0 a w m _ I0 λg1 u v A k B=>?_
    exact H b h0 q is' e d k.st.base g1 u v m Q k λL M N R S T=>s L M N ((e0.trans A (j7 _)).trans R (j7 _)) S (T.trans B)
   .rename_i C;refine p b _ is' e d h0 g0 a w m _ I0 λg1 u v A k B=>?_
    have:=s g1 u v (e0.trans A (j7 _)) k B;cases e with
    |normal=>exact absurd d (C is')
    |exit id=>exact this
    |ret=>exact this
end
def mark(r:Nat):Deferred:={target:=.collected r,args:=#[]}
def Df(a:Act)(w:fK)(a':Act)(w':fK):Prop:=
 ∃ms:List Nat,a'.defers=ms.map mark++a.defers/\ms.Nodup/\∀r,r∈ms->w.heap.size<=r/\w'.heap[r]?=O (.deferred (O []))
theorem Df.same{a a':Act}{w w':fK}(h:a'.defers=a.defers):Df a w a' w':=⟨[],by simpa using h,by simp,λr h=>by simp at h⟩
theorem Df.trans{P:fL}{X N:Nat}{g1 n:Gh}{H1 H2:List fU}{a j l:Act}{w d g:fK}(h:Df a w j d)(p:w.heap.size<=d.heap.size)(q:Qu P g1 X N H1 d)(f:Fr g1 H1 d n H2 g)(k:Df j d l g):Df a w l g:=by
 obtain⟨ms,s,t,m⟩:=h;obtain⟨ks,k1,k2,k3⟩:=k;refine⟨ks++ms,by simp[k1,s],?_,λr c=>?_⟩
 .refine List.nodup_append.2 ⟨k2,t,λx u y v e=>?_⟩;subst e;have:=(k3 x u).1;have:=iQ (m x v).2;omega
 .rcases aU.1 c with c|c
  .exact⟨jX p (k3 r c).1,(k3 r c).2⟩
  .obtain⟨c1,c2⟩:=m r c;exact⟨c1,(f.ey r (iQ c2) (q.pc c2 rfl rfl)).trans c2⟩
section
variable{P:fL}{X:Nat}{w0:fK}{S0:Nat->Nat->Prop}{Nb:Nat}{F:Fence}{m:Nat}{pf:fM->Bool}{hint:fM->Hint}{call:gO}{h:Hint}
def Bo(P:fL)(call:gO)(d:Bool)(c:Code)(st:St)(e:Ex)(st':St):Prop:=
 ∀(X:Nat) (w0:fK) (S0:Nat->Nat->Prop) (Nb:Nat) (g:Gh) (a:Act) (w:fK) (F:Fence) (m:Nat) (Q:Exit->Act->fK->Prop),sP F->(d=J->F=Fence.wide)->lU P X w0 S0 Nb g st a w->
  (∀g' a' w',Ext Nb g w g' w'->Fr g st.heap w g' st'.heap w'->lU P X w0 S0 Nb g' st' a' w'->Df a w a' w'->Q (zy e) a' w')->c.wpIn F m P Q a w
def u9(P:fL)(call:gO)(pf:fM->Bool)(h:Hint):Prop:=
 ∀(r:Nat) (ops:Array Oper) (st st':St) (fl:List Nat),lS (I st.heap) ops fl=J->ib P call pf h r ops 0 ops.toList st=O (st',fl)->Bo P call U (.region r ops J) st .normal st'
theorem Ah{g:Gh}{N:Nat}{w:fK}:∀(ts:List Tmp) (ds:List fS) (s sl:List PV) (tmps:Array Value) (vals:List Value),tM s ts ds=O sl->I vals=I ds->sC g N w tmps s->
  (∀(j:Nat) v d,vals[j]?=O v->ds[j]?=O d->gL w g.S v d)->sC g N w ((ts.zip vals).foldl (λt (x:Tmp×Value)=>t.setIfInBounds x.1 x.2) tmps) sl/\(I ts)=I ds
 |[],[],s,sl,tmps,vals,e,hl,f,k=>by cases e;exact⟨f,rfl⟩
 |[],_::_,s,sl,tmps,vals,e,hl,f,k=>by simp[tM]at e
 |_::_,[],s,sl,tmps,vals,e,hl,f,k=>by simp[tM]at e
 |t::ts,d::ds,s,sl,tmps,[],e,hl,f,k=>by simp at hl
 |t::ts,d::ds,s,sl,tmps,v::vals,e,hl,f,k=>by simp only[tM]at e;have:=Ah ts ds (s.set t (.b7 d)) sl (tmps.setIfInBounds t v) vals e (by simpa using hl) (f.put (a:={tmps:=tmps,defers:=[]}) (O t) (.b7 v d (k 0 v d rfl rfl))) (λj u c g1 l=>k (j+1) u c (by simpa using g1) (by simpa using l));exact⟨this.1,by simp[this.2]⟩
def Bx:Ex->Code
 |.normal=>.skip
 |.exit id=>.exit id
 |.ret=>.ret
theorem fW.still{g:Gh}{N N':Nat}{w:fK}{v:fP}{p:PV}(h:fW g N w v p)(e:p.still=J):fW (gS g.S) N' w v p:=by
 cases p with
 |b7 d=>exact .b7 _ _ h.hX
 |eI cs=>cases h with|eI b o cs c f j=>exact .eI b o cs c f j
 |_=>simp[PV.still]at e
theorem I4{h0:Nat}{ks:List Nat}{st:St}(h:h0<=I st.heap):(jz h0 (O ks) st).heap.length=h0:=by simp[jz,h]
theorem D9{asg L:St->Option (Ex×St)}{assign body:Code}(hA:∀st e st',asg st=O (e,st')->Bo P call U assign st e st')(hB:∀st e st',L st=O (e,st')->Bo P call U body st e st')(hcall:km P pf call){gf:fM}{caps:List PV}{n:Nat}{st st':St}{e:Ex}{f:fO}{K:Array Tmp}(q:oI P call hint (mA asg L (I st.heap) st.b6 K.toList) n st gf caps=O (e,st')){g:Gh}{a:Act}{w:fK}{u:Array Value}(hf:a.eval f=.func (.func gf) #[] u)(hcs:u.size=I caps)(hcr:∀(j:Nat) v c,u[j]?=O v->caps[j]?=O c->fW g (I st.heap) w v c)(hst:lU P X w0 S0 Nb g st a w){Q:Exit->Act->fK->Prop}(hQ:∀g' a' w',Ext (I st.heap) g w g' w'->Fr g st.heap w g' st'.heap w'->lU P X w0 S0 Nb g' st' a' w'->Df a w a' w'->Q (zy e) a' w'):(Code.rangeFunc f K assign body).wpIn Fence.wide m P Q a w:=by
 unfold oI at q;split at q
 case h_2=>cases q
 rename_i fn hfn;split at q
 case isTrue=>cases q
 rename_i hname;split at q
 case h_2=>cases q
 rename_i x M;simp only[j9,jI]at q;obtain⟨rfl,rfl⟩:=q;unfold LG at M;split at M
 case h_2=>cases M
 rename_i c hc;split at M
 case isFalse=>cases M
 rename_i hchk;simp only[jE]at hchk;obtain⟨T,hres⟩:=hchk;split at M
 .cases M
 case h_3=>cases M
 rename_i e0 is' hne hic;cases M;have hne0:∀id,e0≠.exit id:=λid h=>hne id h
 refine wpIn_rangeFunc λfn0 _=>?_
 let D:=w.heap.size
 let l:=D+1
 let k:LoopState->Option Code->Loop:=λs pe=>{state:=s,pending:=pe,fn:=fn0,tmps:=a.tmps,params:=K,assign,body,defers:=D}
 let W1:=(w.alloc (.deferred (O []))).alloc (.loop (k .ready Z))
 let Out:Bg->Gh->List fU->fK->Prop:=λs gi Hi W=>∃gc,I s.heap=I st.heap/\
  we P X w0 S0 (I st.heap) g st.heap w D l (k (if s.ub.isNone then .ready else .done) (s.ub.map Bx)) gc s.heap gi Hi W
 have hmk:=mv hfn hc (by simpa using hname);have hi1:=(hst.inv.alloc (.deferred (O []))).alloc (.loop (k .ready Z));have he1:∀N,Ext N g w g W1:=λN=>(Ext.alloc hst.inv N _).trans (Ext.alloc (hst.inv.alloc _) N _) (j7 _)
 have hL1:W1.heap[l]?=O (.loop (k .ready Z)):=by have:=World.alloc_heap_new (w.alloc (.deferred (O []))) (.loop (k .ready Z));rwa [World.size_alloc]at this
 have hD1:W1.heap[D]?=O (.deferred (O [])):=(Below.heap_alloc _ _ _ (by simp[D])).trans (World.alloc_heap_new w _)
 have hst0:pT P X w0 S0 Out:=by intro s gi Hi W gi' Hi' W' hO he hfr hh hi;obtain⟨gc,y,B⟩:=hO;exact⟨_,y,B.inner he hfr hh hi⟩
 have hY:VL P X w0 S0 l (mA asg L (I st.heap) st.b6 K.toList) Out:=by
  intro gi Hi W vals ds s s' b m F hO hhi hinv hvs hvr;obtain⟨gc,y,B⟩:=hO;unfold mA at F;split at F
  .cases F
  rename_i hpend;split at F
  case h_2=>cases F
  rename_i sl hsl;split at F
  case h_2=>cases F
  rename_i st1 has;rw[hpend]at B;have hrep0:sC gc (I s.heap) W a.tmps st.b6:=hst.rep.ext B.ext (ct y.symm);obtain⟨hrep1,hpl⟩:=Ah K.toList ds st.b6 sl a.tmps vals.toList hsl (by simpa using hvs) hrep0 (λj v d g1 g2=>by rw[B.S];exact hvr j v d (by simpa using g1) g2)
  have hfold:(K.zip vals).foldl (λtmps (x:Tmp×Value)=>match x with|(t,a)=>tmps.setIfInBounds t a) a.tmps=(K.toList.zip vals.toList).foldl (λt (x:Tmp×Value)=>t.setIfInBounds x.1 x.2) a.tmps:=by rw[<-dV,Array.toList_zip]
  refine⟨fn0,_,assign,body,run_yield B.loop (by simp at hpl;show vals.size=K.size;omega),roundIn_of_wpIn trivial ?_⟩;show assign.wpIn _ _ _ _ {tmps:=(K.zip vals).foldl _ a.tmps,defers:=[]} W
  rw[show(K.zip vals).foldl (λ(tmps:Array Value) (x:Tmp×Value)=>match x with|(t,a)=>tmps.setIfInBounds t a) a.tmps=_ from hfold];refine hA _ _ _ has X w0 S0 (I st.heap) gc _ W (Fence.wide.inRound l) m _ (.inr ⟨l,rfl⟩) (λh=>by cases h) ⟨B.hc,B.inv,hrep1,ct y.symm⟩ λg1 a1 w1 e1 f1 C _=>?_
  obtain⟨hb1,x1⟩:=B.outer e1 f1 C.heap C.inv (I Hi);have hb2:=hb1.put (k .busy Z);have y2:=hb1.x9 (k .busy Z);refine⟨_,run_beginRound hb1.loop rfl,?_⟩
  have fin:∀(e:Ex) (z:St),L st1=O (e,z)->(∀p,(p=Z/\e=.normal\/p=O (Bx e))->s'=⟨(jz (I st.heap) (O []) z).heap,if p.isNone then Z else O e⟩->b=p.isNone->
    ∀R,(∀w',(∃g',Ext (I Hi) gi W g' w'/\Qu P g' X (I Hi) Hi w'/\Inv X w0 S0 g' w'/\Out s' g' Hi w')->R (Ending.returned (.bool b)) w')->
    (∀(a2:Act) (w2:fK),(∃v w',(Instr.endRound l p).run P w2=.ok v w'/\R (.returned v) w')->roundPost P l R (zy e) a2 w2)->
    body.wpIn (Fence.wide.inRound l) m P (roundPost P l R) a1 (w1.putObj l (.loop (k .busy Z)))):=λe z H p hj hs' hbj R hR hpost=>by
   refine hB _ _ _ H X w0 S0 (I st.heap) g1 a1 _ (Fence.wide.inRound l) m _ (.inr ⟨l,rfl⟩) (λh=>by cases h) ⟨hb2.hc,hb2.inv,C.rep.ext (y2 _ _) (j7 _),C.base⟩ λg2 a2 w2 e2 f2 A _=>hpost a2 w2 ?_
   obtain⟨hb3,x3⟩:=hb2.outer e2 f2 A.heap A.inv (I Hi);have E:=run_endRound (P:=P) p hb3.loop;have hb4:=hb3.put {k .busy Z with state:=if p.isNone then .ready else .done,pending:=p};have y4:=hb3.x9 {k .busy Z with state:=if p.isNone then .ready else .done,pending:=p};have hst4:lU P X w0 S0 (I st.heap) g2 z a2 _:=⟨hb4.hc,hb4.inv,A.rep.ext (y4 _ _) (j7 _),A.base⟩;obtain⟨g5,e5,f5,hst5⟩:=yc (O []) hst4;obtain⟨Y,x5⟩:=hb4.outer e5 f5 hst5.heap hst5.inv (I Hi);refine⟨_,_,E,?_⟩
   have hg:=hR _ ⟨_,(((x1.trans (y2 (I Hi) _) (j7 _)).trans x3 (j7 _)).trans (y4 (I Hi) _) (j7 _)).trans x5 (j7 _),Y.hi,Y.inv.x0 rfl,g5,(by rw[hs'];exact I4 (ks:=[]) A.base),(by
    rw[hs'];rcases hj with⟨rfl,rfl⟩|rfl
    .exact Y
    .exact Y)⟩
   rw[hbj]at hg;exact hg
  split at F
  .rename_i z H;simp only[j9,jI]at F;obtain⟨rfl,rfl⟩:=F;exact fin .normal z H Z (.inl ⟨rfl,rfl⟩) rfl rfl _ (λw' h=>⟨rfl,h⟩) (λa2 w2 h=>h)
  .rename_i e2 z hne2 H;simp only[j9,jI]at F;obtain⟨rfl,rfl⟩:=F;refine fin e2 z H (O (Bx e2)) (.inr rfl) rfl rfl _ (λw' h=>⟨rfl,h⟩) (λa2 w2 h=>?_);cases e2 with
   |normal=>exact(hne2 rfl).elim
   |exit id=>exact h
   |ret=>exact h
  .cases F
 refine⟨l,[mark D],W1,{target:=.fn (.func gf) u,args:=#[.func (.yield l) #[] #[]]},W1,gf,#[.func (.yield l) #[] #[]]++u,W1,run_enterLoop_outer _ _ _ _ _,?_,λf' _=>trivial,?_,λh=>by simp[Fence.wide]at h,callsIn_wide.2 ?_⟩
 .simp only[resolve,hf];simp[go_sem]
 .simp[invoke,go_sem,hmk]
 .refine(callsIn_wide.1 (callsIn_of_wp (n:=0) (R:=λe W=>(∃v,e=.returned v)/\∃gi Hi,Out is'.out gi Hi W) hfn hc trivial ?_)).mono ?_
  .refine(DZ (Out:=Out) (l:=l) hcall hst0 hY n).1 c _ is' e0 hic 0 (gS g.S) _ W1 0 _ ⟨⟨nz,hi1.x0 rfl,⟨?_,λt=>?_,(hst.rep.py.ext (he1 0)).x0 λ_ _ h=>h⟩,zQ _⟩,λt ht=>?_,g,rfl,?_⟩ λg' a' w' he hI hd=>?_
   .simp[hcs,fF]
   .cases t with
    |zero=>exact .undef _
    |succ t=>
     simp only[jH,jB,aN,eP];rw[aL,jT];by_cases ht:t<I caps
     .have h1:u[t]?=O u[t]:=jA y9;have h2:caps[t]?=O caps[t]:=jC ht;rw[aj yA,aj ht,h2]
      have h3:(#[Value.func (.yield l) #[] #[]]++u)[t+1]?=O u[t]:=by rw[aL,ae yB];simp
      rw[h3];exact((hcr t _ _ h1 h2).ext (he1 _) (j7 _)).still (an.1 T _ (zD ht))
     .rw[ae yA,ae ht];simp only[eN,zN];split <;>split <;>exact nT
   .simp only[jY]at ht;subst ht;simp[aL]
   .refine⟨(hst.heap.alloc hst.inv (j7 _) _).alloc (hst.inv.alloc _) (j7 _) _,nz,hi1,rfl,he1 _,Fr.kk (by simp[W1];omega) (λb B=>?_) (λi b h _=>⟨i,h⟩),λi j b _ h=>by simp[e8]at h,λj b h=>by simp[e8]at h,hL1,hD1,hst.inv.size,j7 _,eZ _,by simp[l]⟩;exact(Below.heap_alloc _ _ b yA).trans (Below.heap_alloc w _ b B)
   .have hres':fn.results.toList=[]:=by simpa using hres
    have hrs:(results fn a'.tmps).run P w'=.ok (.tuple #[]) w':=by
     have he:fn.results=#[]:=by simpa using hres'
     simp[results,he]
    have E:a'.defers=[]/\∃v,(results fn a'.tmps).run P w'=.ok v w'/\((∃v',Ending.returned v=.returned v')/\∃gi Hi,Out is'.out gi Hi w'):=⟨hd,_,hrs,⟨_,rfl⟩,g',_,hI.out⟩;cases e0 with
    |normal=>exact E
    |ret=>exact E
    |exit id=>exact(hne0 id rfl).elim
  .rintro e2 W2 ⟨⟨v,rfl⟩,gi,Hi,gc,y,B⟩
   refine⟨_,_,run_endLoop B.loop (by cases is'.out.ub<;>simp[k]),?_⟩;have G:=B.put {k (if is'.out.ub.isNone then .ready else .done) (is'.out.ub.map Bx)with state:=.exhausted}
   have key:=hQ gc {a with defers:=[mark D]++a.defers} _ G.ext G.fr ⟨G.hc,G.inv,hst.rep.ext G.ext (ct y.symm),by rw[y];exact hst.base⟩ ⟨[D],rfl,by simp,λr hr=>by simp only[jY]at hr;subst hr;exact⟨j7 _,G.z8⟩⟩
   cases hp:is'.out.ub with
   |none=>simp only[hp]at key |-;exact key
   |some e3=>
    simp only[hp]at key |-;cases e3 with
    |normal=>exact wpIn_skip key
    |exit id=>exact wpIn_exit key
    |ret=>exact wpIn_ret key
end
theorem oP{D ρ':fO->PV}{d:Type}(f:Nat->PV->d):∀(l:List (Nat×Operand)),(∀x,x∈l.map (·.2)->D x=ρ' x)->(l.map λ(i,x)=>f i (D x))=(l.map λ(i,x)=>f i (ρ' x))
 |[],_=>rfl
 |(i,x)::r,h=>by simp only[zV];rw[h x yB,oP f r (λy c=>h y (by simp at c |-;exact .inr c))]
theorem AM{D ρ':fO->PV}(f:PV->Bool):∀(l:List (Nat×Operand)),(∀x,x∈l.map (·.2)->D x=ρ' x)->(l.any λ(_,x)=>f (D x))=(l.any λ(_,x)=>f (ρ' x))
 |[],_=>rfl
 |(i,x)::r,h=>by simp only[fy];rw[h x yB,AM f r (λy c=>h y (by simp at c |-;exact .inr c))]
theorem sk{D ρ':fO->PV}(f:PV->Bool):∀(l:List (Nat×Operand)),(∀x,x∈l.map (·.2)->D x=ρ' x)->(l.all λ(_,x)=>f (D x))=(l.all λ(_,x)=>f (ρ' x))
 |[],_=>rfl
 |(i,x)::r,h=>by simp only[bH];rw[h x yB,sk f r (λy c=>h y (by simp at c |-;exact .inr c))]
section
variable{P:fL}{call:gO}{pf:fM->Bool}{ow:List (Nat×TypeId)}{o:Oper}{D ρ':fO->PV}{H H':List fU}{p:PV}
theorem EU(d:∀cs b,o.op≠.select cs b)(h:∀x∈o.op.operands,D x=ρ' x):gZ P o D H=gZ P o ρ' H:=by
 have e:(o.op.operands.toList.map λx=>(D x).e6)=(o.op.operands.toList.map λx=>(ρ' x).e6):=aJ λx c=>by rw[h x (by simpa using c)]
 have f:execOp (λx=>((D x).e6).getD undef) o=execOp (λx=>((ρ' x).e6).getD undef) o:=execOp_congr o d λx c=>by rw[h x c]
 unfold gZ;simp only[e,f]
theorem sV{args:Array Operand}(h:∀x,x∈args.toList->D x=ρ' x):args.toList.map D=args.toList.map ρ':=aJ h
theorem uD{d:Nat}{x:Option Operand}(h:∀y,x=O y->D y=ρ' y):jc D d x=jc ρ' d x:=by
 cases x with
 |none=>rfl
 |some y=>simp only[jc];rw[h y rfl]
theorem p9(h:∀x∈o.op.operands,D x=ρ' x):gU P call ow o D H=gU P call ow o ρ' H:=by
 have q:=EU (P:=P) (H:=H) (o:=o) (D:=D) (ρ':=ρ');cases g:o.op with
 |move x=>simp only[gU,g];rw[h x (by simp[g,Op.operands])]
 |assign x=>simp only[gU,g];rw[h x (by simp[g,Op.operands])]
 |pick c x y=>simp only[gU,g];rw[h c (by simp[g,Op.operands]),h x (by simp[g,Op.operands]),h y (by simp[g,Op.operands])]
 |alloc e=>simp only[gU,g]
 |box e x=>simp only[gU,g];rw[h x (by simp[g,Op.operands])]
 |build t l=>
  have j:∀x,x∈l.toList.map (·.2)->D x=ρ' x:=λx p=>h x (by simp only[g,Op.operands];simpa using p)
  simp only[gU,g,lM];rw[oP (λi v=>(i,v.cells)) _ j,sk (λv=>v.cells.all PV.cell) _ j]
 |buildSlice t n l=>
  have j:∀x,x∈l.toList.map (·.2)->D x=ρ' x:=λx p=>h x (by simp only[g,Op.operands];simpa using p)
  have s:∀size,sw D size l.toList=sw ρ' size l.toList:=λsize=>sk (λv=>I v.cells==size &&v.cells.all PV.cell) _ j
  have w:(l.toList.flatMap λ(_,x)=>(D x).cells)=l.toList.flatMap λ(_,x)=>(ρ' x).cells:=by rw[List.flatMap_def,List.flatMap_def];exact bQ List.flatten (oP (λ_ v=>v.cells) _ j)
  simp only[gU,g,wi,s,w];rw[oP (λ_ v=>v) _ j,AM PV.fx _ j,sk PV.zk _ j]
 |load t x=>simp only[gU,g];rw[h x (by simp[g,Op.operands])]
 |store t x y=>simp only[gU,g];rw[h x (by simp[g,Op.operands]),h y (by simp[g,Op.operands])]
 |nilCheck x=>simp only[gU,g];rw[h x (by simp[g,Op.operands])]
 |makeFunc fn first cap=>
  cases fn with
  |func f=>simp only[gU,g];rw[sV (D:=D) (ρ':=ρ') (args:=cap) (λx p=>h x (by simp only[g,Op.operands];simp;exact .inr (by simpa using p)))]
  |_=>simp only[gU,g]
 |makeSlice t x y=>simp only[gU,g];rw[h x (by simp[g,Op.operands]),h y (by simp[g,Op.operands])]
 |makeMap t r=>cases r<;>simp only[gU,g]
 |range t x=>simp only[gU,g]
 |next x b=>cases b<;>simp only[gU,g]
 |mapUpdate t m k x|insert t m k x=>simp only[gU,g,oh];rw[h m (by simp[g,Op.operands]),h k (by simp[g,Op.operands]),h x (by simp[g,Op.operands])]
 |lookup t m k ok=>simp only[gU,g,oh];rw[h m (by simp[g,Op.operands]),h k (by simp[g,Op.operands])]
 |fieldAddr t x f=>simp only[gU,g];rw[h x (by simp[g,Op.operands])]
 |indexAddr t x y=>simp only[gU,g];rw[h x (by simp[g,Op.operands]),h y (by simp[g,Op.operands])]
 |slice t x lo hi A=>
  cases A with
  |none=>
   simp only[gU,g];rw[h x (by simp[g,Op.operands]),q (by simp[g]) h];have s:∀d,jc D d lo=jc ρ' d lo:=λd=>uD λy u=>h y (by subst u;simp[g,Op.operands])
   have w:∀d,jc D d hi=jc ρ' d hi:=λd=>uD λy u=>h y (by subst u;simp[g,Op.operands])
   simp only[s,w,tj,CH]
  |some m=>
   cases hi with
   |none=>simp[gU,g]
   |some hi=>
    have s:∀d,jc D d lo=jc ρ' d lo:=λd=>uD λy u=>h y (by subst u;simp[g,Op.operands])
    simp only[gU,g,s];rw[h x (by simp[g,Op.operands]),h hi (by simp[g,Op.operands]),h m (by simp[g,Op.operands])]
 |field t x f=>simp only[gU,g];rw[h x (by simp[g,Op.operands])]
 |extract x k=>simp only[gU,g];rw[h x (by simp[g,Op.operands])]
 |call c=>
  obtain⟨callee,args,ts⟩:=c;have z:args.toList.map D=args.toList.map ρ':=sV λx p=>h x (by simp only[g,Op.operands,Call.operands];simp;exact .inr (by simpa using p))
  cases callee with
  |value f=>
   simp only[gU,g];rw[h f (by simp[g,Op.operands,Call.operands]),z]
  |builtin b=>
   simp only[gU,g];rw[z,q (by simp[g]) h]
  |invoke x n=>simp only[gU,g]
 |binOp op t x y B=>simp only[gU,g];rw[h x (by simp[g,Op.operands]),h y (by simp[g,Op.operands]),q (by simp[g]) h]
 |unOp=>simp only[gU,g];exact q (by simp[g]) h
 |convert=>simp only[gU,g];exact q (by simp[g]) h
 |index=>simp only[gU,g];exact q (by simp[g]) h
 |_=>simp only[gU,g]
theorem iA(h:gZ P o D H=O (p,H')):H'=H/\∀H2,gZ P o D H2=O (p,H2):=by
 unfold gZ at h |-;simp only at h |-;split at h
 .rename_i c;split at h
  .rename_i v e;simp only[j5,jI]at h;obtain⟨q,d,rfl,rfl⟩:=h;exact⟨rfl,λH2=>by rw[aj c];simp[d]⟩
  .cases h
 .cases h
def NC(call:gO)(pf:fM->Bool):Prop:=
 ∀f args H p H',pf f=J->call f args H=O (p,H')->H'=H/\(∃ds,gR H args=O ds)/\∀H2,gR H2 args=gR H args->call f args H2=O (p,H2)
theorem MF{ts:Array TypeId}{l:List PV}(h:gF P .len ts l H=O (p,H')):H'=H:=by
 match l,h with
 |[x],h=>
  simp only[gF]at h;split at h
  .split at h<;>cases h;rfl
  .split at h
   .split at h<;>cases h;rfl
   .cases h
  .cases h
theorem Al(l:NC call pf)(e:gd pf ow o D<=1)(h:gU P call ow o D H=O (p,H')):H'=H:=by
 unfold gU at h;split at h
 .rename_i x d;have m:¬kq ow=J:=λm=>by simp[gd,d,m]at e
  rw[ae m]at h;cases h;rfl
 .rename_i x d;split at h
  .cases h;rfl
  .simp[gd,d]at e
 .simp only[j5]at h;obtain⟨t,_,h⟩:=h;cases h;rfl
 .rename_i d;simp[gd,d]at e
 .rename_i d;cases ow with
  |nil=>simp[gd,d]at e
  |cons =>
   simp only[j5]at h;obtain⟨ds,_,h⟩:=h;cases h;rfl
 .rename_i t g d;cases ow with
  |cons=>simp only[gd,d]at e;split at e<;>omega
  |nil=>
  simp only[lM,kq,j6,ai]at h;split at h
  .split at h
   .split at h
    .split at h
     .split at h
      .rename_i F bs A;simp only[ko,j9,jI]at A;obtain⟨rfl,rfl⟩:=A;cases h;simp
      .cases h
     .cases h
    .cases h
   .cases h
  .cases h
 .rename_i t n g d;split at h
  .split at h
   .rename_i s;cases ow with
    |nil=>cases s
    |cons=>simp[gd,d]at e
   split at h
   .rename_i u;cases ow with
    |nil=>cases u
    |cons=>simp[gd,d]at e
   split at h
   .split at h
    .split at h
     .cases h;rfl
     .simp[gd,d]at e
    .cases h
   .cases h
  .cases h
 .rename_i d;cases ow with
  |cons=>simp[gd,d]at e
  |nil=>
  simp only[kR]at h;split at h
  .split at h
   .split at h
    .simp only[j5]at h;obtain⟨q,_,h⟩:=h;cases h;rfl
    .cases h
   .simp only[j5]at h;obtain⟨q,_,h⟩:=h;cases h;rfl
   .split at h
    .split at h
     .simp only[j5]at h;obtain⟨q,_,h⟩:=h;cases h;rfl
     .split at h
      .simp only[j5]at h;obtain⟨q,_,h⟩:=h;cases h;rfl
      .cases h
    .cases h
   .cases h
  .cases h
 .rename_i d;simp[gd,d]at e
 .split at h<;>cases h<;>rfl
 .split at h
  .split at h<;>cases h<;>rfl
  .cases h
 .rename_i d;cases ow with
  |nil=>simp[gd,d]at e
  |cons v xs=>
   by_cases j:8000<=v.1
   .simp only at h;rw[aj j]at h;split at h
    .split at h
     .split at h
      .cases h;rfl
      .cases h
     .cases h
    .cases h
   .simp[gd,d,j]at e
 .rename_i d;simp[gd,d]at e
 .rename_i d;simp[gd,d]at e
 .rename_i d;simp[gd,d]at e
 .split at h
  .split at h
   .split at h
    .cases h;rfl
    .simp only[j5]at h;obtain⟨z,_,h⟩:=h;cases h;rfl
    .cases h
   .cases h
  .cases h
 .split at h
  .split at h
   .split at h
    .split at h<;>cases h<;>rfl
    .cases h
   .cases h
  .cases h
 .split at h
  .split at h
   .split at h
    .split at h
     .split at h
      .split at h
       .split at h<;>cases h;rfl
       .cases h
      .split at h
       .split at h<;>cases h;rfl
       .cases h
      .split at h<;>cases h;rfl
      .split at h<;>cases h;rfl
      .cases h
     .cases h
    .cases h
   .split at h
    .split at h
     .split at h<;>cases h;rfl
     .split at h<;>cases h;rfl
     .cases h
    .cases h
  .cases h
 .have key:∀(es:List fS) (x:Option (PV×List fU)),x=O (p,H')->(∀q H1,x=O (q,H1)->H1=H)->H'=H:=λ_ x G K=>K _ _ G
  split at h
  .split at h
   .split at h
    .split at h<;>cases h;rfl
    .cases h
   .cases h
  .split at h
   .split at h
    .split at h<;>cases h;rfl
    .cases h
   .cases h
  .split at h
   .split at h
    .simp only[j5]at h;obtain⟨q,_,h⟩:=h;cases h;rfl
    .cases h
   .cases h
  .split at h
   .split at h
    .simp only[j5]at h;obtain⟨q,_,h⟩:=h;cases h;rfl
    .cases h
   .cases h
  .exact(iA h).1
 .rename_i d;split at h
  .split at h
   .split at h
    .split at h
     .split at h
      .cases h;rfl
      .simp[gd,d]at e
     .cases h;rfl
    .cases h
   .cases h
  .cases h
 .split at h
  .simp only[bS,jK]at h;obtain⟨_,_,_,_,_,_,_,_,_,_,h⟩:=h;cases h;rfl
  .simp only[bS,jK]at h;obtain⟨_,_,_,_,_,_,_,_,_,_,h⟩:=h;cases h;rfl
  .cases h
 .split at h
  .simp only[j5]at h;obtain⟨q,_,h⟩:=h;cases h;rfl
  .cases h
 .rename_i c d;obtain⟨callee,args,ts⟩:=c;simp only at h;split at h
  .rename_i f;cases ow with
   |cons v xs=>
    by_cases k:13000<=v.1
    .simp only[aj k]at h;unfold p5 at h;split at h
     .split at h
      .cases h;rfl
      .split at h
       .cases h;rfl
       .cases h
     .cases h
    .simp only[gd,d,ae k]at e;split at e<;>(try split at e)<;>(try split at e)<;>(try split at e)<;>omega
   |nil=>
   simp only at h;split at h
   .rename_i B x y w;by_cases C:pf B=J
    .exact(l _ _ _ _ _ C h).1
    .simp[gd,d,w,C]at e
   .rename_i B cap w;simp[gd,d,w]at e
   .cases h
  .rename_i b;split at h
   .rename_i r E;cases h;cases b with
    |append=>simp only[gd,d]at e;split at e<;>(try split at e)<;>omega
    |clear|copy|cap=>simp[gd,d]at e
    |len=>exact MF E
    |_=>simp[gF]at E
   .exact(iA h).1
  .cases h
 .split at h
  .cases h;rfl
  .split at h
   .cases h;rfl
   .exact(iA h).1
 .exact(iA h).1
 .exact(iA h).1
 .exact(iA h).1
 .cases h
theorem nC{H2:List fU}:∀(args:List PV) (ds:List fS),gR H args=O ds->args.any PV.fx=U->gR H2 args=O ds
 |[],ds,h,_=>h
 |c::r,ds,h,hl=>by
  simp only[fy,fo]at hl
  have k:∀(c:PV) (d:fS),gH H c=O d->c.tl=U->gH H2 c=O d:=λc d h hn=>by
   cases c with
   |arr i o len cap=>cases hn
   |ms=>cases hn
   |_=>first|(simp[gH]at h;done)|(simpa[gH]using h)
  have f:∀(cs:List PV) (ds:List fS),lz H cs=O ds->cs.any PV.tl=U->lz H2 cs=O ds:=by
   intro cs;induction cs with
   |nil=>intro ds h _;exact h
   |cons c cs l=>
    intro ds h hn;simp only[fy,fo]at hn;simp only[lz]at h |-;split at h
    .rename_i d ds' e g;rw[k c d e hn.1,l _ g hn.2];exact h
    .cases h
  simp only[gR]at h |-;split at h
  .rename_i d ds' e g
   have j:ja H2 c=O d:=by
    cases c with
    |agg cs=>
     simp only[ja,j5]at e |-;obtain⟨es,e,rfl⟩:=e;exact⟨es,f _ _ e (by simpa[PV.fx]using hl.1),rfl⟩
    |arr i o len cap=>simp[PV.fx]at hl
    |ms=>simp[PV.fx]at hl
    |_=>first|(simp[ja,gH]at e;done)|(simpa[ja,gH]using e)
   rw[j,nC r ds' g hl.2];exact h
  .cases h
theorem KH{ts:Array TypeId}{l:List PV}{H2:List fU}(hl:l.any PV.isMap=U):gF P .len ts l H2=(gF P .len ts l H).map λx=>(x.1,H2):=by
 match l with
 |[]=>rfl
 |[x]=>
  simp only[gF];split
  .split <;>rfl
  .split
   .rename_i c;simp[PV.isMap]at hl
   .rfl
  .rfl
 |_::_::_=>rfl
theorem FO(S:NC call pf)(j:gd pf ow o D=0)(h:gU P call ow o D H=O (p,H'))(H2:List fU):gU P call ow o D H2=O (p,H2):=by
 cases g:o.op with
 |move x=>
  have F:¬kq ow=J:=λF=>by simp[gd,g,F]at j
  simp only[gU,g,ae F]at h |-;cases h;rfl
 |assign x=>
  cases ow with
  |nil=>simp only[gU,g]at h |-;cases h;rfl
  |cons=>simp[gd,g]at j
 |pick c x y=>
  simp only[gU,g,j5]at h |-;obtain⟨t,R,h⟩:=h;cases h;exact⟨t,R,rfl⟩
 |alloc e=>simp[gd,g]at j
 |box e x=>
  cases ow with
  |nil=>simp[gd,g]at j
  |cons =>
   simp only[gU,g,j5]at h |-;obtain⟨ds,G,h⟩:=h;cases h;exact⟨ds,G,rfl⟩
 |build t ps=>
  cases ow with
  |cons=>simp only[gd,g]at j;split at j<;>cases j
  |nil=>
   simp only[gU,g,lM,kq,j6,ai]at h |-;split at h
   .split at h
    .split at h
     .split at h
      .split at h
       .rename_i hz T _ cs E K hun _ cs' bs R;simp only[ko,j9,jI]at R;obtain⟨rfl,rfl⟩:=R;cases h;simp[hz,T,E,K,ko]
       .cases h
      .cases h
     .cases h
    .cases h
   .cases h
 |buildSlice t n ps=>
  cases ow with
  |cons=>simp[gd,g]at j
  |nil=>
   simp only[gU,g,Is,wi,List.isEmpty_nil,aF,cm,j6,ai]at h |-;split at h
   .split at h
    .rename_i size ds A L;split at h
     .rename_i hc;cases h
      have hl:(ps.toList.map λ(_,x)=>D x).any PV.fx=U:=by have:=hc.2.2.2.2.2.2;simp only[cB]at this;rw[List.any_map];exact this
      rw[nC (H2:=H2) _ _ L hl];simp only[A,aj hc]
     .cases h
    .cases h
   .cases h
 |load t x=>
  cases ow with
  |cons=>simp[gd,g]at j
  |nil=>
  simp only[gU,kR,g]at h |-;split at h
  .split at h
   .rename_i l;simp[gd,g,l]at j
   .rename_i F A _ cs l;simp only[j5]at h;obtain⟨q,B,h⟩:=h;cases h;simp[F,A,l,B]
   .rename_i l;simp[gd,g,l]at j
   .cases h
  .cases h
 |store t x y=>simp[gd,g]at j
 |nilCheck x=>
  simp only[gU,g]at h |-;split at h<;>cases h<;>rename_i l<;>simp[l]
 |makeFunc fn first cap=>
  cases fn with
  |func f=>
   simp only[gU,g]at h |-;split at h
   .rename_i u;rw[aj u];split at h
    .rename_i s;rw[aj s];cases h;rfl
    .rename_i s;rw[ae s];cases h;rfl
   .cases h
  |_=>simp[gU,g]at h
 |makeSlice t x y=>
  cases ow with
  |nil=>simp[gd,g]at j
  |cons jj xs=>
   by_cases M:8000<=jj.1
   .simp only[gU,g]at h |-;rw[aj M]at h |-;split at h
    .split at h
     .split at h
      .rename_i C;cases h;rw[aj C]
      .cases h
     .cases h
    .cases h
   .simp[gd,g,M]at j
 |fieldAddr t x f=>
  simp only[gU,g]at h |-;split at h
  .split at h
   .split at h
    .split at h<;>cases h<;>first|rfl|simp_all
    .cases h
   .cases h
  .cases h
 |indexAddr t x y=>
  simp only[gU,g]at h |-;split at h
  .split at h
   .split at h
    .split at h
     .rename_i u _ _ s _ _ v z;simp only[u,s,v,aj z];split at h
      .rename_i l;split at h
       .rename_i G;split at h
        .rename_i hn;cases h;simp[l,G,hn]
        .cases h
       .cases h
      .rename_i l;split at h
       .rename_i G;split at h
        .rename_i hn;cases h;simp[l,G,hn]
        .cases h
       .cases h
      .rename_i l;split at h
       .rename_i hn;cases h;simp[l,hn]
       .cases h
      .rename_i l;split at h
       .rename_i hn;cases h;simp[l,hn]
       .cases h
      .cases h
     .cases h
    .cases h
   .rename_i u _ s;split at h
    .rename_i v;split at h
     .rename_i z l;split at h
      .rename_i hn;cases h;simp only[u,s,v,z,l,aj hn]
      .cases h
     .rename_i z l;split at h
      .rename_i hn;cases h;simp only[u,s,v,z,l,aj hn]
      .cases h
     .cases h
    .cases h
  .cases h
 |slice t x lo hi mx=>
  cases mx with
  |some m=>
   cases hi with
   |none=>simp[gU,g]at h
   |some hi=>
    cases ow with
    |cons=>simp[gd,g]at j
    |nil=>
     simp only[gU,g]at h |-;split at h
     .split at h
      .split at h
       .rename_i u s v z hc;split at h
        .rename_i w;cases h;simp only[aj hc,aj w]
        .rename_i w;cases h;simp only[aj hc,ae w]
       .cases h
      .cases h
     .cases h
  |none=>
   simp only[gU,g]at h |-;split at h
   .rename_i l;split at h
    .rename_i w;split at h
     .rename_i u s v;split at h
      .rename_i hc;cases h;simp only[w,u,s,v,aj hc]
      .cases h
     .cases h
    .cases h
   .rename_i l;split at h
    .rename_i w;split at h
     .rename_i u s v;split at h
      .rename_i hc;cases h;simp only[w,u,s,v,aj hc]
      .cases h
     .cases h
    .cases h
   .rename_i l;split at h
    .rename_i w;split at h
     .rename_i hc;simp only[j5]at h;obtain⟨q,B,h⟩:=h;cases h;simp only[w,aj hc,B,jN]
     .cases h
    .cases h
   .rename_i l;split at h
    .rename_i w;split at h
     .rename_i hc;simp only[j5]at h;obtain⟨q,B,h⟩:=h;cases h;simp[w,hc,B]
     .cases h
    .cases h
   .exact(iA h).2 H2
 |field t x f=>
  simp only[gU,g]at h |-;split at h
  .simp only[bS,jK]at h |-;obtain⟨fs,u,W,s,X,v,Y,z,d,h5,h⟩:=h;cases h;exact⟨fs,u,W,s,X,v,Y,z,_,h5,rfl⟩
  .simp only[bS,jK]at h |-;obtain⟨fs,u,W,s,X,v,Y,z,d,h5,h⟩:=h;cases h;exact⟨fs,u,W,s,X,v,Y,z,_,h5,rfl⟩
  .cases h
 |extract x k=>
  simp only[gU,g]at h |-;split at h
  .simp only[j5]at h |-;obtain⟨q,B,h⟩:=h;cases h;exact⟨_,B,rfl⟩
  .cases h
 |call c=>
  obtain⟨callee,args,ts⟩:=c;cases callee with
  |value f=>
   cases ow with
   |cons jj xs=>(try simp only[iT,g,ite_eq_right_iff,reduceCtorEq]at Q);simp only[gd,g]at j;split at j<;>(try split at j)<;>(try split at j)<;>(try split at j)<;>(try split at j)<;>first|(cases j;done)|(exfalso;exact Q (by assumption))
   |nil=>
   simp only[gU,g]at h |-;split at h
   .rename_i fi x y E;by_cases L:pf fi=J
    .have hl:(args.toList.map D).any PV.fx=U:=by
      simp only[gd,g,E,L,ak]at j;split at j
      .cases j
      .rename_i hn;simpa using hn
     obtain⟨_,⟨ds,N⟩,k⟩:=S _ _ _ _ _ L h;exact k H2 (by rw[nC (H2:=H2) _ _ N hl,N])
    .simp[gd,g,E,L]at j
   .rename_i E;simp[gd,g,E]at j
   .cases h
  |builtin b=>
   simp only[gU,g]at h |-;cases b with
   |append=>simp only[gd,g]at j;split at j<;>(try split at j)<;>cases j
   |clear=>simp[gd,g]at j
   |copy=>simp[gd,g]at j
   |cap=>simp[gd,g]at j
   |len=>
    have hl:(args.toList.map D).any PV.isMap=U:=by
     simp only[gd,g]at j;split at j
     .cases j
     .rename_i hn;simpa using hn
    rw[KH (H2:=H2) hl];split at h
    .rename_i r Q;cases h;rw[Q];rfl
    .rename_i Q;rw[Q];exact(iA h).2 H2
   |_=>
    simp only[gF]at h |-;exact(iA h).2 H2
  |invoke x n=>simp[gU,g]at h
 |binOp op t x y yt=>
  simp only[gU,g]at h |-;split at h
  .cases h;rfl
  .split at h
   .cases h;rfl
   .exact(iA h).2 H2
 |unOp=>simp only[gU,g]at h |-;exact(iA h).2 H2
 |convert=>simp only[gU,g]at h |-;exact(iA h).2 H2
 |index=>simp only[gU,g]at h |-;exact(iA h).2 H2
 |makeMap t r=>simp[gd,g]at j
 |mapUpdate|insert|range|next=>simp[gd,g]at j
 |lookup=>simp[gd,g]at j
 |_=>simp[gU,g]at h
def PV.nn:PV->List Nat
 |.ptr i _=>[i]
 |.mp t _ _=>[t]
 |.arr i _ _ _=>[i]
 |.ms t _ _ _ _=>[t]
 |.hC i=>[i]
 |_=>[]
def PV.l4:PV->List Nat
 |.agg cs=>cs.flatMap PV.nn
 |p=>p.nn
def yW:Option fU->Prop
 |some (.tok _ _)=>True
 |_=>False
theorem xI{H2:List fU}{c:PV}(h:∀i,i∈c.nn->H2[i]?=H[i]?):gH H2 c=gH H c:=by
 cases c with
 |arr i o len cap=>simp only[gH];rw[h i (by simp[PV.nn])]
 |ms t g lo len cap=>simp only[gH,ga];rw[h t (by simp[PV.nn])]
 |_=>rfl
theorem vF{H2:List fU}:∀(cs:List PV),(∀c,c∈cs->∀i,i∈c.nn->H2[i]?=H[i]?)->lz H2 cs=lz H cs
 |[],_=>rfl
 |c::cs,h=>by simp only[lz];rw[xI (h c yB),vF cs λd hc=>h d (by simp[hc])]
theorem Gr{H2:List fU}{c:PV}(h:∀i,i∈c.l4->H2[i]?=H[i]?):ja H2 c=ja H c:=by
 cases c with
 |agg cs=>simp only[ja];rw[vF cs λc hc i hi=>h i (by simp only[PV.l4,bJ];exact⟨c,hc,hi⟩)]
 |_=>simp only[ja];exact xI h
theorem yT{H2:List fU}:∀(cs:List PV),(∀c,c∈cs->∀i,i∈c.l4->H2[i]?=H[i]?)->gR H2 cs=gR H cs
 |[],_=>rfl
 |c::cs,h=>by simp only[gR];rw[Gr (h c yB),yT cs λd hc=>h d (by simp[hc])]
theorem xZ{c:PV}{d:fS}(h:gH H c=O d){i:Nat}(hi:i∈c.nn):i<I H/\¬yW H[i]?:=by
 cases c with
 |arr f o len cap=>
  simp[PV.nn]at hi;subst hi;simp only[gH]at h;split at h
  .rename_i e;exact⟨(af.1 e).1,by rw[e];exact λh=>h⟩
  .cases h
 |ms t g lo len cap=>
  simp[PV.nn]at hi;subst hi;simp only[gH]at h;split at h
  .rename_i e;exact⟨(af.1 (ZO e)).1,by rw[ZO e];exact λh=>h⟩
  .cases h
 |ptr|mp|hC=>simp[gH]at h
 |_=>simp[PV.nn]at hi
theorem FN{c:PV}{d:fS}(h:ja H c=O d){i:Nat}(hi:i∈c.l4):i<I H/\¬yW H[i]?:=by
 cases c with
 |agg cs=>
  simp only[ja,j5]at h;obtain⟨ds,h,_⟩:=h;obtain⟨p1,f⟩:=lV _ _ h;simp only[PV.l4,bJ]at hi;obtain⟨c,hc,hi⟩:=hi;obtain⟨j,e⟩:=aT hc;have hl:=(af.1 e).1;exact xZ (f j c _ e (jC y9)) hi
 |_=>simp only[ja]at h;exact xZ h hi
theorem O7(F:NC call pf)(L:iT ow o D=Z)(d:gd pf ow o D=1)(h:gU P call ow o D H=O (p,H')):∃xs:List Operand,(∀x,x∈xs->x∈o.op.operands)/\(∀x,x∈xs->∀i,i∈(D x).l4->i<I H/\¬yW H[i]?)/\
  ∀H2,(∀x,x∈xs->∀i,i∈(D x).l4->H2[i]?=H[i]?)->gU P call ow o D H2=O (p,H2):=by
 cases g:o.op with
 |load t x=>
  cases ow with
  |cons=>simp[gd,g]at d
  |nil=>
  have s:∀i,i∈(D x).l4->i<I H/\¬yW H[i]?:=λi hi=>by
   simp only[gU,kR,g]at h;split at h
   .split at h
    .rename_i l;rw[l]at hi;simp[PV.l4,PV.nn]at hi;subst hi;split at h
     .rename_i u;exact⟨(af.1 u).1,by rw[u];exact λh=>h⟩
     .cases h
    .rename_i l;rw[l]at hi;simp[PV.l4,PV.nn]at hi
    .rename_i l;rw[l]at hi;simp[PV.l4,PV.nn]at hi;subst hi;split at h
     .rename_i u;exact⟨(af.1 (ZO u)).1,by rw[ZO u];exact λh=>h⟩
     .cases h
    .cases h
   .cases h
  refine⟨[x],λy w=>by rw[cu.1 w];simp[Op.operands],λy w=>by rw[cu.1 w];exact s,λH2 v=>?_⟩;replace v:=v x yB;simp only[gU,kR,g]at h |-;split at h
  .split at h
   .rename_i l;rw[<-v _ (by rw[l];simp[PV.l4,PV.nn])]at h;split at h
    .simp only[j5]at h;obtain⟨q,E,h⟩:=h;cases h;simp[E]
    .cases h
   .rename_i l;simp[gd,g,l]at d
   .rename_i l;rw[ga,<-v _ (by rw[l];simp[PV.l4,PV.nn])]at h
    change (match ga H2 _ with|some (_,g',cs)=>_|none=>Z)=_ at h
    split at h
    .rename_i V;split at h
     .rename_i hc;simp only[j5]at h;obtain⟨q,E,h⟩:=h;cases h;simp only[V,aj hc,E];rfl
     .rename_i hc;split at h
      .rename_i G;simp only[j5]at h;obtain⟨q,E,h⟩:=h;cases h;simp only[V,ae hc,aj G];rw[E];rfl
      .cases h
    .cases h
   .cases h
  .cases h
 |makeSlice t x y=>cases ow<;>(simp only[gd,g]at d;try split at d)<;>(try cases d)
 |assign x=>cases ow<;>simp[gd,g]at d
 |build t N=>(cases ow<;>simp only[gd,g]at d)<;>(try split at d)<;>cases d
 |buildSlice t n N=>cases ow<;>simp[gd,g]at d
 |slice t x lo hi Q=>cases hi<;>cases Q<;>cases ow<;>simp[gd,g]at d
 |call c=>
  obtain⟨callee,args,ts⟩:=c;cases callee with
  |value f=>
   cases ow with
   |cons W xs=>(try simp only[iT,g,ite_eq_right_iff,reduceCtorEq]at L);simp only[gd,g]at d;split at d<;>(try split at d)<;>(try split at d)<;>(try split at d)<;>(try split at d)<;>first|(cases d;done)|(exfalso;exact L (by assumption))
   |nil=>
   have r:=d;simp only[gd,g]at r;split at r
   .rename_i X x y M;split at r
    .rename_i R;simp only[gU,g,M]at h;obtain⟨_,⟨ds,K⟩,k⟩:=F _ _ _ _ _ R h;obtain⟨p1,S⟩:=kE _ _ K;refine⟨args.toList,λz A=>by simp only[Op.operands,Call.operands];simp;exact .inr (by simpa using A),λz A i hi=>?_,λH2 v=>?_⟩
     .obtain⟨j,C⟩:=aT A;have hl:j<I ds:=by rw[p1,jZ];exact(af.1 C).1
      exact FN (S j (D z) _ (by rw[jD,C];rfl) (jC hl)) hi
     .simp only[gU,g,M];refine k H2 (yT _ λc hc=>?_);obtain⟨z,A,rfl⟩:=aq.1 hc;exact v z A
    .cases r
   .cases r
  |builtin b=>
   cases b with
   |len=>simp only[gd,g]at d;split at d<;>cases d
   |append=>simp only[gd,g]at d;split at d<;>(try split at d)<;>cases d
   |_=>simp[gd,g]at d
  |invoke x n=>simp[gd,g]at d
 |box e x=>cases ow<;>simp[gd,g]at d
 |move x=>simp only[gd,g]at d;split at d<;>cases d
 |lookup t m k ok=>
  simp only[gU,g]at h;split at h
  case h_2=>cases h
  rename_i i V;split at h
  case h_2=>cases h
  rename_i es B;have u:=kS B;refine⟨[m],λy w=>by rw[cu.1 w];simp[Op.operands],λy w j C=>?_,λH2 v=>?_⟩
  .rw[cu.1 w,V]at C;simp[PV.l4,PV.nn]at C;subst C;exact⟨(af.1 u).1,by rw[u];exact λh=>h⟩
  .have T:mapOf H2 i=O es:=by have:=v m yB i (by rw[V];simp[PV.l4,PV.nn]);unfold mapOf at B |-;rw[this];exact B
   simp only[gU,g,V,T];split at h
   .cases h;rfl
   .simp only[j5]at h;obtain⟨z,A,h⟩:=h;cases h;simp[A]
   .cases h
 |_=>simp[gd,g]at d
theorem Np{n:Nat}(g:iT ow o D=O n)(h:gU P call ow o D H=O (p,H')):n<=I H/\∀H2,(∀i,i<n->H2[i]?=H[i]?)->gU P call ow o D H2=O (p,H2):=by
 unfold iT at g;split at g
 case h_2=>cases g
 rename_i c z;obtain⟨callee,args,ts⟩:=c;cases callee with
 |builtin b=>cases g
 |invoke x n=>cases g
 |value f=>
  cases ow with
  |nil=>cases g
  |cons v xs=>
   simp only at g;split at g
   case isFalse=>cases g
   rename_i k;simp only[j9]at g;subst g;simp only[gU,z]at h |-;rw[aj k]at h;unfold p5 at h;split at h
   case h_2=>cases h
   rename_i q R d
   have hR:R=H/\q=p:=by
    split at h
    .rename_i m;cases h;exact⟨tH m,rfl⟩
    .split at h
     .rename_i m;cases h;exact⟨m,rfl⟩
     .cases h
   obtain⟨hR,rfl⟩:=hR;generalize hn:u7 (args.toList.map D)+v.2=n at *;unfold lB at d;split at d
   case h_2=>cases d
   rename_i F G K r;rw[hn]at d;unfold jn at d;split at d
   case isFalse=>cases d
   rename_i hc;split at d
   case h_2=>cases d
   rename_i p1 H1 s;split at d
   case isFalse=>cases d
   rename_i A;simp only[j9,jI]at d;obtain⟨rfl,l⟩:=d;have w:∀{i:Nat} {x:fU},i<n->H[i]?=O x->x∈H.take n:=λ{i x} hi B=>jF (i:=i) (by rw[jR,aj hi];exact B)
   refine⟨hc.1,λH2 C=>?_⟩
   .have j:H2.take n=H.take n:=bG λi=>by
     rw[jR,jR];split
     .rename_i hi;exact C i hi
     .rfl
    have hl:n<=I H2:=by have:=bQ List.length j;rw[zW,zW]at this;have:=hc.1;omega
    have t:lB call (D f) (args.toList.map D) v.2 H2=O (p1,H2):=by
     unfold lB;rw[r];simp only[hn];unfold jn;rw[aj ⟨hl,hc.2.1,by rw[j];exact hc.2.2⟩,j,s];simp only;rw[aj A]
     have E:H1.take n=H2.take n:=by
      rw[j];have e:=bQ (List.take n) (l.trans hR);rw[List.take_append,List.take_take,Nat.min_self]at e
      have u:I (H1.take n)=n:=by have y:=bQ List.length (l.trans hR);rw[jW,y7]at y;have:=hc.1;rw[zW]at y |-;omega
      rw[u,cH,List.take_zero,jV]at e;exact e
     rw[E,y8]
    rw[aj k];unfold p5;rw[t];simp only[hn,j];split
    .rfl
    .rfl
theorem uz(d:gd pf ow o D=2)(h:gU P call ow o D H=O (p,H')):∃bs,H'=H++bs:=by
 cases g:o.op with
 |alloc e=>
  simp only[gU,g]at h;split at h
  .split at h
   .cases h;exact⟨_,rfl⟩
   .cases h
  .cases h
 |box e x=>
  cases ow with
  |cons=>simp[gd,g]at d
  |nil=>
  simp only[gU,g]at h;split at h
  .cases h;exact⟨_,rfl⟩
  .cases h
 |makeSlice t x y=>
  simp only[gU,g]at h;split at h
  .split at h
   .split at h
    .split at h
     .cases h;exact⟨_,rfl⟩
     .cases h
    .cases h
   .cases h
  .rename_i k G ow';have v:¬8000<=k:=λhc=>by simp[gd,g,hc]at d
   rw[ae v]at h;by_cases s:k=1000
   .rw[aj s]at h;split at h
    .split at h
     .split at h
      .unfold qw at h;split at h
       .split at h<;>cases h<;>exact⟨_,rfl⟩
       .cases h
      .cases h
     .cases h
    .cases h
   rw[ae s]at h;cases h
 |assign x=>
  cases ow with
  |nil=>simp[gd,g]at d
  |cons =>
   simp only[gU,g]at h;split at h
   .split at h<;>cases h<;>exact⟨_,rfl⟩
   .cases h
 |slice t x lo hi u=>
  cases ow with
  |nil=>cases hi<;>cases u<;>simp[gd,g]at d
  |cons =>
   cases hi with
   |none=>cases u<;>simp[gd,g]at d
   |some hi=>
    cases u with
    |none=>simp[gd,g]at d
    |some u=>
     simp only[gU,g]at h;split at h
     .split at h
      .split at h
       .split at h
        .split at h
         .cases h;exact⟨_,rfl⟩
         .cases h
        .cases h;exact⟨[],by simp⟩
       .cases h
      .cases h
     .cases h
 |build t B=>
  have C:kq ow=U:=by
   cases ow with
   |nil=>rfl
   |cons x xs=>
    simp only[gd,g]at d;split at d
    .cases d
    .rename_i E;simpa[kq]using E
  simp only[gU,g,lM,C,j6,ai]at h;split at h
  .split at h
   .split at h
    .split at h
     .split at h
      .cases h;exact⟨_,rfl⟩
      .cases h
     .cases h
    .cases h
   .cases h
  .cases h
 |buildSlice t n B=>
  cases ow with
  |nil=>simp[gd,g]at d
  |cons =>
   simp only[gU,g]at h;split at h
   .split at h
    .split at h
     .split at h
      .cases h;exact⟨_,rfl⟩
      .cases h
     .cases h
    split at h
    .split at h
     .cases h;exact⟨_,rfl⟩
     .cases h
    .split at h
     .split at h
      .split at h
       .split at h
        .split at h
         .cases h;exact⟨_,rfl⟩
         .split at h
          .cases h;exact⟨_,rfl⟩
          .cases h
        .cases h;exact⟨_,rfl⟩
       .cases h
      .cases h
     .cases h
   .cases h
 |makeMap t r=>
  cases r with
  |none=>
   simp only[gU,g]at h;split at h
   .cases h;exact⟨_,rfl⟩
   .cases h
  |some r=>simp[gU,g]at h
 |load t x=>
  cases ow with
  |cons=>simp[gd,g]at d
  |nil=>
  simp only[gd,g]at d;split at d<;>cases d
 |call c=>
  obtain⟨callee,args,ts⟩:=c;cases callee with
  |value f=>
   cases ow with
   |cons k xs=>
    have m:¬13000<=k.1:=λhc=>by simp only[gd,g,aj hc]at d;cases d
    have q:¬12000<=k.1:=λhc=>by simp only[gd,g,ae m,aj hc]at d;cases d
    have z:¬6000<=k.1:=λhc=>by simp only[gd,g,ae m,ae q,aj hc]at d;cases d
    have hn:¬2000<=k.1:=λhc=>by simp only[gd,g,ae m,ae q,ae z,aj hc]at d;cases d
    simp only[gU,g]at h;rw[ae m,ae q,ae (show¬k.1=7000 by omega),ae z]at h;split at h
    .rw[ae (show¬k.1=5000 by omega),ae hn]at h;unfold kW at h;split at h
     .split at h
      .split at h
       .split at h
        .cases h;exact⟨_,rfl⟩
        .cases h
       .cases h
      .split at h
       .cases h;exact⟨_,rfl⟩
       .cases h
      .cases h
     .cases h
    .cases h
   |nil=>
   simp only[gd,g]at d;split at d
   .split at d
    .split at d<;>cases d
    .cases d
   .cases d
  |builtin b=>
   cases b with
   |len=>simp only[gd,g]at d;split at d<;>cases d
   |append=>
    simp only[gd,g]at d;split at d
    .cases d
    split at d
    case isFalse=>cases d
    rename_i A;simp only[gU,g]at h;generalize hl:args.toList.map D=l at h A
    match l,A with
    |[.arr i off 0 0,.b7 (.ew es)],_=>
     split at h
     .rename_i r j;cases h;simp only[gF]at j;split at j
      .split at j
       .split at j
        .split at j
         .unfold ve at j;split at j
          .cases j;exact⟨_,rfl⟩
          .cases j
         .cases j
        .cases j
       .cases j
      .cases j
     .have w:gZ P o D H=Z:=by
       unfold gZ
       have:(o.op.operands.toList.map λx=>(D x).e6).all Option.isSome=U:=by
        rw[g];have V:PV.arr i off 0 0∈args.toList.map D:=by rw[hl];simp
        obtain⟨x,F,e⟩:=aq.1 V;rw[eA];exact⟨Z,aq.2 ⟨x,by simpa[Op.operands,Call.operands]using F,by rw[e];rfl⟩,by simp⟩
       simp only[this];rfl
      rw[w]at h;cases h
   |_=>simp[gd,g]at d
  |invoke x n=>simp[gd,g]at d
 |move x=>simp only[gd,g]at d;split at d<;>cases d
 |_=>simp[gd,g]at d
theorem xY{e size bytes t:Nat}{xs es:List fS}(h:ud H e size bytes (.vec t xs) es=O (p,H')):∃n n',H[t]?=O (.tok e n)/\H'=H.set t (.tok e n'):=by
 unfold ud at h;split at h
 .simp only at h;split at h
  .rename_i c;split at h
   .rename_i hc;obtain⟨_,rfl,_⟩:=hc;cases h;exact⟨_,_,c,rfl⟩
   .cases h
  .cases h
 .cases h
theorem IF(d:gd pf ow o D=4)(h:gU P call ow o D H=O (p,H')):∃t e n n',H[t]?=O (.tok e n)/\H'=H.set t (.tok e n'):=by
 cases g:o.op with
 |load t x=>cases ow with|cons=>simp[gd,g]at d|nil=>simp only[gd,g]at d;split at d<;>cases d
 |makeSlice t x y=>cases ow<;>(simp only[gd,g]at d;try split at d)<;>(try cases d)
 |assign x=>cases ow<;>simp[gd,g]at d
 |build t q=>(cases ow<;>simp only[gd,g]at d)<;>(try split at d)<;>cases d
 |buildSlice t n q=>cases ow<;>simp[gd,g]at d
 |slice t x lo hi s=>cases hi<;>cases s<;>cases ow<;>simp[gd,g]at d
 |call c=>
  obtain⟨callee,args,ts⟩:=c;cases callee with
  |value f=>
   cases ow with
   |cons z xs=>(try simp only[iT,g,ite_eq_right_iff,reduceCtorEq]at hr);simp only[gd,g]at d;split at d<;>(try split at d)<;>(try split at d)<;>(try split at d)<;>(try split at d)<;>first|(cases d;done)|(exfalso;exact hr (by assumption))
   |nil=>
   simp only[gd,g]at d;split at d
   .split at d
    .split at d<;>cases d
    .cases d
   .cases d
  |builtin b=>
   cases b with
   |len=>simp only[gd,g]at d;split at d<;>cases d
   |append=>
    simp only[gd,g]at d;split at d
    .rename_i m;simp only[gU,g]at h;generalize hl:args.toList.map D=l at h m
     match l,m with
     |.vec t xs::r,_=>
      have k:gZ P o D H=Z:=by
       unfold gZ
       have:(o.op.operands.toList.map λx=>(D x).e6).all Option.isSome=U:=by
        rw[g];have V:PV.vec t xs∈args.toList.map D:=by rw[hl];simp
        obtain⟨x,u,e⟩:=aq.1 V;rw[eA];exact⟨Z,aq.2 ⟨x,by simpa[Op.operands,Call.operands]using u,by rw[e];rfl⟩,by simp⟩
       simp only[this];rfl
      cases j:gF P .append ts (.vec t xs::r) H with
      |none=>rw[j,k]at h;cases h
      |some y=>
       rw[j]at h;cases h
       match r,j with
       |[x],j=>
        simp only[gF]at j;split at j
        .split at j
         .split at j
          .split at j
           .obtain⟨n,n',v,w⟩:=xY j;exact⟨_,_,n,n',v,w⟩
           .cases j
          .cases j
         .cases j
        .cases j
       |[],j=>simp[gF]at j
       |_::_::_,j=>simp[gF]at j
    .split at d<;>cases d
   |_=>simp[gd,g]at d
  |invoke x n=>simp[gd,g]at d
 |box e x=>cases ow<;>simp[gd,g]at d
 |move x=>simp only[gd,g]at d;split at d<;>cases d
 |_=>simp[gd,g]at d
theorem LK(g:gd pf ow o D=6)(h:gU P call ow o D H=O (p,H')):H'=H:=by
 cases j:o.op with
 |load t x=>cases ow with|cons=>simp[gd,j]at g|nil=>simp only[gd,j]at g;split at g<;>cases g
 |makeSlice t x y=>cases ow<;>(simp only[gd,j]at g;try split at g)<;>(try cases g)
 |assign x=>cases ow<;>simp[gd,j]at g
 |build t u=>(cases ow<;>simp only[gd,j]at g)<;>(try split at g)<;>cases g
 |buildSlice t n u=>cases ow<;>simp[gd,j]at g
 |slice t x lo hi v=>cases hi<;>cases v<;>cases ow<;>simp[gd,j]at g
 |call c=>
  obtain⟨callee,args,ts⟩:=c;cases callee with
  |value f=>
   cases ow with
   |cons q xs=>
    have k:¬13000<=q.1:=λhc=>by simp only[gd,j,aj hc]at g;cases g
    have l:¬12000<=q.1:=λhc=>by simp only[gd,j,ae k,aj hc]at g;cases g
    by_cases s:6000<=q.1
    .simp only[gU,j]at h;rw[ae k,ae l]at h;by_cases m:q.1=7000
     .rw[aj m]at h;unfold p6 at h;split at h
      .split at h
       .cases h
       .split at h
        .split at h
         .simp only[j5]at h;obtain⟨d,_,h⟩:=h;cases h;rfl
         .cases h
        .cases h
      .cases h
     rw[ae m,aj s]at h;unfold rN at h;split at h
     .split at h
      .rename_i r;cases h;exact r.elim (λr=>(tH r).symm) id
      .cases h
     .cases h
    .simp only[gd,j,ae k,ae l,ae s]at g;split at g<;>(try split at g)<;>cases g
   |nil=>
   simp only[gd,j]at g;split at g
   .split at g
    .split at g<;>cases g
    .cases g
   .cases g
  |builtin b=>
   cases b with
   |len=>simp only[gd,j]at g;split at g<;>cases g
   |append=>simp only[gd,j]at g;split at g<;>(try split at g)<;>cases g
   |_=>simp[gd,j]at g
  |invoke x n=>simp[gd,j]at g
 |box e x=>cases ow<;>simp[gd,j]at g
 |move x=>simp only[gd,j]at g;split at g<;>cases g
 |_=>simp[gd,j]at g
end
def xF(n k i:Nat):Nat:=if i<n then i else k+(i - n)
theorem r9(n k i:Nat):xF n k (n+i)=k+i:=by unfold xF;rw[ae y9];congr 1;omega
theorem tR{n k i:Nat}(h:i<n):xF n k i=i:=by unfold xF;rw[aj h]
section
variable{P:fL}{call:gO}{pf:fM->Bool}{ow:List (Nat×TypeId)}{o:Oper}{D:fO->PV}{H H' H2:List fU}{p:PV}
def N0(P:fL)(call:gO)(ow:List (Nat×TypeId))(o:Oper)(D:fO->PV)(H H2 H':List fU)(p:PV):Prop:=
 ∃d c,gU P call ow o D H2=O (d,H2++c)/\p=d.eR (xF (I H2) (I H))/\H'=H++c.map (fU.eR (xF (I H2) (I H)))/\∀x∈c,x≠fU.hole
theorem Kt(j:gd pf ow o D=2)(h:gU P call ow o D H=O (p,H'))(M:∀x,(D x).eR (xF (I H2) (I H))=D x):N0 P call ow o D H H2 H' p:=by
 have h0:xF (I H2) (I H) (I H2)=I H:=r9 _ _ 0;have s:∀x,(D x).cells.map (PV.eR (xF (I H2) (I H)))=(D x).cells:=λx=>by rw[<-Ks,M]
 have q:∀b:fU,b≠.hole->∀x∈[b],x≠fU.hole:=λb u x K=>by rw[cu.1 K];exact u
 unfold N0;cases m:o.op with
 |alloc e=>
  simp only[gU,m]at h |-;split at h
  .rename_i z hz;split at h
   .rename_i cs bs R;cases h;rw[<-Ia (xF (I H2) (I H))]at R;obtain⟨cs2,S,rfl⟩:=qJ _ ow (I H+1) (I H2+1) _ _ _ (λi=>by rw[bO,r9,bO]) R;obtain⟨t1,t2⟩:=pw _ _ _ _ _ S (xF (I H2) (I H));simp only[S];refine⟨_,_,rfl,by simp[PV.eR,h0],by simp[fU.eR,t1],λx K=>?_⟩;rcases ar.1 K with rfl|K
    .intro h;cases h
    .exact t2 x K
   .cases h
  .cases h
 |box e x=>
  cases ow with
  |cons=>simp[gd,m]at j
  |nil=>
  simp only[gU,m]at h |-;split at h
  .rename_i hc;cases h;rw[aj hc];exact⟨_,_,rfl,by simp[PV.eR,h0],by simp[fU.eR,s],q _ (by intro h;cases h)⟩
  .cases h
 |makeSlice t x y=>
  simp only[gU,m]at h |-;split at h
  .split at h
   .split at h
    .split at h
     .rename_i hc;cases h;simp only[*,and_self,ak];exact⟨_,_,rfl,by simp[PV.eR,h0],by simp[fU.eR,PV.eR],q _ (by intro h;cases h)⟩
     .cases h
    .cases h
   .cases h
  .rename_i C ee ow';have T:¬8000<=C:=λhc=>by simp[gd,m,hc]at j
   rw[ae T]at h;rw[ae T];by_cases E:C=1000
   .rw[aj E]at h;rw[aj E];split at h
    .split at h
     .split at h
      .rename_i hc;simp only[*,and_self,ak];unfold qw at h |-;split at h
       .rename_i hc1;rw[aj hc1];split at h
        .rename_i L;cases h;rw[aj L];exact⟨_,_,rfl,by simp[PV.eR,h0],by simp[fU.eR],q _ (by intro h;cases h)⟩
        .rename_i L;cases h;rw[ae L];exact⟨_,_,rfl,by simp[PV.eR,h0],by simp[fU.eR,PV.eR],q _ (by intro h;cases h)⟩
       .cases h
      .cases h
     .cases h
    .cases h
   rw[ae E]at h;rw[ae E];cases h
 |assign x=>
  cases ow with
  |nil=>simp[gd,m]at j
  |cons =>
   simp only[gU,m]at h |-;split at h
   .split at h<;>rename_i hc<;>cases h<;>simp only[hc]<;>exact⟨_,_,rfl,by simp[PV.eR,h0],by simp[fU.eR],q _ (by intro h;cases h)⟩
   .cases h
 |slice t x lo hi mx=>
  cases ow with
  |nil=>cases hi<;>cases mx<;>simp[gd,m]at j
  |cons =>
   cases hi with
   |none=>cases mx<;>simp[gd,m]at j
   |some hi=>
    cases mx with
    |none=>simp[gd,m]at j
    |some mx=>
     simp only[gU,m]at h |-;split at h
     .split at h
      .split at h
       .rename_i hc;simp only[*,and_self,ak];split at h
        .rename_i hl;rw[aj hl];split at h
         .rename_i hl0;cases h;rw[aj hl0];exact⟨_,_,rfl,by simp[PV.eR,h0],by simp[fU.eR],q _ (by intro h;cases h)⟩
         .cases h
        .rename_i hl;cases h;rw[ae hl];exact⟨.undef,[],by simp,by simp[PV.eR],by simp,by simp⟩
       .cases h
      .cases h
     .cases h
 |build t W=>
  have hg:kq ow=U:=by
   cases ow with
   |nil=>rfl
   |cons x xs=>
    simp only[gd,m]at j;split at j
    .cases j
    .rename_i X;simpa[kq]using X
  simp only[gU,m,lM,hg,j6,ai]at h |-;split at h
  .rename_i z pl hz F;split at h
   .rename_i cs w;split at h
    .rename_i Y;split at h
     .rename_i hunc;split at h
      .rename_i cs1 bs R;cases h;simp only[hz,F,w,Y,hunc,ak]
       have hcs:cs.map (PV.eR (xF (I H2) (I H)))=cs:=by
        have:=Ap (PV.eR (xF (I H2) (I H))) pl (W.toList.map λ(i,x)=>(i,(D x).cells)) (z.cells.map PV.b7);rw[Ia,w]at this
        have e:(Naa (λx:Nat×List PV=>(x.1,x.2.map (PV.eR (xF (I H2) (I H))))) (W.toList.map λ(i,x)=>(i,(D x).cells)))=W.toList.map λ(i,x)=>(i,(D x).cells):=by rw[zG];apply aJ;intro x _;simp[s]
        rw[e,w]at this
        simpa using this.symm
       rw[<-hcs]at R;obtain⟨cs2,S,rfl⟩:=qJ _ ow (I H) (I H2) _ _ _ (λi=>r9 _ _ i) R;obtain⟨t1,t2⟩:=pw _ _ _ _ _ S (xF (I H2) (I H));simp only[S];exact⟨_,_,rfl,by rw[IN],by rw[t1],t2⟩
      .cases h
     .cases h
    .cases h
   .cases h
  .cases h
 |buildSlice t n W=>
  cases ow with
  |nil=>simp[gd,m]at j
  |cons C xs=>
   simp only[gU,m]at h |-;split at h
   .rename_i e he;split at h
    .rename_i N;split at h
     .rename_i size hsz;split at h
      .rename_i hc;cases h;rw[aj N,aj hc];refine⟨_,_,rfl,by simp[PV.eR,h0],?_,q _ (by intro h;cases h)⟩;simp only[zV,aH,fU.eR,List.map_flatMap,s]
      .cases h
     .cases h
    rename_i N;rw[ae N];split at h
    .rename_i hf;split at h
     .rename_i hc;cases h;simp only[hf,hc,ak];refine⟨_,_,rfl,by simp[PV.eR,h0],?_,q _ (by intro h;cases h)⟩;simp only[zV,aH,fU.eR,zG];congr 3;apply aJ;intro x _;exact(M x.2).symm
     .cases h
    .rename_i hf;split at h
     .rename_i size ds hsz hp;split at h
      .rename_i hc
       have hnl:(W.toList.map λ(_,x)=>D x).any PV.fx=U:=by
        have:=hc.2.2.2.2.2.2;rw[List.any_map]
        simpa[Function.comp_def]using this
       have hp2:=nC (H2:=H2) _ _ hp hnl;simp only[hf,hsz,hp2,hc,ai,ak,j6,and_self,not_true_eq_false]at h |-;split at h
       .rename_i he';simp only[he',ak];split at h
        .rename_i X;simp only[X,ak];split at h
         .rename_i hd;cases h;simp only[hd,ak];exact⟨_,_,rfl,by simp[PV.eR,h0],by simp[fU.eR],q _ (by intro h;cases h)⟩
         .rename_i hd;split at h
          .rename_i hel;cases h;rw[ae hd,aj hel];exact⟨_,_,rfl,by simp[PV.eR,h0],by simp[fU.eR,PV.eR],q _ (by intro h;cases h)⟩
          .cases h
        .rename_i X;cases h;simp only[X,ai];exact⟨_,_,rfl,by simp[PV.eR,h0],by simp[fU.eR],q _ (by intro h;cases h)⟩
       .cases h
      .cases h
     .cases h
   .cases h
 |makeMap t r=>
  cases r with
  |none=>
   simp only[gU,m]at h |-;split at h
   .cases h;exact⟨_,_,rfl,by simp[PV.eR,h0],by simp[fU.eR],q _ (by intro h;cases h)⟩
   .cases h
  |some r=>simp[gU,m]at h
 |load t x=>
  cases ow with
  |cons=>simp[gd,m]at j
  |nil=>
  simp only[gd,m]at j;split at j<;>cases j
 |call c=>
  obtain⟨callee,args,ts⟩:=c;cases callee with
  |value f=>
   cases ow with
   |cons C xs=>
    have B:¬13000<=C.1:=λhc=>by simp only[gd,m,aj hc]at j;cases j
    have G:¬12000<=C.1:=λhc=>by simp only[gd,m,ae B,aj hc]at j;cases j
    have h6:¬6000<=C.1:=λhc=>by simp only[gd,m,ae B,ae G,aj hc]at j;cases j
    have hn:¬2000<=C.1:=λhc=>by simp only[gd,m,ae B,ae G,ae h6,aj hc]at j;cases j
    have hl:(args.toList.map D).any PV.fx=U:=by
     simp only[gd,m,ae B,ae G,ae h6,ae hn]at j;split at j
     .cases j
     .rename_i hl;simpa using hl
    simp only[gU,m]at h |-;rw[ae B,ae G,ae (show¬C.1=7000 by omega),ae h6]at h |-;split at h
    .rename_i fi x1 x2 hfi;rw[ae (show¬C.1=5000 by omega),ae hn]at h |-;unfold kW at h |-;split at h
     .rename_i ds hp;rw[nC (H2:=H2) _ _ hp hl];simp only;split at h
      .split at h
       .split at h
        .rename_i A;cases h;rw[aj A];refine⟨_,_,rfl,by simp[PV.eR,h0],?_,q _ (by intro h;cases h)⟩;obtain⟨d1,d2⟩:=aC.1 A.2.2.1;simp only[zV,aH,fU.eR];congr 3;symm;refine(aJ (g:=id) λc Q=>?_).trans (cD _);obtain⟨d,rfl⟩:=sR _ A.2.2.1 c Q;rfl
        .cases h
       .cases h
      .split at h
       .rename_i A;cases h;rw[aj A];refine⟨_,_,rfl,by simp[PV.eR,h0],?_,q _ (by intro h;cases h)⟩;simp only[zV,aH,fU.eR];congr 3;symm;refine(aJ (g:=id) λc Q=>?_).trans (cD _);have hp:=an.1 A.2 c Q;obtain⟨k,v⟩:=c;cases v<;>first|rfl|(simp[PV.plainCell]at hp)
       .cases h
      .cases h
     .cases h
    .cases h
   |nil=>
   simp only[gd,m]at j;split at j
   .split at j
    .split at j<;>cases j
    .cases j
   .cases j
  |builtin b=>
   cases b with
   |len=>simp only[gd,m]at j;split at j<;>cases j
   |append=>
    simp only[gd,m]at j;split at j
    .cases j
    split at j
    case isFalse=>cases j
    rename_i hv;simp only[gU,m]at h |-;generalize hl:args.toList.map D=l at h hv |-
    match l,hv with
    |[.arr i off 0 0,.b7 (.ew es)],_=>
     have F:∀H:List fU,gZ P o D H=Z:=λH=>by
      unfold gZ
      have:(o.op.operands.toList.map λx=>(D x).e6).all Option.isSome=U:=by
       rw[m];have V:PV.arr i off 0 0∈args.toList.map D:=by rw[hl];simp
       obtain⟨x,K,e⟩:=aq.1 V;rw[eA];exact⟨Z,aq.2 ⟨x,by simpa[Op.operands,Call.operands]using K,by rw[e];rfl⟩,by simp⟩
      simp only[this];rfl
     rw[F]at h;rw[F];cases u:gF P .append ts [.arr i off 0 0,.b7 (.ew es)] H with
     |none=>rw[u]at h;cases h
     |some y=>
      rw[u]at h;cases h;simp only[gF]at u |-;split at u
      .split at u
       .split at u
        .split at u
         .rename_i hc;unfold ve at u |-;split at u
          .rename_i A;cases u;simp only[*,and_self,ak];exact⟨_,_,rfl,by simp[PV.eR,h0],by simp[fU.eR,PV.eR],q _ (by intro h;cases h)⟩
          .cases u
         .cases u
        .cases u
       .cases u
      .cases u
   |_=>simp[gd,m]at j
  |invoke x n=>simp[gd,m]at j
 |move x=>simp only[gd,m]at j;split at j<;>cases j
 |_=>simp[gd,m]at j
end
section
variable{P:fL}{pf:fM->Bool}{ow:List (Nat×TypeId)}{o:Oper}{D ρ':fO->PV}{X:Nat}{w0:fK}{S0:Nat->Nat->Prop}{Nb:Nat}{g g2:Gh}{s:List PV}{H:List fU}{a:Act}{w w':fK}
theorem Fb(h:∀x∈o.op.operands,D x=ρ' x):gd pf ow o D=gd pf ow o ρ':=by
 unfold gd;cases d:o.op with
 |load t x=>simp only;rw[h x (by simp[d,Op.operands])]
 |call c=>
  obtain⟨callee,args,ts⟩:=c;have e:args.toList.map D=args.toList.map ρ':=sV λx g=>h x (by simp only[d,Op.operands,Call.operands];simp;exact .inr (by simpa using g))
  cases callee with
  |value f=>simp only;rw[h f (by simp[d,Op.operands,Call.operands]),e]
  |builtin b=>simp only;rw[e];cases b<;>rfl
  |invoke x n=>rfl
 |slice t x lo hi j=>cases hi<;>cases j<;>rfl
 |_=>rfl
theorem lU.z7(hst:lU P X w0 S0 Nb g ⟨s,H⟩ a w)(d:Nat):∃g',Ext (I H) g w g' w/\Fr g H w g' (H++Nab d .hole) w/\lU P X w0 S0 Nb g' ⟨s,H++Nab d .hole⟩ a w:=by
 obtain⟨k,l,q,r⟩:=hst
 let g':Gh:={g with live:=λi=>i<I H/\g.live i,own:=λi=>if i<I H then g.own i else Z}
 have f:Fv id g (I H) g' (I (H++Nab d fU.hole)):=
  ⟨rfl,λi hi hl=>⟨by simp only[id];simp;omega,⟨hi,hl⟩,rfl⟩,λt f x u=>⟨by simp only[id];simp;omega,by simp only[g',id];rw[aj f];exact u⟩⟩
 have m:NV id g' H (H++Nab d fU.hole):=λi y c=>by
  rw[jT]at c;split at c
  .rename_i hi;by_cases e:y=.hole
   .subst e;obtain⟨k1,k2⟩:=k.sa c;exact .inl ⟨rfl,λhl=>k1 hl.2,by simp only[g'];rw[aj hi];exact k2⟩
   .exact .inr ⟨i,y,c,e,rfl,(k.fix (λ_ _=>rfl) c).symm⟩
  .rename_i hi;rw[zN]at c;split at c
   .cases c;exact .inl ⟨rfl,λhl=>hi hl.1,by simp only[g'];rw[ae hi]⟩
   .cases c
 have p:Ext (I H) g w g' w:=⟨λ_ _ h=>h,λ_ _ _=>rfl,λi hi hl=>⟨rfl,hi,hl⟩,λt f v n z=>⟨v,n,by simp only[g'];rw[aj f];exact z,j7 _,λ_=>rfl⟩⟩;refine⟨g',p,⟨j7 _,λ_ _ _=>rfl,λi b A _=>?_,λ_ _ h=>.inl h⟩,⟨k.eR f (j7 _) m,⟨l.below,l.size,l.kk,l.lt⟩,q.ext p yB,by simp only[jW];exact jX r (Nat.le_add_right _ _)⟩⟩;obtain⟨j,_,B⟩:=oQ f k (j7 _) m A;exact⟨j,B⟩
theorem lU.place{p2:PV}{u:fP}{p bs:List fU}{f:Nat}(hst:lU P X w0 S0 Nb g ⟨s,H⟩ a w)(m:Good P X w0 S0 H g w p2 (H++p) u g2 w')(G:bs=p.map (fU.eR (xF (I H) f)))(Q:∀x∈p,x≠.hole)(hk:f+I bs<=I H)(z:∀i,f<=i->i<f+I bs->H[i]?=O .hole)(d:Option Tmp):
  ∃k,Ext (I H) g w k w'/\Fr g H w k (H.take f++bs++H.drop (f+I bs)) w'/\
   lU P X w0 S0 Nb k ⟨mH s d (p2.eR (xF (I H) f)),H.take f++bs++H.drop (f+I bs)⟩ (a.put d u) w':=by
 obtain⟨h1,h2,h3,h4⟩:=hst;have hbl:I bs=I p:=by rw[G];simp
 have A:I (H.take f++bs++H.drop (f+I bs))=I H:=by simp;omega
 let seg:Nat->Prop:=λi=>f<=i/\i<f+I bs
 let k:Gh:={g2 with fg:=λi=>if f<=i/\i<f+I bs then g2.fg (I H+(i - f))else g2.fg i,live:=λi=>if f<=i/\i<f+I bs then g2.live (I H+(i - f))else g2.live i,own:=λi=>if f<=i/\i<f+I bs then g2.own (I H+(i - f))else g2.own i}
 have q:∀i,f<=i->i<f+I bs->¬g2.live i/\g2.own i=Z:=λi R T=>m.heap.sa (by rw[jT,aj y9];exact z i R T)
 have B:∀i,f<=i->i<f+I bs->¬g.live i/\g.own i=Z:=λi R T=>h1.sa (z i R T)
 have C:Fv (xF (I H) f) g2 (I (H++p)) k (I H):=by
  refine⟨rfl,λi hi hl=>?_,λt C x D=>?_⟩
  .by_cases c:i<I H
   .have l:¬(f<=i/\i<f+I bs):=λr=>(q i r.1 r.2).1 hl
    rw[tR c];exact⟨c,by simp only[k];rw[ae l];exact hl,by simp only[k];rw[ae l]⟩
   .have e:i=I H+(i - I H):=by omega
    have W:i - I H<I bs:=by simp at hi;omega
    have Y:xF (I H) f i=f+(i - I H):=by rw[e,r9];congr 1;omega
    have N:I H+(f+(i - I H) - f)=i:=by omega
    rw[Y];refine⟨by omega,?_,?_⟩
    .simp only[k];rw[aj y9,N];exact hl
    .simp only[k];rw[aj y9,N]
  .by_cases c:t<I H
   .have l:¬(f<=t/\t<f+I bs):=λr=>by rw[(q t r.1 r.2).2]at D;cases D
    rw[tR c];exact⟨c,by simp only[k];rw[ae l];exact D⟩
   .have e:t=I H+(t - I H):=by omega
    have W:t - I H<I bs:=by simp at C;omega
    have Y:xF (I H) f t=f+(t - I H):=by rw[e,r9];congr 1;omega
    have N:I H+(f+(t - I H) - f)=t:=by omega
    rw[Y];exact⟨by omega,by simp only[k];rw[aj y9,N];exact D⟩
 have r:NV (xF (I H) f) k (H++p) (H.take f++bs++H.drop (f+I bs)):=λi y K=>by
  rw[iP _ _ _ y9]at K;by_cases E:f<=i/\i<f+I bs
  .rw[ae y9,aj E.2,G,jD,j5]at K;obtain⟨x,D,rfl⟩:=K;refine .inr ⟨I H+(i - f),x,by rw[zO y9];simpa using D,Q x (jF D),by rw[r9];omega,rfl⟩
  .have F:H[i]?=O y:=by
    by_cases c:i<f
    .rwa [aj c]at K
    .rwa [ae c,ae y9]at K
   have L:i<I H:=(af.1 F).1;have M:(H++p)[i]?=O y:=by rw[jT,aj L];exact F
   by_cases e:y=.hole
   .subst e;obtain⟨k1,k2⟩:=m.heap.sa M;exact .inl ⟨rfl,by simp only[k];rw[ae E];exact k1,by simp only[k];rw[ae E];exact k2⟩
   .exact .inr ⟨i,y,M,e,tR L,(h1.fix (λ_ h=>tR h) F).symm⟩
 have he:Ext (I H) g w k w':=by
  refine⟨m.ext.S,m.ext.cell,λi hi hl=>?_,λt C v n hv=>?_⟩
  .have l:¬(f<=i/\i<f+I bs):=λr=>(B i r.1 r.2).1 hl
   obtain⟨k1,k2⟩:=m.ext.fg i hi hl;exact⟨by simp only[k];rw[ae l];exact k1,by simp only[k];rw[ae l];exact k2⟩
  .have l:¬(f<=t/\t<f+I bs):=λr=>by rw[(B t r.1 r.2).2]at hv;cases hv
   obtain⟨v',n',k1,k2⟩:=m.ext.own t C v n hv;exact⟨v',n',by simp only[k];rw[ae l];exact k1,k2⟩
 refine⟨k,he,⟨m.fr.size,m.fr.ey,λi b hb hlt=>?_,m.fr.pd⟩,⟨?_,⟨m.inv.below,m.inv.size,m.inv.kk,m.inv.lt⟩,?_,by rw[A];exact h4⟩⟩
 .obtain⟨j,_,hj⟩:=oQ C m.heap (j7 _) r hb;exact m.fr.e8 j b hj hlt
 .rw[A];exact m.heap.eR C (j7 _) r
 .rw[A];exact(h3.ext he (j7 _)).put d (m.rep.eR C)
end
section
variable{P:fL}{call:gO}{pf:fM->Bool}{h:Hint}{r:Nat}{ops:Array Oper}
theorem sL:∀(os:List Oper) (i:Nat) (st st':St) (fl:List Nat),ib P call pf h r ops i os st=O (st',fl)->
  ∃T:Nat->St,T 0=st/\T (I os)=st'/\∀k o,os[k]?=O o->iW P call h r ops (i+k) o (T k)=O (T (k+1))/\
   fl.getD k 0=(if gI ops (T k).b6 o=O J then lI pf h r (i+k) o (ev (T k).b6)else 0)
 |[],i,st,st',fl,c=>by cases c;exact⟨λ_=>st,rfl,rfl,λk o h=>by simp at h⟩
 |o::os,i,st,st',fl,c=>by
  simp only[ib]at c;split at c
  .rename_i d g;split at c
   .rename_i j e l;cases c;obtain⟨T,m,n,p⟩:=sL os (i+1) d st' e l;refine⟨λk=>match k with|0=>st|k+1=>T k,rfl,n,λk q f=>?_⟩;cases k with
    |zero=>
     simp at f;subst f;exact⟨by simp only[zY,m];exact g,rfl⟩
    |succ k=>
     have:=p k q (by simpa using f);rw[show i+1+k=i+(k+1) by omega]at this;exact⟨this.1,by simpa using this.2⟩
   .cases c
  .cases c
theorem qz{i:Nat}{o:Oper}{st c:St}(d:iW P call h r ops i o st=O c):
  ∃v,c.b6=mH st.b6 o.dst v/\((gI ops st.b6 o=O J/\gU P call (h.gz r i) o (ev st.b6) st.heap=O (v,c.heap))\/
   (gI ops st.b6 o=O U/\v=.fz []/\c.heap=st.heap)):=by
 unfold iW at d;split at d
 .rename_i hw;split at d
  .rename_i v H e;cases d;exact⟨v,rfl,.inl ⟨hw,e⟩⟩
  .cases d
 .rename_i hw;cases d;exact⟨_,rfl,.inr ⟨hw,rfl,rfl⟩⟩
 .cases d
theorem Dd(s:List PV)(d:Option Tmp)(v:PV)(t:Nat):(mH s d v)[t]?=if d=O t/\t<I s then O v else s[t]?:=by
 cases d with
 |none=>simp[mH]
 |some d=>
  simp only[mH,zF,j9];by_cases e:d=t
  .subst e;by_cases hl:d<I s
   .simp[hl]
   .simp[hl]
  .simp[e]
theorem EJ(s:List PV)(d:Option Tmp)(v:PV):I (mH s d v)=I s:=by cases d<;>simp[mH]
structure EN (ops:Array Oper) (fl:List Nat) (anc sp:Nat->Nat->Prop):Prop where
 back:∀(j:Nat) (o:Oper) (e:Edge),ops[j]?=O o->e∈o.after->Region.binds .any e=J->e.on<j
 sel:∀(j:Nat) (o:Oper) cs b,ops[j]?=O o->o.op≠.select cs b
 lt:∀i j,anc i j->j<ops.size->i<j
 look:∀(i j:Nat) (oi oj:Oper) (d:Tmp),ops[i]?=O oi->ops[j]?=O oj->i≠j->oi.dst=O d->d∈A8 ops oj->anc i j\/anc j i
 once:∀(i j:Nat) (oi oj:Oper) (d:Tmp),ops[i]?=O oi->ops[j]?=O oj->i≠j->oi.dst=O d->oj.dst≠O d
 I2:∀i j,i<ops.size->j<ops.size->i<j->uT (fl.getD i 0) (fl.getD j 0)=U->anc i j\/sp i j
 closed:∀(L:Nat->Prop),(∀(j:Nat) (o:Oper) (e:Edge),ops[j]?=O o->L j->e∈o.after->Region.binds .any e=J->L e.on)->
  ∀(j:Nat) (o:Oper),ops[j]?=O o->(∀e,e∈o.after->Region.binds .any e=J->L e.on)->∀i,anc i j->L i
theorem AA(A:List Nat):∀(es:List Edge) (s i:Nat),(es.foldl (λs e=>if Region.binds .any e then s|||(2 ^e.on|||A.getD e.on 0)else s) s).testBit i=J->
  s.testBit i=J\/∃e,e∈es/\Region.binds .any e=J/\(i=e.on\/(A.getD e.on 0).testBit i=J)
 |[],s,i,h=>.inl h
 |e::es,s,i,h=>by
  simp only[aY]at h;rcases AA A es _ i h with h|⟨e',d,f,g⟩
  .split at h
   .rename_i c;simp only[Nat.testBit_or,zT,Nat.testBit_two_pow,zE]at h;rcases h with h|h|h
    .exact .inl h
    .exact .inr ⟨e,by simp,c,.inl h.symm⟩
    .exact .inr ⟨e,by simp,c,.inr h⟩
   .exact .inl h
  .exact .inr ⟨e',by simp[d],f,g⟩
theorem Si(fl:List Nat)(k:Nat):(fl.map (· %8)).getD k 0=fl.getD k 0%8:=by simp only[jB,jD];cases fl[k]? <;>rfl
theorem DK{h0:Nat}{fl:List Nat}(r:lS h0 ops fl=J):∃anc,EN ops (fl.map (· %8)) anc (λi j=>(fl.getD i 0%16=9/\fl.getD j 0%16=11)\/(fl.getD i 0%16=11/\fl.getD j 0%16=9)):=by
 unfold lS at r;simp only[jE,j8,ck]at r;obtain⟨_,B,C⟩:=r;generalize NK ops.toList []=A at B C;have g:∀{j:Nat} {o:Oper},ops[j]?=O o->j<ops.size:=λh=>(aA.1 h).1
 have w:∀(j:Nat) (o:Oper),ops[j]?=O o->A.getD j 0=Ch A o/\(∀e,e∈o.after->Region.binds .any e=J->e.on<j)/\∀cs b,o.op≠.select cs b:=λj o k=>by
  have:=B j (g k);rw[k]at this;simp only[jE,bE,j8]at this;obtain⟨⟨K,M⟩,G⟩:=this;refine⟨K,λe N p=>?_,λcs b e=>by rw[e]at G;cases G⟩;have:=M e (by simpa using N)
  simpa[p]using this
 have q:∀(j:Nat) (o:Oper) (i:Nat),ops[j]?=O o->(A.getD j 0).testBit i=J->∃e,e∈o.after/\Region.binds .any e=J/\(i=e.on\/(A.getD e.on 0).testBit i=J):=λj o i k p=>by
  rw[(w j o k).1,Ch]at p;rcases AA A _ _ _ p with h|⟨e,u,v,n⟩
  .simp at h
  .exact⟨e,by simpa using u,v,n⟩
 have f:∀i j,i<ops.size->j<ops.size->rC ops fl A i j=J:=λi j hi s=>C j s i hi
 refine⟨λi j=>(A.getD j 0).testBit i=J,λj o e k=>(w j o k).2.1 e,λj o cs b k=>(w j o k).2.2 cs b,?_,?_,?_,?_,?_⟩
 .intro i j;induction j using Nat.strongRecOn with
  |_ j D=>
   intro p s;obtain⟨e,u,v,n⟩:=q j _ i (jA s) p;have c:=(w j _ (jA s)).2.1 e u v;rcases n with rfl|n
   .exact c
   .exact Nat.lt_trans (D e.on c n y9) c
 .intro i j oi oj d l m t E hl;have:=f i j (g l) (g m);simp only[rC,l,m,E,jE,zT,bE]at this;rcases this.1.1 with((h|h)|h)|h
  .exact absurd h t
  .exact .inl h
  .exact .inr h
  .simp at h;exact absurd hl h
 .intro i j oi oj d l m t E F;have:=f i j (g l) (g m);simp only[rC,l,m,E,F,jE,zT,bE]at this;rcases this.1.2 with h|h
  .exact t h
  .simp at h
 .intro i j hi s P H;have:=f i j hi s;simp only[rC,jA hi,jA s,jE,zT]at this;rcases this.2 with(h|h)|h
  .simp at h;omega
  .exact .inl h
  .rw[Si,Si]at H;simp only[AZ,H,cL,zT,jE,bE]at h;exact .inr h
 .intro L Q j;induction j using Nat.strongRecOn with
  |_ j D=>
   intro o k R i p;obtain⟨e,u,v,n⟩:=q j o i k p;have x:=R e u v;rcases n with rfl|n
   .exact x
   .have c:=(w j o k).2.1 e u v;have y:e.on<ops.size:=by have:=g k;omega
    have z:ops[e.on]?=O ops[e.on]:=jA y;exact D e.on c _ z (λe' B C=>Q e.on _ e' z x B C) i n
def oV(ops:Array Oper)(V:Nat->PV)(s0:List PV)(L:Nat->Prop)(s:List PV):Prop:=
 (I s)=I s0/\∀t,t<I s0->(∀(k:Nat) (o:Oper),ops[k]?=O o->L k->o.dst=O t->s[t]?=O (V k))/\((∀(k:Nat) (o:Oper),ops[k]?=O o->L k->o.dst≠O t)->s[t]?=s0[t]?)
def CG(T:Nat->St)(fl:List Nat)(n:Nat)(L:Nat->Prop)(H:List fU):Prop:=
 ∃a b,(a<=b/\b<=n/\(∀k,a<=k->k<b->fl.getD k 0<=2)/\(b<n->3<=fl.getD b 0))/\(∀k,k<a->2<=fl.getD k 0->L k)/\(∀k,b<=k->k<n->2<=fl.getD k 0->¬L k)/\(I H)=(T b).heap.length/\
  (∀i,(∀k,a<=k->k<b->¬L k->¬((T k).heap.length<=i/\i<(T (k+1)).heap.length))->H[i]?=(T b).heap[i]?)/\
  (∀k i,a<=k->k<b->¬L k->(T k).heap.length<=i->i<(T (k+1)).heap.length->H[i]?=O .hole)
theorem uU(fl:List Nat)(n:Nat):∀(d a:Nat),a+d=n->∃b,a<=b/\b<=n/\(∀k,a<=k->k<b->fl.getD k 0<=2)/\(b<n->3<=fl.getD b 0)
 |0,a,h=>⟨a,j7 _,by omega,λk g f=>by omega,λh=>by omega⟩
 |d+1,a,h=>by
  by_cases c:3<=fl.getD a 0
  .exact⟨a,j7 _,by omega,λk g f=>by omega,λ_=>c⟩
  .obtain⟨b,g,f,j,l⟩:=uU fl n d (a+1) y9;refine⟨b,by omega,f,λk k1 k2=>?_,l⟩;by_cases e:k=a
   .subst e;omega
   .exact j k y9 k2
variable{fl:List Nat}{anc sp:Nat->Nat->Prop}{T:Nat->St}{V:Nat->PV}
theorem Bd(f:EN ops fl anc sp){L:Nat->Prop}{s0 s:List PV}{j:Nat}{o:Oper}(l:ops[j]?=O o)(q:¬L j)(m:oV ops V s0 L s):
  oV ops V s0 (λk=>L k\/k=j) (mH s o.dst (V j)):=by
 refine⟨by rw[EJ,m.1],λt n=>⟨λk ok g d p=>?_,λhn=>?_⟩⟩
 .rw[Dd,m.1];rcases d with d|rfl
  .rw[ae (λc=>f.once k j ok o t g l (λe=>q (e ▸ d)) p c.1)];exact(m.2 t n).1 k ok g d p
  .rw[g]at l;cases l;rw[aj ⟨p,n⟩]
 .rw[Dd,ae (λc=>hn j o l (.inr rfl) c.1)];exact(m.2 t n).2 λk ok g d=>hn k ok g (.inl d)
theorem yb(c:EN ops fl anc sp)(f:∀(k:Nat) (o:Oper),ops[k]?=O o->(T (k+1)).b6=mH (T k).b6 o.dst (V k)):∀j,j<=ops.size->oV ops V (T 0).b6 (λk=>k<j) (T j).b6
 |0,_=>⟨rfl,λt d=>⟨λk o _ h=>absurd h (bY _),λ_=>rfl⟩⟩
 |j+1,n=>by have g:ops[j]?=O ops[j]:=jA y9;have:=Bd c g (L:=λk=>k<j) (zA _) (yb c f j y9);rw[f j _ g];refine⟨this.1,λt d=>⟨λk o e l m=>(this.2 t d).1 k o e y9 m,λhn=>(this.2 t d).2 λk o e l=>hn k o e y9⟩⟩
def iD(Q:Nat->Option fU->Prop)(H H2:List fU):Prop:=I H<=I H2/\∀i:Nat,i<I H->H2[i]?=H[i]?\/(Q i H[i]?/\Q i H2[i]?)
theorem iD.refl(Q:Nat->Option fU->Prop)(H:List fU):iD Q H H:=⟨j7 _,λ_ _=>.inl rfl⟩
theorem iD.trans{Q:Nat->Option fU->Prop}{H H2 f:List fU}(a:iD Q H H2)(b:iD Q H2 f):iD Q H f:=by
 refine⟨jX a.1 b.1,λi hi=>?_⟩;rcases a.2 i hi with d|⟨d,g⟩
 .rcases b.2 i (jP hi a.1)with c|⟨c,e⟩
  .exact .inl (c.trans d)
  .exact .inr ⟨d ▸ c,e⟩
 .rcases b.2 i (jP hi a.1)with c|⟨c,e⟩
  .exact .inr ⟨d,c ▸ g⟩
  .exact .inr ⟨d,e⟩
theorem iD.mono{Q c:Nat->Option fU->Prop}{H H2:List fU}(h:iD Q H H2)(d:∀i b,Q i b->c i b):iD c H H2:=⟨h.1,λi hi=>(h.2 i hi).imp id λh=>⟨d _ _ h.1,d _ _ h.2⟩⟩
def NS:=iD λ_=>yW
theorem iD.app(Q:Nat->Option fU->Prop)(H bs:List fU):iD Q H (H++bs):=⟨by simp,λi hi=>.inl (by rw[jT,aj hi])⟩
theorem NS.set{H:List fU}{t:Nat}{e n n':Nat}(h:H[t]?=O (.tok e n)):NS H (H.set t (.tok e n')):=by
 refine⟨by simp,λi hi=>?_⟩;by_cases y0:t=i
 .subst y0;refine .inr ⟨by rw[h];trivial,?_⟩;rw[zF];simp[hi,yW]
 .exact .inl (by rw[zF,ae y0])
def PD:Option fU->Prop
 |some (.mt _ _ _)=>True
 |_=>False
theorem iD.z6{H:List fU}{t:Nat}{e n e' n':Nat}{cs c:List PV}(h:H[t]?=O (.mt e n cs)):iD (λ_=>PD) H (H.set t (.mt e' n' c)):=by
 refine⟨by simp,λi hi=>?_⟩;by_cases y0:t=i
 .subst y0;refine .inr ⟨by rw[h];trivial,?_⟩;rw[zF];simp[hi,PD]
 .exact .inl (by rw[zF,ae y0])
theorem vi{Q:Nat->Option fU->Prop}(f:∀k,k<ops.size->fl.getD k 0<=1->(T (k+1)).heap=(T k).heap){a b:Nat}(g:a<=b)(m:b<=ops.size)(hn:∀k,a<=k->k<b->2<=fl.getD k 0->iD Q (T k).heap (T (k+1)).heap):
  iD Q (T a).heap (T b).heap:=by
 induction b with
 |zero=>rw[show a=0 by omega];exact iD.refl _ _
 |succ b j=>
  by_cases e:a=b+1
  .rw[e];exact iD.refl _ _
  .have d:=j y9 y9 λk l n=>hn k l y9
   by_cases c:2<=fl.getD b 0
   .exact d.trans (hn b y9 y9 c)
   .rw[f b y9 y9];exact d
theorem qg{a b:Nat}(c:∀k,a<=k->k<b->∃bs,(T (k+1)).heap=(T k).heap++bs){k:Nat}(e:a<=k):∀d,k+d<=b->∃bs,(T (k+d)).heap=(T k).heap++bs
 |0,_=>⟨[],by simp⟩
 |d+1,h=>by obtain⟨bs,f⟩:=qg c e d y9;obtain⟨cs,g⟩:=c (k+d) y9 y9;exact⟨bs++cs,by rw[show k+(d+1)=k+d+1 by omega,g,f,ay]⟩
theorem qe{a b:Nat}(d:∀k,a<=k->k<b->∃bs,(T (k+1)).heap=(T k).heap++bs){k c:Nat}(e:a<=k)(f:k<=c)(g:c<=b):(T k).heap.length<=(T c).heap.length:=by obtain⟨bs,h⟩:=qg d e (c - k) y9;rw[show k+(c - k)=c by omega]at h;rw[h];simp
theorem Aq{a b:Nat}(d:∀k,a<=k->k<b->∃bs,(T (k+1)).heap=(T k).heap++bs){k c i:Nat}(e:a<=k)(f:k<=c)(g:c<=b)(hi:i<(T k).heap.length):(T c).heap[i]?=(T k).heap[i]?:=by obtain⟨bs,h⟩:=qg d e (c - k) y9;rw[show k+(c - k)=c by omega]at h;rw[h,jT,aj hi]
theorem vN{a:Nat}{i:Nat}(hi:(T a).heap.length<=i):∀d,i<(T (a+d)).heap.length->∃k,a<=k/\k<a+d/\(T k).heap.length<=i/\i<(T (k+1)).heap.length
 |0,h=>by simp at h;omega
 |d+1,h=>by
  by_cases c:i<(T (a+d)).heap.length
  .obtain⟨k,e,g,f⟩:=vN hi d c;exact⟨k,e,by omega,f⟩
  .exact⟨a+d,by omega,by omega,by omega,h⟩
theorem vm{n a b:Nat}{L:Nat->Prop}(d:∀k,a<=k->k<b->∃bs,(T (k+1)).heap=(T k).heap++bs)(e:∀k,a<=k->k<b->¬2<=fl.getD k 0->(T (k+1)).heap=(T k).heap)(f:a<=b/\b<=n/\(∀k,a<=k->k<b->fl.getD k 0<=2)/\(b<n->3<=fl.getD b 0))(q:∀k,k<a->2<=fl.getD k 0->L k)(g:∀k,a<=k->k<n->2<=fl.getD k 0->¬L k):
  CG T fl n L ((T a).heap++Nab ((T b).heap.length - (T a).heap.length) .hole):=by
 have r:=qe d (j7 a) f.1 (j7 b);refine⟨a,b,f,q,λk j=>g k y9,by simp;omega,λi hi=>?_,λk i j s l hi t=>?_⟩
 .by_cases c:i<(T a).heap.length
  .rw[jT,aj c];exact(Aq d (j7 a) f.1 (j7 b) c).symm
  .by_cases c2:i<(T b).heap.length
   .obtain⟨k,k1,k2,k3,m⟩:=vN (by omega:(T a).heap.length<=i) (b - a) (by rwa [show a+(b - a)=b by omega])
    have l:¬L k:=by
     by_cases p:2<=fl.getD k 0
     .exact g k k1 y9 p
     .rw[e k k1 y9 p]at m;omega
    exact absurd ⟨k3,m⟩ (hi k k1 y9 l)
   .rw[aD yA,aD y9]
 .have l1:=qe d (j7 a) j y9;have l2:=qe d (by omega:a<=k+1) (by omega:k+1<=b) (j7 b);rw[jT,ae y9,zN,aj y9]
theorem Ga(d:EN ops fl anc sp){L:Nat->Prop}{s:List PV}{j:Nat}{o:Oper}(D:ops[j]?=O o)(E:¬L j)(z:oV ops V (T 0).b6 L s)(A:oV ops V (T 0).b6 (λk=>k<j) (T j).b6)(p:∀(j:Nat) (o:Oper) (e:Edge),ops[j]?=O o->L j->e∈o.after->Region.binds .any e=J->L e.on)(q:∀i,anc i j->L i)(t:Nat)(hl:t∈A8 ops o):s[t]?=(T j).b6[t]?:=by
 by_cases c:t<(T 0).b6.length
 .by_cases r:∃(i:Nat) (oi:Oper),ops[i]?=O oi/\oi.dst=O t/\i≠j
  .obtain⟨i,oi,hi,n,l⟩:=r;have u:j<ops.size:=(aA.1 D).1;have v:i<ops.size:=(aA.1 hi).1;rcases d.look i j oi o t hi D l n hl with w|w
   .rw[(z.2 t c).1 i oi hi (q i w) n,(A.2 t c).1 i oi hi (d.lt i j w u) n]
   .have F:=d.lt j i w v;have B:¬L i:=λm=>E (d.closed L p i oi hi (λe G H=>p i oi e hi m G H) j w)
    have f:∀(k:Nat) (ok:Oper),ops[k]?=O ok->k≠i->ok.dst≠O t:=λk ok g x C=>d.once k i ok oi t g hi x C n
    rw[(z.2 t c).2 λk ok g m=>f k ok g (λe=>B (e ▸ m)),(A.2 t c).2 λk ok g m=>f k ok g y9]
  .have y:∀(k:Nat) (ok:Oper),ops[k]?=O ok->k≠j->ok.dst≠O t:=λk ok g l n=>r ⟨k,ok,g,n,l⟩
   rw[(z.2 t c).2 λk ok g m=>y k ok g (λe=>E (e ▸ m)),(A.2 t c).2 λk ok g m=>y k ok g y9]
 .rw[aD (by rw[z.1];omega),aD (by rw[A.1];omega)]
theorem zu{s s':List PV}{o:Oper}(h:∀t,t∈A8 ops o->s[t]?=s'[t]?):gI ops s o=gI ops s' o:=by
 unfold gI;split
 .rfl
 .rename_i j c e;split
  .rfl
  .rename_i d f
   have:s[d]?=s'[d]?:=h d (by simp[A8,e,f])
   rw[this]
theorem NM{s s':List PV}{o:Oper}(h:∀t,t∈A8 ops o->s[t]?=s'[t]?):∀x∈o.op.operands,ev s x=ev s' x:=λx c=>by
 cases x with
 |tmp t=>
  have:s[t]?=s'[t]?:=h t (y6 _ (List.mem_filterMap.2 ⟨.tmp t,by simpa using c,rfl⟩))
  simp only[ev,jB,this]
 |_=>rfl
theorem rz{L:Array Bool}{i k:Nat}(hi:i<L.size):(L.setIfInBounds i J).getD k J=if k=i then J else L.getD k J:=by
 simp only[jH,cW];by_cases e:i=k
 .subst e;simp[hi]
 .have e':k≠i:=λh=>e h.symm
  simp[e,e']
theorem B7(c:List (Nat×TypeId))(o:Oper)(D:fO->PV):gd pf c o D<=6:=by
 unfold gd
 repeat' split
 all_goals omega
theorem KN(c:List (Nat×TypeId))(o:Oper)(D:fO->PV):gd pf c o D≠5:=by
 unfold gd
 repeat' split
 all_goals omega
theorem KJ(hn:Hint)(r i:Nat)(o:Oper)(D:fO->PV)(pf:fM->Bool):lI pf hn r i o D%8=gd pf (hn.gz r i) o D:=by
 have d:=B7 (pf:=pf) (hn.gz r i) o D;unfold lI
 have c:sd (iT (hn.gz r i) o D)%8=0:=by
  cases iT (hn.gz r i) o D with
  |none=>rfl
  |some n=>
   show(16*(n+1))%8=0
   rw[show 16*(n+1)=8*(2*(n+1)) by rw[<-Nat.mul_assoc]];exact Nat.mul_mod_right _ _
 generalize sd (iT (hn.gz r i) o D)=b at c
 repeat' split
 all_goals omega
theorem yK{hn:Hint}{r i:Nat}{o:Oper}{D:fO->PV}{pf:fM->Bool}{n:Nat}(h:iT (hn.gz r i) o D=O n):lI pf hn r i o D=1+16*(n+1):=by
 have g:=h;unfold iT at h;split at h
 case h_2=>cases h
 rename_i c j;obtain⟨callee,args,ts⟩:=c;cases callee with
 |builtin b=>cases h
 |invoke x n=>cases h
 |value f=>
  cases d:hn.gz r i with
  |nil=>rw[d]at h;cases h
  |cons k xs=>
   rw[d]at h;simp only at h;split at h
   case isFalse=>cases h
   rename_i e;unfold lI;rw[g,d];simp only[sd,gd,j,aj e,List.isEmpty_cons,dK,j6,ai,zY]
theorem AL{hn:Hint}{r i:Nat}{o:Oper}{D:fO->PV}{pf:fM->Bool}(h:lI pf hn r i o D%16=9\/lI pf hn r i o D%16=11):hn.gz r i=[]/\((∃t a j off,o.op=.load t a/\D a=.ptr j off/\lI pf hn r i o D=9+16*(j+1))\/
  (∃t a x tt gg j,o.op=.store t a x/\D a=.mp tt gg j/\lI pf hn r i o D=11)\/∃t a x j off,o.op=.store t a x/\D a=.ptr j off/\lI pf hn r i o D=11+16*(j+1)):=by
 have g:=B7 (pf:=pf) (hn.gz r i) o D;cases c:iT (hn.gz r i) o D with
 |some n=>rw[yK c]at h;omega
 |none=>
 by_cases hc:(hn.late.contains (r,i) &&(hn.gz r i).isEmpty)=J
 case neg=>unfold lI at h;rw[c,ae hc]at h;simp only[sd,zY]at h;omega
 have f:hn.gz r i=[]:=by simp only[jE,dx]at hc;exact hc.2
 refine⟨f,?_⟩;unfold lI at h |-;rw[c,aj hc]at h |-;rw[f]at h g |-;simp only[sd,zY]at h |-;split at h
 .rename_i t a d;split at h
  .rename_i j off e;exact .inl ⟨t,a,j,off,d,e,by simp only[gd,d,e];omega⟩
  .omega
 .rename_i t a x d;split at h
  .rename_i tt gg j e;exact .inr (.inl ⟨t,a,x,tt,gg,j,d,e,by simp only[gd,d]⟩)
  .rename_i j off e;exact .inr (.inr ⟨t,a,x,j,off,d,e,by simp only[gd,d];omega⟩)
  .omega
 .omega
theorem FI{hn:Hint}{r i:Nat}{o:Oper}{D:fO->PV}{pf:fM->Bool}(h:lI pf hn r i o D%16=9):∃t a j off,o.op=.load t a/\D a=.ptr j off/\hn.gz r i=[]/\lI pf hn r i o D=9+16*(j+1):=by
 obtain⟨f,⟨t,a,j,off,c,d,e⟩|⟨t,a,x,tt,gg,j,c,d,e⟩|⟨t,a,x,j,off,c,d,e⟩⟩:=AL (.inl h)
 .exact⟨t,a,j,off,c,d,f,e⟩
 .omega
 .omega
theorem B0{hn:Hint}{r i:Nat}{o:Oper}{D:fO->PV}{pf:fM->Bool}(h:lI pf hn r i o D%16=11):hn.gz r i=[]/\((∃t a x tt gg j,o.op=.store t a x/\D a=.mp tt gg j)\/∃t a x j off,o.op=.store t a x/\D a=.ptr j off/\lI pf hn r i o D=11+16*(j+1)):=by
 obtain⟨c,⟨t,a,j,off,d,f,e⟩|⟨t,a,x,tt,gg,j,d,f,e⟩|g⟩:=AL (.inr h)
 .omega
 .exact⟨c,.inl ⟨t,a,x,tt,gg,j,d,f⟩⟩
 .exact⟨c,.inr g⟩
theorem Lk(hcall:km P pf call){M:Nat->Option fU->Prop}{F:Fence}{m:Nat}{Q:Exit->Act->fK->Prop}(hF:sP F)(R:EN ops fl anc sp)(hT:∀(k:Nat) (o:Oper),ops[k]?=O o->(T (k+1)).b6=mH (T k).b6 o.dst (V k)/\((gI ops (T k).b6 o=O J/\gU P call (h.gz r k) o (ev (T k).b6) (T k).heap=O (V k,(T (k+1)).heap)/\fl.getD k 0=gd pf (h.gz r k) o (ev (T k).b6))\/
   (gI ops (T k).b6 o=O U/\V k=.fz []/\(T (k+1)).heap=(T k).heap/\fl.getD k 0=0)))(hfl:∀k,fl.getD k 0<=6)(hsp:∀i j,sp i j->(fl.getD i 0=1/\fl.getD j 0=3/\(∀o,ops[i]?=O o->∀x,x∈o.op.operands->∀z,z∈(ev (T i).b6 x).l4->¬M z (T i).heap[z]?)/\iD M (T j).heap (T (j+1)).heap)\/(fl.getD i 0=3/\fl.getD j 0=1/\iD M (T i).heap (T (i+1)).heap/\(∀o,ops[j]?=O o->∀x,x∈o.op.operands->∀z,z∈(ev (T j).b6 x).l4->¬M z (T j).heap[z]?)))(hrd:∀(j:Nat) (o:Oper) (n:Nat),ops[j]?=O o->gI ops (T j).b6 o=O J->iT (h.gz r j) o (ev (T j).b6)=O n->n<=(T 0).heap.length/\(∀k,k<j->fl.getD k 0<=2)/\(∀k,¬sp j k/\¬sp k j)/\∀k,fl.getD k 0≠4){X:Nat}{w0:fK}{S0:Nat->Nat->Prop}{Nb:Nat}:
  ∀(n:Nat) (l:List Nat),I l=n->∀(y:Array Bool) (s:List PV) (H:List fU) (g:Gh) (a:Act) (w:fK),y.size=ops.size->(∀k,k<ops.size->y.getD k J=U->k∈l)->
   (∀(j:Nat) (o:Oper) (e:Edge),ops[j]?=O o->y.getD j J=J->e∈o.after->Region.binds .any e=J->y.getD e.on U=J)->
   oV ops V (T 0).b6 (λk=>k<ops.size/\y.getD k J=J) s->CG T fl ops.size (λk=>k<ops.size/\y.getD k J=J) H->lU P X w0 S0 Nb g ⟨s,H⟩ a w->
   (∀g' a' w',Ext Nb g w g' w'->Fr g H w g' (T ops.size).heap w'->lU P X w0 S0 Nb g' (T ops.size) a' w'->a'.defers=a.defers->Q .normal a' w')->
   wpAnyIn F m P .any ops Q n y a w:=by
 have hpf:NC call pf:=λf args H p H' hp hc=>(hcall f args H p H' hc).2.1 hp
 have C:∀k,k<ops.size->fl.getD k 0<=1->(T (k+1)).heap=(T k).heap:=λk A hle=>by
  rcases(hT k _ (jA A)).2 with⟨_,h2,h3⟩|⟨_,_,h3,_⟩
  .exact Al hpf (by rw[<-h3];exact hle) h2
  .exact h3
 let TK:Option fU->Prop:=λb=>yW b/\∃k,fl.getD k 0=4
 have hgrow:∀k,k<ops.size->2<=fl.getD k 0->fl.getD k 0≠3->iD (λ_=>TK) (T k).heap (T (k+1)).heap:=λk A h2 h3=>by
  have h4:=hfl k;rcases(hT k _ (jA A)).2 with⟨_,hsm,hfk⟩|⟨_,_,hh,_⟩
  .by_cases e:fl.getD k 0=2
   .obtain⟨bs,hbs⟩:=uz (pf:=pf) (by rw[<-hfk];exact e) hsm;rw[hbs];exact iD.app _ _ _
   .by_cases e4:fl.getD k 0=4
    .obtain⟨t,te,n,n',g1,g2⟩:=IF (pf:=pf) (by rw[<-hfk];exact e4) hsm;rw[g2];exact(NS.set g1).mono λ_ _ h=>⟨h,k,e4⟩
    .have h5:=KN (pf:=pf) (h.gz r k) ops[k] (ev (T k).b6);rw[<-hfk]at h5;rw[LK (pf:=pf) (by rw[<-hfk];omega) hsm];exact iD.refl _ _
  .rw[hh];exact iD.refl _ _
 have both2:∀a b,2<=a->2<=b->¬(a=2/\b=2)->uT a b=U:=λa b h1 h2 h3=>by
  simp only[uT,h1,h2,decide_true,bg]
  have:(a==2 &&b==2)=U:=by
   cases e:(a==2 &&b==2)with
   |false=>rfl
   |true=>simp at e;exact absurd e h3
  simp[this]
 have hlong:∀k,k<ops.size->fl.getD k 0<=2->∃bs,(T (k+1)).heap=(T k).heap++bs:=λk A hle=>by
  by_cases e:fl.getD k 0<=1
  .exact⟨[],by rw[C k A e];simp⟩
  .rcases(hT k _ (jA A)).2 with⟨_,hsm,hfk⟩|⟨_,_,hh,hz⟩
   .exact uz (pf:=pf) (by rw[<-hfk];omega) hsm
   .omega
 have htext:=yb R (λk o ho=>(hT k o ho).1)
 have fin:∀(y:Array Bool) (s:List PV) (H:List fU),(∀k,k<ops.size->y.getD k J=J)->oV ops V (T 0).b6 (λk=>k<ops.size/\y.getD k J=J) s->
   CG T fl ops.size (λk=>k<ops.size/\y.getD k J=J) H->(⟨s,H⟩:St)=T ops.size:=λy s H hall hs hH=>by
  have ht:=htext ops.size (j7 _)
  have e1:s=(T ops.size).b6:=by
   apply bG;intro t;by_cases hlen:t<(T 0).b6.length
   .by_cases hex:∃(i:Nat) (oi:Oper),ops[i]?=O oi/\oi.dst=O t
    .obtain⟨i,oi,hi,hd⟩:=hex;have hlt:i<ops.size:=(aA.1 hi).1;rw[(hs.2 t hlen).1 i oi hi ⟨hlt,hall i hlt⟩ hd,(ht.2 t hlen).1 i oi hi hlt hd]
    .have hno:∀(k:Nat) (ok:Oper),ops[k]?=O ok->ok.dst≠O t:=λk ok A hd=>hex ⟨k,ok,A,hd⟩
     rw[(hs.2 t hlen).2 λk ok A _=>hno k ok A,(ht.2 t hlen).2 λk ok A _=>hno k ok A]
   .rw[aD (by rw[hs.1];omega),aD (by rw[ht.1];omega)]
  have e2:H=(T ops.size).heap:=by
   obtain⟨x,b,⟨hb1,hb2,hb3,hb4⟩,h1,h2,h3,h4,h5⟩:=hH
   have hbn:b=ops.size:=by
    by_cases c:b<ops.size
    .exact absurd ⟨c,hall b c⟩ (h2 b (j7 _) c (by have:=hb4 c;omega))
    .omega
   subst hbn;exact bG λi=>h4 i λk k1 k2 E=>absurd ⟨k2,hall k k2⟩ E
  rw[e1,e2]
 have ready_none:∀(y:Array Bool),y.size=ops.size->Region.ready .any ops y=[]->∀k,k<ops.size->y.getD k J=J:=λy hsz hr k=>by
  induction k using Nat.strongRecOn with
  |_ k ih=>
   intro A;cases K:y.getD k J with
   |true=>rfl
   |false=>
    exfalso
    have ho:ops[k]?=O ops[k]:=jA A
    have:k∈Region.ready .any ops y:=mem_ready.2 ⟨K,_,ho,λe he hbi=>by
     have hlt:=R.back k _ e ho he hbi;have:=ih e.on hlt y9;have hls:e.on<y.size:=by omega
     simp only[jH,jA hls,aE]at this |-;exact this⟩
    rw[hr]at this;cases this
 intro n;induction n with
 |zero=>
  intro l hUl y s H g a w hsz hU hdc hs hH hst hQ;have hUe:l=[]:=aw hUl;subst hUe
  have hall:∀k,k<ops.size->y.getD k J=J:=λk A=>by
   cases K:y.getD k J with
   |true=>rfl
   |false=>exact absurd (hU k A K) yB
  refine⟨?_,?_⟩
  .cases hr:Region.ready .any ops y with
   |nil=>rfl
   |cons i rs=>
    have hm:i∈Region.ready .any ops y:=by rw[hr];simp
    obtain⟨K,o,ho,_⟩:=mem_ready.1 hm;rw[hall i (aA.1 ho).1]at K;cases K
  .have e:=fin y s H hall hs hH;rw[e]at hst;have e2:H=(T ops.size).heap:=bQ St.heap e;exact hQ g a w (Ext.refl _ _ _) (by rw[e2];exact Fr.refl _ _ _) hst rfl
 |succ n ih=>
  intro l hUl y s H g a w hsz hU hdc hs hH hst hQ;refine⟨λhr=>?_,λj hj=>?_⟩
  .have e:=fin y s H (ready_none y hsz hr) hs hH;rw[e]at hst;have e2:H=(T ops.size).heap:=bQ St.heap e;exact hQ g a w (Ext.refl _ _ _) (by rw[e2];exact Fr.refl _ _ _) hst rfl
  .obtain⟨hun,o,ho,hready⟩:=mem_ready.1 hj;have hjlt:j<ops.size:=(aA.1 ho).1;have hjl:j<y.size:=by omega
   let L:Nat->Prop:=λk=>k<ops.size/\y.getD k J=J
   have hjL:¬L j:=λE=>by have:=E.2;rw[hun]at this;cases this
   have H7:∀k,y.getD k U=J->L k:=λk A=>by
    by_cases hkl:k<y.size
    .simp only[jH,jA hkl,aE]at A;exact⟨by omega,by simp only[jH,jA hkl,aE];exact A⟩
    .simp only[jH,Array.getElem?_eq_none (show y.size<=k by omega),Option.getD_none]at A;cases A
   have hdcL:∀(j:Nat) (o:Oper) (e:Edge),ops[j]?=O o->L j->e∈o.after->Region.binds .any e=J->L e.on:=λj o e ho E he K=>H7 _ (hdc j o e ho E.2 he K)
   have hanc:∀i,anc i j->L i:=λi hi=>R.closed L hdcL j o ho (λe he K=>H7 _ (hready e he K)) i hi
   have hsame:=Ga (V:=V) R ho hjL hs (htext j y9) hdcL hanc;have hw:=zu (o:=o) hsame;have hev:=NM (o:=o) hsame
   have hL':∀k,(k<ops.size/\(y.setIfInBounds j J).getD k J=J)↔(L k\/k=j):=λk=>by
    rw[rz hjl];by_cases e:k=j
    .subst e;simp[hjlt]
    .simp[e,L]
   have hU':I (l.erase j)=n:=by rw[eH (hU j hjlt hun),hUl];rfl
   have hUm:∀k,k<ops.size->(y.setIfInBounds j J).getD k J=U->k∈l.erase j:=λk A K=>by
    rw[rz hjl]at K;by_cases e:k=j
    .rw[aj e]at K;cases K
    .rw[ae e]at K;exact(fk e).2 (hU k A K)
   have hdc':∀(j':Nat) (o':Oper) (e:Edge),ops[j']?=O o'->(y.setIfInBounds j J).getD j' J=J->e∈o'.after->Region.binds .any e=J->(y.setIfInBounds j J).getD e.on U=J:=λj' o' e ho' hl he K=>by
    rw[rz hjl]at hl
    have:y.getD e.on U=J:=by
     by_cases e':j'=j
     .subst e';rw[ho]at ho';cases ho';exact hready e he K
     .rw[ae e']at hl;exact hdc j' o' e ho' hl he K
    exact getD_set_true this
   have W:oV ops V (T 0).b6 (λk=>k<ops.size/\(y.setIfInBounds j J).getD k J=J) (mH s o.dst (V j)):=by have:=Bd R ho hjL hs;refine⟨this.1,λt ht=>⟨λk ok A E hd=>(this.2 t ht).1 k ok A ((hL' k).1 E) hd,λhn=>(this.2 t ht).2 λk ok A E=>hn k ok A ((hL' k).2 E)⟩⟩
   obtain⟨xa,S,hbat,hA,hB,hlenH,G,Y⟩:=hH;obtain⟨hb1,hb2,hb3,hb4⟩:=hbat;have hgb:∀k,xa<=k->k<S->∃bs,(T (k+1)).heap=(T k).heap++bs:=λk k1 k2=>hlong k y9 (hb3 k k1 k2)
   have hafter:∀k,j<k->k<ops.size->uT (fl.getD j 0) (fl.getD k 0)=U->¬sp j k->¬L k:=λk hjk A hf hns hLk=>by have ha:=(R.I2 j k hjlt A hjk hf).resolve_right hns;have hok:ops[k]?=O ops[k]:=jA A;exact hjL (R.closed L hdcL k _ hok (λe he K=>hdcL k _ e hok hLk he K) j ha)
   have hbefore1:∀k,k<j->uT (fl.getD k 0) (fl.getD j 0)=U->¬sp k j->L k:=λk hkj hf hns=>hanc k ((R.I2 k j y9 hjlt hkj hf).resolve_right hns)
   have hbefore:∀k,k<j->2<=fl.getD k 0->2<=fl.getD j 0->¬(fl.getD k 0=2/\fl.getD j 0=2)->L k:=λk hkj h1 h2 h3=>hbefore1 k hkj (both2 _ _ h1 h2 h3) λhs=>by rcases hsp k j hs with⟨e,_⟩|⟨_,e,_⟩<;>omega
   have hin2:fl.getD j 0=2->xa<=j/\j<S:=λh2=>by
    have c1:xa<=j:=db λc=>hjL (hA j c y9)
    refine⟨c1,Nat.lt_of_not_le λc=>?_⟩;by_cases e:S=j
    .have:=hb4 y9;rw[e]at this;omega
    .have h3:=hb4 y9;exact hB S (j7 _) y9 y9 (hbefore S y9 y9 y9 y9)
   have hin3:3<=fl.getD j 0->S=j/\H=(T j).heap/\(∀k,xa<=k->k<S->2<=fl.getD k 0->L k):=λh3=>by
    have c1:xa<=j:=db λc=>hjL (hA j c y9)
    have c2:S<=j:=db λc=>by have:=hb3 j c1 c;omega
    have c3:S=j:=by refine Nat.le_antisymm c2 (db λc=>?_);have h3':=hb4 y9;exact hB S (j7 _) y9 y9 (hbefore S c y9 y9 y9)
    subst c3;have c4:∀k,xa<=k->k<S->2<=fl.getD k 0->L k:=λk k1 k2 k3=>hbefore k k2 k3 y9 y9
    refine⟨rfl,bG λi=>G i λk k1 k2 E hi=>?_,c4⟩
    have:¬2<=fl.getD k 0:=λc=>E (c4 k k1 k2 c)
    rw[C k y9 y9]at hi;omega
   have hbox:fl.getD j 0=1->∀(B:Prop) (i:Nat),((∃k,sp j k\/sp k j)->(∀x,x∈o.op.operands->∀z,z∈(ev (T j).b6 x).l4->¬M z (T j).heap[z]?)->B)->(B->¬M i (T j).heap[i]?)->(∀k,xa<=k->k<S->¬L k->¬((T k).heap.length<=i/\i<(T (k+1)).heap.length))->i<(T S).heap.length->i<(T j).heap.length->¬TK (T j).heap[i]?->H[i]?=(T j).heap[i]?:=λhge B i hB1 hB2 hnh hi1 hi2 hnt=>by
    have hHb:H[i]?=(T S).heap[i]?:=G i hnh;rw[hHb];have hno:¬(TK (T j).heap[i]?\/(B/\M i (T j).heap[i]?)):=λh=>h.elim hnt λh=>hB2 h.1 h.2
    have hmt:B->∀{H1 H2:List fU},iD M H1 H2->iD (λi b=>TK b\/(B/\M i b)) H1 H2:=λK _ _ h=>h.mono λi b h=>.inr ⟨K,h⟩
    rcases Nat.lt_or_ge S j with hlt|hge'
    .have hbs:=vi (Q:=λi b=>TK b\/(B/\M i b)) C (Nat.le_of_lt hlt) y9 λk h1 h2 h3=>by
      by_cases e3:fl.getD k 0=3
      .by_cases hs:sp k j
       .rcases hsp k j hs with⟨e,_⟩|⟨_,_,q1,q2⟩
        .omega
        .exact hmt (hB1 ⟨k,.inr hs⟩ (q2 o ho)) q1
       .exact absurd (hbefore1 k h2 (by rw[e3,hge];rfl) hs) (hB k h1 y9 y9)
      .exact(hgrow k y9 h3 e3).mono λi b h=>.inl h
     rcases hbs.2 i hi1 with h|⟨_,h⟩
     .exact h.symm
     .exact absurd h hno
    .have hbs:=vi (Q:=λi b=>TK b\/(B/\M i b)) C hge' hb2 λk h1 h2 h3=>by
      by_cases e3:fl.getD k 0=3
      .have hne:k≠j:=λe=>by subst e;omega
       by_cases hka:k<xa
       .by_cases hs:sp j k
        .rcases hsp j k hs with⟨_,_,q1,q2⟩|⟨e,_⟩
         .exact hmt (hB1 ⟨k,.inl hs⟩ (q1 o ho)) q2
         .omega
        .exact absurd (hA k hka y9) (hafter k y9 y9 (by rw[e3,hge];rfl) hs)
       .have:=hb3 k y9 h2;omega
      .exact(hgrow k y9 h3 e3).mono λi b h=>.inl h
     rcases hbs.2 i hi2 with h|⟨h,_⟩
     .exact h
     .exact absurd h hno
   have hL1:∀k,¬(k<ops.size/\(y.setIfInBounds j J).getD k J=J)->¬L k:=λk A E=>A ((hL' k).2 (.inl E))
   have hL2:∀k,k≠j->(k<ops.size/\(y.setIfInBounds j J).getD k J=J)->L k:=λk hne A=>((hL' k).1 A).resolve_right hne
   have hHeap1:fl.getD j 0<=1->CG T fl ops.size (λk=>k<ops.size/\(y.setIfInBounds j J).getD k J=J) H:=λhle=>by
    have hz:∀i,¬((T j).heap.length<=i/\i<(T (j+1)).heap.length):=λi=>by rw[C j hjlt hle];omega
    refine⟨xa,S,⟨hb1,hb2,hb3,hb4⟩,λk k1 k2=>(hL' k).2 (.inl (hA k k1 k2)),λk k1 k2 k3 E=>hB k k1 k2 k3 (hL2 k (λe=>by subst e;omega) E),hlenH,λi hi=>G i λk k1 k2 E=>?_,λk i k1 k2 E=>Y k i k1 k2 (hL1 k E)⟩;by_cases e:k=j
    .subst e;exact hz i
    .exact hi k k1 k2 λhL3=>E (hL2 k e hL3)
   unfold wpOpIn;simp only[ho];rcases(hT j o ho).2 with⟨hwt,hsem,hflj⟩|⟨hwf,hvj,hhj,hflj⟩
   .rw[kU hst.rep (by rw[hw];exact hwt),aj rfl];by_cases h1:fl.getD j 0<=1
    .have hsem':gU P call (h.gz r j) o (ev s) H=O (V j,H):=by
      by_cases h0:fl.getD j 0=0
      .rw[p9 hev];exact FO hpf (by rw[<-hflj];exact h0) hsem H
      .have h1:fl.getD j 0=1:=by omega
       cases hrb:iT (h.gz r j) o (ev (T j).b6)with
       |some n0=>
        obtain⟨q1,q3⟩:=Np hrb hsem;obtain⟨r1,r2,r3,r4⟩:=hrd j o n0 ho hwt hrb;rw[p9 hev]
        have hup:∀k,k<=j->(T 0).heap.length<=(T k).heap.length:=λk=>by
         induction k with
         |zero=>intro _;exact j7 _
         |succ k ihk=>
          intro A;obtain⟨bs,hbs⟩:=hlong k y9 (r2 k y9);rw[hbs,jW];have:=ihk y9;omega
        have hdn:∀d k,k=j+d->k<=S->(T j).heap.length<=(T k).heap.length:=λd=>by
         induction d with
         |zero=>intro k A _;rw[show k=j by omega];exact j7 _
         |succ d ihd=>
          intro k A hkb;have hlast:=ihd (j+d) rfl y9;have e:k=(j+d)+1:=by omega
          have hsz2:j+d<ops.size:=by omega
          rw[e];by_cases e1:fl.getD (j+d) 0<=1
          .rw[C _ hsz2 e1];exact hlast
          .by_cases e3:fl.getD (j+d) 0=3
           .exfalso
            have hdp:0<d:=by
             rcases dU d with hd|hd
             .subst hd;rw[zY]at e3;omega
             .exact hd
            by_cases hka:j+d<xa
            .exact absurd (hA (j+d) hka y9) (hafter (j+d) y9 hsz2 (by rw[e3,h1];rfl) (r3 (j+d)).1)
            .have:=hb3 (j+d) y9 y9;omega
           .exact jX hlast (hgrow _ hsz2 y9 e3).1
        have hge0:∀k,k<=S->(T 0).heap.length<=(T k).heap.length:=λk A=>by
         by_cases e:k<=j
         .exact hup k e
         .exact jX (hup j (j7 _)) (hdn (k - j) k y9 A)
        refine q3 H λi hi=>?_
        have hxbl:=hge0 S (j7 _);exact hbox h1 False i (λ⟨k,A⟩ _=>A.elim (λh=>(r3 k).1 h) (λh=>(r3 k).2 h)) False.elim (λk k1 k2 _ hh=>by have:=hge0 k y9;omega) y9 y9 (λh=>h.2.elim r4)
       |none=>
       obtain⟨xs,hops,hthere,hbx⟩:=O7 (pf:=pf) hpf hrb (by rw[<-hflj];exact h1) hsem;rw[p9 hev];refine hbx H λx hx i hxi=>?_
       have hxx:ev s x=ev (T j).b6 x:=hev x (hops x hx);have hv:=hst.rep.ev x;rw[hxx]at hv;obtain⟨t1,t2⟩:=hthere x hx i hxi;have hxi0:=hxi;generalize ev (T j).b6 x=xv at hxi hv
       have hnh:(g.live i\/∃z,g.own i=O z)->H[i]?≠O .hole:=λhg hh=>by
        obtain⟨k1,k2⟩:=hst.heap.sa hh;rcases hg with hg|⟨z,hz⟩
        .exact k1 hg
        .rw[k2]at hz;cases hz
       have one:∀(va:fP) (c:PV),fW g (I H) w va c->i∈c.nn->i<I H/\H[i]?≠O .hole:=λva c hc hi=>by
        cases hc<;>simp only[PV.nn,jY,bT]at hi<;>subst hi
        .rename_i hl;exact⟨hl.1,hnh (.inl hl.2)⟩
        .rename_i hc hl;exact⟨hl.1,hnh (.inl hl.2)⟩
        .exact⟨by assumption,hnh (.inr ⟨_,by assumption⟩)⟩
        .exact⟨by assumption,hnh (.inr ⟨_,by assumption⟩)⟩
        .rename_i hl;exact⟨hl.1,hnh (.inl hl.2)⟩
       have hi1:i<I H/\H[i]?≠O .hole:=by
        generalize a.eval x=va at hv;cases hv with
        |agg vs cs a1 a2=>
         simp only[PV.l4,bJ]at hxi;obtain⟨c,hc,hi⟩:=hxi;obtain⟨q,hq⟩:=aT hc;have hl:=(af.1 hq).1;exact one _ c (a2 q _ c (jA y9) hq) hi
        |ptr i o hi=>exact one _ _ (.ptr i o hi) hxi
        |arr i o len cap hi hc=>exact one _ _ (.arr i o len cap hi hc) hxi
        |ms t gg lo len cp v v0 n b1 b2 b3 b4 b5=>exact one _ _ (.ms t gg lo len cp _ v0 n b1 b2 b3 b4 b5) hxi
        |mp t gg j v v0 n b1 b2 b3 b4 b5=>exact one _ _ (.mp t gg j _ v0 n b1 b2 b3 b4 b5) hxi
        |hC i hi=>exact one _ _ (.hC i hi) hxi
        |_=>simp[PV.l4,PV.nn]at hxi
       exact hbox h1 (∀x,x∈o.op.operands->∀z,z∈(ev (T j).b6 x).l4->¬M z (T j).heap[z]?) i (λ_ K=>K) (λK=>K x (hops x hx) i hxi0) (λk k1 k2 E hi=>hi1.2 (Y k i k1 k2 E hi.1 hi.2)) (by rw[<-hlenH];exact hi1.1) t1 (λh=>t2 h.1)
     refine uL hF hcall hsem' hst λu g' w' hg=>?_
     refine ih (l.erase j) hU' _ _ H g' _ w' (by simp[hsz]) hUm hdc' W (hHeap1 h1) (hst.put hg o.dst) λg2 a2 w2 he hf hst2 hd=>?_
     exact hQ g2 a2 w2 ((hg.ext.less hst.base).trans he (j7 _)) (hg.fr.trans hf) hst2 (hd.trans (ji _ _ _))
    .by_cases h2:fl.getD j 0=2
     ·-- the heap gets longer: its blocks are put into the holes that wait for them
      obtain⟨c1,c2⟩:=hin2 h2;obtain⟨p2,bs2,hs2,hp2,hb2',hne2⟩:=Kt (H2:=H) (D:=ev s) (pf:=pf) (by rw[Fb hev,<-hflj];exact h2) (by rw[p9 hev];exact hsem) λx=>(hst.rep.ev x).fix λi hi=>tR hi
      refine uL hF hcall hs2 hst λu g' w' hg=>?_
      have hlb:(T (j+1)).heap.length=(T j).heap.length+I (bs2.map (fU.eR (xF (I H) (T j).heap.length))):=by rw[hb2'];simp
      have hle:=qe hgb (by omega:xa<=j+1) (by omega:j+1<=S) (j7 S);obtain⟨g3,he3,hf3,hst3⟩:=lU.place hst hg rfl hne2 y9 (λi i1 i2=>Y j i c1 c2 hjL i1 y9) o.dst;rw[<-hp2]at hst3
      have hgetb:∀i,(T j).heap.length<=i->i<(T (j+1)).heap.length->(bs2.map (fU.eR (xF (I H) (T j).heap.length)))[i - (T j).heap.length]?=(T S).heap[i]?:=λi i1 i2=>by rw[Aq hgb (by omega:xa<=j+1) (by omega:j+1<=S) (j7 S) i2,hb2',zO i1]
      refine ih (l.erase j) hU' _ _ _ g3 _ w' (by simp[hsz]) hUm hdc' W ⟨xa,S,⟨hb1,hb2,hb3,hb4⟩,λk k1 k2=>(hL' k).2 (.inl (hA k k1 k2)),λk k1 k2 k3 E=>hB k k1 k2 k3 (hL2 k y9 E),?_,λi hi=>?_,λk i k1 k2 E i1 i2=>?_⟩ hst3 λg2 a2 w2 he hf hst2 hd=>?_
      .simp only[jW,zW,y7];omega
      .rw[iP _ _ _ y9];by_cases s1:i<(T j).heap.length
       .rw[aj s1];refine G i λk k1 k2 E hh=>?_
        by_cases e:k=j
        .subst e;omega
        .exact hi k k1 k2 (λhL3=>E (hL2 k e hL3)) hh
       .rw[ae s1];by_cases s2:i<(T (j+1)).heap.length
        .rw[aj y9];exact hgetb i y9 s2
        .rw[ae y9];refine G i λk k1 k2 E hh=>?_
         by_cases e:k=j
         .subst e;omega
         .exact hi k k1 k2 (λhL3=>E (hL2 k e hL3)) hh
      .have hkj:k≠j:=λe=>E ((hL' k).2 (.inr e))
       rw[iP _ _ _ y9];have hold:=Y k i k1 k2 (hL1 k E) i1 i2;by_cases s1:i<(T j).heap.length
       .rw[aj s1];exact hold
       .rw[ae s1]
        have:¬i<(T (j+1)).heap.length:=λs2=>by
         rcases Nat.lt_or_gt_of_ne hkj with c|c
         .have:=qe hgb (by omega:xa<=k+1) (by omega:k+1<=j) y9;omega
         .have:=qe hgb (by omega:xa<=j+1) (by omega:j+1<=k) y9;omega
        rw[ae y9];exact hold
      .exact hQ g2 a2 w2 ((he3.less hst.base).trans he (j7 _)) (hf3.trans hf) hst2 (hd.trans (ji _ _ _))
     ·-- the heap is turned otherwise: a new batch begins
      obtain⟨c1,c2,c3⟩:=hin3 y9;have hsem':gU P call (h.gz r j) o (ev s) H=O (V j,(T (j+1)).heap):=by rw[p9 hev,c2];exact hsem
      refine uL hF hcall hsem' hst λu g' w' hg=>?_
      obtain⟨b',hb'⟩:=uU fl ops.size (ops.size - (j+1)) (j+1) y9;have hst1:=hst.put hg o.dst;obtain⟨g3,he3,hf3,hst3⟩:=hst1.z7 ((T b').heap.length - (T (j+1)).heap.length);refine ih (l.erase j) hU' _ _ _ g3 _ w' (by simp[hsz]) hUm hdc' W (vm (λk k1 k2=>hlong k y9 (hb'.2.2.1 k k1 k2)) (λk k1 k2 k3=>C k y9 y9) hb' (λk k1 k2=>?_) (λk k1 k2 k3 E=>hB k y9 k2 k3 (hL2 k y9 E))) hst3 λg2 a2 w2 he hf hst2 hd=>?_
      .refine(hL' k).2 ?_;by_cases e:k=j
       .exact .inr e
       .by_cases c:k<xa
        .exact .inl (hA k c k2)
        .exact .inl (c3 k y9 y9 k2)
      .exact hQ g2 a2 w2 (((hg.ext.less hst.base).trans (he3.less hst1.base) (j7 _)).trans he (j7 _)) ((hg.fr.trans hf3).trans hf) hst2 (hd.trans (ji _ _ _))
   .rw[kU hst.rep (by rw[hw];exact hwf)];simp only[j6,ai];refine⟨λf _=>hF.fn f,?_⟩;refine ih (l.erase j) hU' _ _ H g _ w (by simp[hsz]) hUm hdc' W (hHeap1 y9) ⟨hst.heap,hst.inv,?_,hst.base⟩ λg2 a2 w2 he hf hst2 hd=>?_
    .have:=hst.rep.put o.dst (nT (g:=g) (N:=I H) (w:=w));rw[hvj];exact this
    .exact hQ g2 a2 w2 he hf hst2 (hd.trans (ji _ _ _))
theorem Cd(hmix:P.follows .mixedOrders=J)(N:km P pf call):u9 P call pf h:=by
 intro r ops st st' fl s R X w0 S0 Nb g a w F m Q hF _ hst hQ;obtain⟨anc,hord⟩:=DK s;obtain⟨T,t1,t2,G⟩:=sL ops.toList 0 st st' fl R;simp only[zI,zZ,bj]at t2 G
 have hlen:I fl<=ops.size:=by
  have:∀(os:List Oper) (i:Nat) (st st':St) (fl:List Nat),ib P call pf h r ops i os st=O (st',fl)->I fl=I os:=by
   intro os;induction os with
   |nil=>intro i st st' fl hr;cases hr;rfl
   |cons o os ih=>
    intro i st st' fl hr;simp only[ib]at hr;split at hr
    .split at hr
     .rename_i B;cases hr;simp[ih _ _ _ _ B]
     .cases hr
    .cases hr
  have:=this _ _ _ _ _ R;simp at this;omega
 have u:∀k,ops[k]?=Z->fl.getD k 0=0:=λk q=>by
  have hge:ops.size<=k:=by simpa using q
  rw[jB,aD y9];simp
 let c:Nat->Prop:=λi=>∃k,fl.getD k 0=11+16*(i+1)
 let M:Nat->Option fU->Prop:=λi b=>PD b\/c i
 have W:∀i j k,fl.getD k 0=9+16*(i+1)->fl.getD j 0≠11+16*(i+1):=λi j k h1 B=>by
  have hl:NG fl=J:=by unfold lS at s;simp only[jE]at s;exact s.1.2
  have hmem:∀k,0<fl.getD k 0->fl.getD k 0∈fl:=λk q=>by
   rw[jB]at q |-;cases e:fl[k]? with
   |none=>rw[e]at q;exact absurd q (zA 0)
   |some v=>exact jF e
  have q1:=an.1 hl _ (hmem k y9);simp only[zT,zE]at q1;rcases q1 with q1|q1
  .omega
  .have q2:=an.1 q1 _ (hmem j y9);simp only[zT,zE]at q2;omega
 have hbl:∀k,fl.getD k 0%16=9->∀o,ops[k]?=O o->∀x,x∈o.op.operands->∀z,z∈(ev (T k).b6 x).l4->¬M z (T k).heap[z]?:=λk h9 o y x hx z hz=>by
  obtain⟨k1,k2⟩:=G k o y;obtain⟨v,_,hp⟩:=qz k1;rcases hp with⟨hw,d⟩|⟨hw,_⟩
  .rw[aj hw]at k2;rw[k2]at h9;obtain⟨t,a,i,off,K,L,C,Y⟩:=FI h9;rw[K]at hx;simp[Op.operands]at hx;subst hx;rw[L]at hz;simp[PV.l4,PV.nn]at hz;subst hz;rw[C]at d;simp only[gU,K,kR,L]at d;split at d
   .split at d
    .rename_i hb;rw[hb];exact λh=>h.elim (λh=>h) λ⟨j,hj⟩=>W _ j k (by rw[k2];exact Y) hj
    .cases d
   .cases d
  .rw[ae (by rw[hw];simp)]at k2;rw[k2]at h9;cases h9
 have hms:∀k,fl.getD k 0%16=11->iD M (T k).heap (T (k+1)).heap:=λk A=>by
  cases y:ops[k]? with
  |none=>rw[u k y]at A;cases A
  |some o=>
   obtain⟨k1,k2⟩:=G k o y;obtain⟨v,_,hp⟩:=qz k1;rcases hp with⟨hw,d⟩|⟨hw,_⟩
   .rw[aj hw]at k2;have h11':=A;rw[k2]at A;obtain⟨C,⟨t,a,x,tt,gg,j,K,L⟩|⟨t,a,x,j,off,K,L,Y⟩⟩:=B0 A
    .rw[C]at d;simp only[gU,K,nw,L]at d;have hM:∀{H H':List fU},iD (λ_=>PD) H H'->iD M H H':=λh=>h.mono λ_ _ h=>.inl h
     split at d
     .split at d
      .rename_i hb;split at d
       .simp only[j9,jI]at d;rw[<-d.2];exact hM (iD.z6 (ZO hb))
       .split at d
        .split at d
         .simp only[j9,jI]at d;rw[<-d.2];exact hM (iD.z6 (ZO hb))
         .cases d
        .cases d
      .cases d
     .cases d
    .rw[C]at d;simp only[gU,K,nw,L]at d;have hJ:c j:=⟨k,by rw[k2];exact Y⟩
     have hset:∀b:fU,iD M (T k).heap ((T k).heap.set j b):=λb=>⟨by simp,λi hi=>by
      by_cases hij:j=i
      .subst hij;exact .inr ⟨.inr hJ,.inr hJ⟩
      .exact .inl (by rw[zF,ae hij])⟩
     split at d
     .split at d
      .split at d
       .simp only[j5,jI]at d;obtain⟨cs,_,_,hh⟩:=d;rw[<-hh];exact hset _
       .cases d
      .cases d
     .cases d
   .rw[ae (by rw[hw];simp)]at k2;rw[k2]at A;cases A
 have l:∀k,(fl.map (· %8)).getD k 0=fl.getD k 0%8:=Si fl
 have hrd:∀(j:Nat) (o:Oper) (n:Nat),ops[j]?=O o->gI ops (T j).b6 o=O J->iT (h.gz r j) o (ev (T j).b6)=O n->n<=(T 0).heap.length/\(∀k,k<j->(fl.map (· %8)).getD k 0<=2)/\(∀k,¬((fl.getD j 0%16=9/\fl.getD k 0%16=11)\/(fl.getD j 0%16=11/\fl.getD k 0%16=9))/\¬((fl.getD k 0%16=9/\fl.getD j 0%16=11)\/(fl.getD k 0%16=11/\fl.getD j 0%16=9)))/\∀k,(fl.map (· %8)).getD k 0≠4:=λj o n y hw hrb=>by
  have hf:=(G j o y).2;rw[aj hw,yK hrb]at hf
  have hr:HQ (I st.heap) fl=J:=by unfold lS at s;simp only[jE]at s;exact s.1.1
  have hjl:j<I fl:=Nat.lt_of_not_le λhle=>by rw[jB,aD hle]at hf;simp at hf
  have hj:=an.1 hr j (ck.2 hjl);simp only[zT,jE,zE,j8,ck]at hj;rcases hj with(hj|hj)|⟨⟨h1,B⟩,h4⟩
  .omega
  .omega
  .refine⟨by rw[t1];omega,λk q=>by rw[l];exact B k q,λk=>⟨λe=>?_,λe=>?_⟩,λk=>?_⟩
   .rcases e with⟨e,_⟩|⟨e,_⟩<;>omega
   .rcases e with⟨_,e⟩|⟨_,e⟩<;>omega
   .rw[l];by_cases q:k<I fl
    .exact h4 k q
    .rw[jB,aD y9];decide
 have hspe:∀i j,((fl.getD i 0%16=9/\fl.getD j 0%16=11)\/(fl.getD i 0%16=11/\fl.getD j 0%16=9))->((fl.map (· %8)).getD i 0=1/\(fl.map (· %8)).getD j 0=3/\(∀o,ops[i]?=O o->∀x,x∈o.op.operands->∀z,z∈(ev (T i).b6 x).l4->¬M z (T i).heap[z]?)/\iD M (T j).heap (T (j+1)).heap)\/((fl.map (· %8)).getD i 0=3/\(fl.map (· %8)).getD j 0=1/\iD M (T i).heap (T (i+1)).heap/\(∀o,ops[j]?=O o->∀x,x∈o.op.operands->∀z,z∈(ev (T j).b6 x).l4->¬M z (T j).heap[z]?)):=λi j hs=>by
  rcases hs with⟨e1,e2⟩|⟨e1,e2⟩
  .exact .inl ⟨by rw[l];omega,by rw[l];omega,hbl i e1,hms j e2⟩
  .exact .inr ⟨by rw[l];omega,by rw[l];omega,hms i e1,hbl j e2⟩
 have t3:∀(k:Nat) (o:Oper),ops[k]?=O o->iW P call h r ops k o (T k)=O (T (k+1))/\(fl.map (· %8)).getD k 0=(if gI ops (T k).b6 o=O J then gd pf (h.gz r k) o (ev (T k).b6)else 0):=λk o y=>by
  obtain⟨k1,k2⟩:=G k o y;refine⟨k1,?_⟩;rw[l,k2];split
  .exact KJ _ _ _ _ _ _
  .rfl
 have hzero2:∀k,ops[k]?=Z->(fl.map (· %8)).getD k 0=0:=λk q=>by rw[l,u k q]
 clear hbl hms u G hlen W
 clear_value M
 generalize hsp0:(λi j=>(fl.getD i 0%16=9/\fl.getD j 0%16=11)\/(fl.getD i 0%16=11/\fl.getD j 0%16=9))=sp at hord;have hspe:∀i j,sp i j->_:=λi j hs=>hspe i j (by rw[<-hsp0]at hs;exact hs)
 replace hrd:∀(j:Nat) (o:Oper) (n:Nat),ops[j]?=O o->gI ops (T j).b6 o=O J->iT (h.gz r j) o (ev (T j).b6)=O n->n<=(T 0).heap.length/\(∀k,k<j->(fl.map (· %8)).getD k 0<=2)/\(∀k,¬sp j k/\¬sp k j)/\∀k,(fl.map (· %8)).getD k 0≠4:=by rw[<-hsp0];exact hrd
 clear l s R hsp0;generalize fl.map (· %8)=fl at *
 have hV:∀k,∃v,∀o,ops[k]?=O o->(T (k+1)).b6=mH (T k).b6 o.dst v/\((gI ops (T k).b6 o=O J/\gU P call (h.gz r k) o (ev (T k).b6) (T k).heap=O (v,(T (k+1)).heap))\/
   (gI ops (T k).b6 o=O U/\v=.fz []/\(T (k+1)).heap=(T k).heap)):=λk=>by
  cases q:ops[k]? with
  |none=>exact⟨.undef,λo y=>by cases y⟩
  |some o=>
   obtain⟨v,h1⟩:=qz (t3 k o q).1;exact⟨v,λo' ho'=>by cases ho';exact h1⟩
 have hfl:∀k,fl.getD k 0<=6:=λk=>by
  cases q:ops[k]? with
  |some o=>
   rw[(t3 k o q).2];split
   .exact B7 _ _ _
   .omega
  |none=>rw[hzero2 k q];omega
 have hT:∀(k:Nat) (o:Oper),ops[k]?=O o->(T (k+1)).b6=mH (T k).b6 o.dst (Classical.choose (hV k))/\((gI ops (T k).b6 o=O J/\gU P call (h.gz r k) o (ev (T k).b6) (T k).heap=O (Classical.choose (hV k),(T (k+1)).heap)/\fl.getD k 0=gd pf (h.gz r k) o (ev (T k).b6))\/
   (gI ops (T k).b6 o=O U/\Classical.choose (hV k)=.fz []/\(T (k+1)).heap=(T k).heap/\fl.getD k 0=0)):=λk o y=>by
  obtain⟨h1,B⟩:=Classical.choose_spec (hV k) o y;refine⟨h1,?_⟩;have hf:=(t3 k o y).2;rcases B with⟨B,h3⟩|⟨B,h3,h4⟩
  .exact .inl ⟨B,h3,by rw[hf,aj B]⟩
  .exact .inr ⟨B,h3,h4,by rw[hf,ae (by rw[B];simp)]⟩
 refine wpIn_region_any hmix ?_
 have hst':lU P X w0 S0 Nb g ⟨(T 0).b6,(T 0).heap⟩ a {w with drawn:=w.drawn+1}:=by have eD:Ext (I st.heap) g w g {w with drawn:=w.drawn+1}:=⟨λ_ _ h=>h,λ_ _ _=>rfl,λ_ _ h=>⟨rfl,h⟩,λ_ _ v n h=>⟨v,n,h,j7 _,λ_=>rfl⟩⟩;rw[t1];exact⟨hst.heap.ey eD (j7 _) (j7 _) (λ_ _ _=>rfl) (λ_ _ _ _ h=>h) (λ_ _=>rfl),⟨hst.inv.below.drew,hst.inv.size,hst.inv.kk,hst.inv.lt⟩,hst.rep.ext eD (j7 _),hst.base⟩
 have D:∀k,k<ops.size->(Array.replicate ops.size U).getD k J=U:=λk q=>by simp[jH,q]
 have hpf:NC call pf:=λf args H p H' hp hc=>(N f args H p H' hc).2.1 hp
 obtain⟨b0,hb0⟩:=uU fl ops.size ops.size 0 y9;obtain⟨g3,he3,hf3,hst3⟩:=hst'.z7 ((T b0).heap.length - (T 0).heap.length)
 have E:∀k,k<ops.size->fl.getD k 0<=1->(T (k+1)).heap=(T k).heap:=λk q hle=>by
  rcases(hT k _ (jA q)).2 with⟨_,B,h3⟩|⟨_,_,h3,_⟩
  .exact Al hpf (by rw[<-h3];exact hle) B
  .exact h3
 have hlong:∀k,k<ops.size->fl.getD k 0<=2->∃bs,(T (k+1)).heap=(T k).heap++bs:=λk q hle=>by
  by_cases e:fl.getD k 0<=1
  .exact⟨[],by rw[E k q e];simp⟩
  .rcases(hT k _ (jA q)).2 with⟨_,d,hfk⟩|⟨_,_,hh,hz⟩
   .exact uz (pf:=pf) (by rw[<-hfk];omega) d
   .omega
 have hnone:∀k,¬(k<ops.size/\(Array.replicate ops.size U).getD k J=J):=λk hL=>by have hL2:=hL.2;rw[D k hL.1]at hL2;cases hL2
 refine Lk (V:=λk=>Classical.choose (hV k)) N hF hord hT hfl hspe hrd ops.size (Nad ops.size) yB _ _ _ g3 a _ yB (λk q _=>by simpa using q) (λj o e y hl=>?_) ?_
  (vm (λk k1 k2=>hlong k y9 (hb0.2.2.1 k k1 k2)) (λk k1 k2 k3=>E k y9 y9) hb0 (λk k1=>absurd k1 (bY _)) λk _ _ _=>hnone k) hst3 λg' a' w' he hf hs hd=>?_
 .rw[D j (aA.1 y).1]at hl;cases hl
 .exact⟨rfl,λt ht=>⟨λk o _ hL _=>absurd hL (hnone k),λ_=>rfl⟩⟩
 .rw[t2]at hs hf;have hf':=hf3.trans hf;have he':=(he3.less hst'.base).trans he (j7 _);rw[t1]at hf';exact hQ g' a' w' ⟨he'.S,he'.cell,he'.fg,he'.own⟩ ⟨hf'.size,hf'.ey,hf'.e8,hf'.pd⟩ hs (Df.same hd)
end
section
variable{P:fL}{X N Nb:Nat}{w0:fK}{S0:Nat->Nat->Prop}{g:Gh}{H H':List fU}{w:fK}{p:PV}{o:Oper}{a:Act}{D:fO->PV}{pf:fM->Bool}{call:gO}{h:Hint}{F:Fence}{m:Nat}
theorem qZ.flat{e:fN}{cs:List PV}{v0:fP}(h:qZ P g N X w e cs v0)(d:cs.all PV.flat=J):(cs=[]/\(v0=.slice Z 0 0\/∃a,v0=.slice (O a) 0 0))\/
  ∃b n cap cur,v0=.slice (O ⟨b,0,Z⟩) n cap/\0<cap/\X<=b/\w.heap[b]?=O (.cells cur e (0,0))/\(∃size,gq P e=O size/\0<size/\cur.size=cap*size)/\(I cs<=cur.size/\cs.all PV.flat=J)/\cap<=maxLen/\cap<=cur.size/\(∀o,¬g.S b o)/\
   ∀(j:Nat) v c,cur[j]?=O v->cs[j]?=O c->fW g N w v c:=by
 rcases h with h|h|h
 .exact .inl h
 .exact .inr h
 .cases cs with
  |nil=>
   obtain⟨b,n,cap,cur,size,ds,rfl,h0,l,m,p,q,u,r,f,s,k,t,x⟩:=h;exact .inr ⟨b,n,cap,cur,rfl,h0,l,m,⟨size,p,by omega,k⟩,⟨zQ _,rfl⟩,s,by rw[k];exact aQ _ y9,t,λj v c _ h=>by simp at h⟩
  |cons c cs=>
   simp only[bH,jE]at d;exact absurd (by simp[d.1]) (h.px 0)
theorem vY{c:PV}{d:fS}(hc:c.flat=J)(h:iw H c=O (d,H')):d.ez=J:=by
 cases c with
 |b7 j=>
  simp only[iw,j9,jI]at h;obtain⟨rfl,_⟩:=h;cases j<;>first|rfl|(simp[PV.flat]at hc)
 |vec t es=>
  simp only[iw,j9,jI]at h;obtain⟨rfl,_⟩:=h;rfl
 |ms t g lo len cap=>
  simp only[iw]at h;split at h
  .rename_i j e g' cs f V;simp only[j9,jI]at h;obtain⟨rfl,_⟩:=h;simp only[gH,V]at f;split at f
   .rw[jK]at f;obtain⟨ds,_,f⟩:=f;split at f
    .cases f;rfl
    .cases f
   .cases f
  .cases h
 |_=>simp[iw]at h
theorem qQ:∀(cs:List PV) (H:List fU) (ds:List fS) (H':List fU),cs.all PV.flat=J->gy H cs=O (ds,H')->ds.all fS.ez=J
 |[],H,ds,H',_,h=>by simp only[gy,j9,jI]at h;obtain⟨rfl,_⟩:=h;rfl
 |c::cs,H,ds,H',hc,h=>by
  simp only[bH,jE]at hc;simp only[gy]at h;split at h
  .rename_i d H1 e;split at h
   .rename_i ds' H2 f;simp only[j9,jI]at h;obtain⟨rfl,_⟩:=h;simp only[bH,jE];exact⟨vY hc.1 e,qQ cs H1 ds' H2 hc.2 f⟩
   .cases h
  .cases h
theorem uN{ds:List fS}(h:ds.all fS.ez=J):(ds.map PV.b7).all PV.flat=J:=by rw[aV,j8];intro d c;have:=an.1 h d c;cases d<;>first|rfl|(simp[fS.ez]at this)
theorem HS{t:Nat}{ds:List fS}(hc:uj H t=O (ds,H'))(y:Qu P g X (I H) H w)(hi:Inv X w0 S0 g w):
  ∃g',I H'=I H/\Ext (I H) g w g' w/\Qu P g' X (I H) H' w/\Inv X w0 S0 g' w/\Fr g H w g' H' w/\∃e gg cs,ga H t=O (e,gg,cs)/\ga H' t=O (e,gg,ds.map .b7)/\ds.all fS.ez=J:=by
 unfold uj at hc;split at hc
 case h_2=>cases hc
 rename_i e gg cs V;split at hc
 .rename_i z;cases hc
  have:cs=[]:=by simpa using z
  subst this;exact⟨g,rfl,Ext.refl _ _ _,y,hi,Fr.refl _ _ _,e,gg,[],V,V,rfl⟩
 split at hc
 case isFalse=>cases hc
 rename_i A q;split at hc
 case h_2=>cases hc
 rename_i ds' H1 r;split at hc
 case h_2=>cases hc
 rename_i e' g' B C;split at hc
 case isFalse=>cases hc
 rename_i W;obtain⟨rfl,rfl⟩:=W;cases hc;have N:=ZO V;simp only at N;obtain⟨v0,k1,k2⟩:=y.mt t _ _ _ N;rcases k2.flat q with⟨hn,_⟩|⟨b,n,cap,cur,rfl,q0,q1,q2,q3,q4,q5,q6,q7,Y⟩
 .subst hn;simp at A
 obtain⟨g1,l1,Q,l,D,f1,l2,r1⟩:=mW (P:=P) (w0:=w0) (S0:=S0) cs cur.toList g H ds H1 y hi (λj v c hv hc=>Y j v c (by simpa using hv) hc) r;have s:=qQ cs H ds H1 q r;have f:=ZO C;simp only at f;have k:t<I H1:=(af.1 f).1;have E:t<I H:=by omega
 obtain⟨v1,R,j2⟩:=l.mt t _ _ _ f;obtain⟨v2,n2,o1,o2,o3⟩:=Q.own t E _ _ k1;rw[R]at o1;simp only[j9,jI]at o1;obtain⟨rfl,rfl⟩:=o1;obtain rfl:=o3 rfl
 have F:∀o,¬g1.S b o:=by
  rcases j2 with⟨_,h|⟨x,h⟩⟩|⟨b',_,_,_,h,_,_,_,_,_,_,_,G,_⟩|⟨b',_,_,_,_,_,h,_,_,_,_,_,_,_,_,_,_,G,_⟩
  .cases h
  .cases h;omega
  .cases h;exact G
  .cases h;exact G
 have K:Ext (I H) g1 w g1 w:=Ext.refl _ _ _
 have p:e8 g1 (H1.set t (.mt e' g' (ds.map .b7))) t=e8 g1 H1 t:=by rw[iO f,iO (e:=e') (n:=g') (cs:=ds.map .b7) (by simp[k])]
 refine⟨g1,by simp[l1],Q,?_,D,f1.trans ⟨j7 _,λ_ _ _=>rfl,λi b m _=>?_,λb o h=>.inl h⟩,e',g',cs,V,by simp[ga,k,fU.ga],s⟩
 .refine l.nb K (j7 _) y9 _ k (λ_ _ _ _=>rfl) (λ_ _ _ _ _ h=>h) (λ_ _ _=>rfl) (λB hc=>by cases hc) (λ_ _ h=>by cases h) (λi b L M h=>?_) (λe2 n2 cs2 hc=>?_) (hmt0:=λ_ _ hc=>by cases hc;exact l.xb _ _ _ f)
  .rw[p]at h;exact L (l.sep i _ _ M h)
  .cases hc;refine⟨_,R,.inr (.inl ⟨b,n,cap,cur,rfl,q0,q1,q2,q3,⟨by rw[jZ,l2];exact q4.1,uN s⟩,q5,q6,F,λj v c a1 u=>?_⟩)⟩;rw[jD,j5]at u;obtain⟨d,u,rfl⟩:=u;exact .b7 _ _ (r1 j v d (by simpa using a1) u)
 .refine⟨i,?_⟩;by_cases T:i=t
  .subst T;rw[p]at m;exact m
  .unfold e8 at m |-
   rwa [dI (λh=>T h.symm)]at m
theorem KI{t:fN}{f:Array (Nat×Operand)}{z:fS}{n:Nat->Option (Nat×Nat)}{cs:List PV}{k:Nat}(y:o.op=.build t f)(A:gB P t=O z)(p:s7 P t=O n)(B:lN n (z.cells.map PV.b7) (f.toList.map λ(i,x)=>(i,(D x).cells))=O cs)(l:f.toList.all (λ(_,x)=>(D x).cells.all PV.cell)=J)(q:l5 n k f.toList=J)(r:cs[k]?=O (.b7 (.ew [])))(M:Nai g H w a D):
  ∃vals:Array Value,gN P o a w (.agg vals) w/\vals.size=I cs/\vals[k]?=O (.slice Z 0 0)/\∀(j:Nat) v c,vals[j]?=O v->cs[j]?=O c->fW g (I H) w v c:=by
 obtain⟨i,C,E,F,G,K,_⟩:=iS A;obtain⟨L,Q⟩:=(G w g.S).cells;have m:∀i x,(i,x)∈f.toList->D x≠.undef:=λi x R=>kG (by have:=an.1 l (i,x) R;exact this)
 obtain⟨vals,T,W,f3,X,Y⟩:=BO (a:=a) (D:=D) f.toList C.cells _ _ B (by simpa using L) (λj v c g1 u=>by simp only[jD,j5]at u;obtain⟨d,s,rfl⟩:=u;exact fW.b7 (N:=I H) _ _ (Q j v d g1 s)) M m
 refine⟨vals,.inl ?_,W,?_,X⟩
 .have hb:=run_build (P:=P) w t (f.map λ(i,x)=>(i,a.eval x)) vals (by rw[qX p E F];simpa using T);simp only[execOp,y,Sem.run_bind];rw[hb];rfl
 .obtain⟨u1,u2⟩:=Y k q;rw[u1];rw[u2]at r;simp only[jD,j5]at r;obtain⟨d,s,e⟩:=r;cases e;exact K k s
theorem Fw{t h:Nat}{k:Nat}{r:fN}{d:Array (Nat×Operand)}{z:fS}{s:Nat->Option (Nat×Nat)}{cs l:List PV}{ds:List fS}{H1:List fU}{e:fN}{gg:Nat}(Q:o.op=.build r d)(R:gB P r=O z)(u:s7 P r=O s)(S:lN s (z.cells.map PV.b7) (d.toList.map λ(i,x)=>(i,(D x).cells))=O cs)(m:d.toList.all (λ(_,x)=>(D x).cells.all PV.cell)=J)(y:l5 s k d.toList=J)(L:cs[k]?=O (.b7 (.ew [])))(f:uj H t=O (ds,H1))(V:ga H1 h=O (e,gg,l))(T:Qu P g X (I H) H w)(hi:Inv X w0 S0 g w)(M:Nai g H w a D):
  sE P X w0 S0 H g w o a (ls (cs.set k (.ms h (gg+1) 0 0 0))) (H1.set h (.mt e (gg+1) [])):=by
 obtain⟨vals,W,Y,r3,r4⟩:=KI Q R u S m y L M;obtain⟨g1,l1,e1,n,A,f1,_⟩:=HS f T hi;have B:=ZO V;simp only at B;have C:h<I H1:=(af.1 B).1;rw[<-l1]at n;obtain⟨e2,E,F,f2⟩:=B1 B n A;have p:Ext (I H) g w (g1.ma H1 h gg (mN l)) w:=e1.trans e2 y9;have G:k<I cs:=(af.1 L).1;refine⟨.agg vals,_,w,W,⟨p,by simp[l1],?_,by simpa using E,F,f1.trans f2⟩⟩;refine fW.ls (by simpa using Y) λj v c K q=>?_
 rw[zF]at q;by_cases N:k=j
 .subst N;rw[aj rfl,aj G]at q;cases q;rw[r3]at K;cases K;exact .ms _ _ _ _ _ _ (.slice Z 0 0) (gg+1) (by simpa using C) (by simp[Gh.ma]) (j7 _) (λ_=>⟨rfl,.inl rfl⟩) ⟨Z,0,rfl,j7 _,j7 _,λh=>absurd h (zA _)⟩
 .rw[ae N]at q;exact(r4 j v c K q).ext p (by simp[l1])
theorem ES{t e:fN}{size:Nat}{c:Array (Nat×Operand)}{x:fO}(A:o.op=.buildSlice t 1 c)(B:c.toList=[(0,x)])(C:fV P t=O e)(r:gq P e=O size)(l:(gB P e).isSome=J)(hl:(D x).cells.length=size)(hc:(D x).cells.all PV.cell=J)(h0:0<size)(E:size<=16777216)(F:Qu P g X (I H) H w)(hi:Inv X w0 S0 g w)(M:Nai g H w a D):
  sE P X w0 S0 H g w o a (.arr (I H) 0 1 1) (H++[.box (D x).cells]):=by
 obtain⟨z,l⟩:=aC.1 l;obtain⟨s,m,u,G,_⟩:=iS l;have f:s.size=size:=by simp only[gq,u,jN,j9]at r;exact r
 obtain⟨c1,c2⟩:=(M x).cells (kG hc)
 obtain⟨vals,K,L,Q,_⟩:=nh (size:=size) [(0,a.eval x)] 0 ((Array.range (1*size)).map (m.cells[· %m.cells.size]!)) (λi q h=>by
  cases i with
  |zero=>simp at h;subst h;exact⟨rfl,by rw[c1,hl]⟩
  |succ i=>simp at h) yB
 have n:vals.size=size:=by rw[L];simp
 have R:(Instr.buildSlice t 1 (c.map λ(i,x)=>(i,a.eval x))).run P w=.ok (.slice (O ⟨w.heap.size,0,Z⟩) 1 1) (w.alloc (.cells vals e)):=by refine run_buildSlice w t e 1 _ vals s m (Q0 C) u G (by rw[f];omega) (by rw[f];omega) ?_;rw[f];simpa[B]using K
 have k:=tX (P:=P) (S0:=S0) (w0:=w0) F hi vals e (D x).cells (by rw[n,hl]) (λj v d g1 y=>by
  have S:j<size:=by rw[<-hl];exact(af.1 y).1
  have p:=Q 0 j (0,a.eval x) rfl S;simp only[zY,eK,zZ]at p;rw[g1]at p;exact c2 j v d p.symm y)
 refine⟨.slice (O ⟨w.heap.size,0,Z⟩) 1 1,g.box (I H) w.heap.size,w.alloc (.cells vals e),.inl (by simp[execOp,A,R]),k.ext,k.len,?_,k.heap,k.inv,k.fr⟩;have:=fW.arr (g:=g.box (I H) w.heap.size) (N:=I (H++[fU.box (D x).cells])) (w:=w.alloc (.cells vals e)) (I H) 0 1 1 ⟨by simp,.inl rfl⟩ (j7 _)
 rwa [show(g.box (I H) w.heap.size).fg (I H)=w.heap.size by simp[Gh.box]]at this
theorem zq{e bytes size tt gg len cap i:Nat}{x s:fO}{ts:fN}{cs f:List PV}(ho:o.op=.call {callee:=.builtin .append,args:=#[s,x],argTypes:=#[ts,ts]})(K:fV P ts=O e)(hs:gq P e=O size)(hb:bytesOf P e=O bytes)(hz:(gB P e).map fS.num=O size)(h0b:0<bytes)(h0:0<size)(hsv:D s=.ms tt gg 0 len cap)(hxv:D x=.arr i 0 1 1)(V:ga H tt=O (e,gg,cs))(hbx:H[i]?=O (.box f))(hcl:I cs=len*size)(hcf:cs.all PV.flat=J)(N:I f=size)(hpc:f.all PV.cell=J)(k:(len+1)*bytes<=jd)(hH:Qu P g X (I H) H w)(hi:Inv X w0 S0 g w)(M:Nai g H w a D):
  sE P X w0 S0 H g w o a (.ms tt (gg+1) 0 (len+1) (len+1)) (H.set tt (.mt e (gg+1) (cs++f))):=by
 simp only[j5]at hz;obtain⟨z,hz,hzn⟩:=hz;obtain⟨ie,F,i1,i2,i3,_⟩:=iS hz;have Q:ie.size=size:=by simp only[gq,i1,jN,j9]at hs;exact hs
 have hby:ie.bytes=bytes:=by simp only[bytesOf,i1,jN,j9]at hb;exact hb
 have l:=nk hpc;obtain⟨x1,⟨vals,ty,x2,x3,x4⟩,x5⟩:=hH.box i f hbx;have hxr:=M x;rw[hxv]at hxr
 have R:a.eval x=.slice (O ⟨g.fg i,0,Z⟩) 1 1:=by generalize a.eval x=u at hxr;cases hxr;rfl
 have m:∀(j:Nat) u,vals.toList[j]?=O u->w.cell? ((⟨g.fg i,0,Z⟩:Addr).add j)=O u:=λj u hu=>by rw[jm,zZ,cell_of_row w _ _ vals _ (0,0) x2];simpa using hu
 have T:I vals.toList=1*ie.size:=by simp[Q,x3,N]
 have p:∀(j:Nat) u c,vals.toList[j]?=O u->f[j]?=O c->fW g (I H) w u c:=λj u c h1 h2=>x4 j u c (by simpa using h1) h2
 have hone:∀u∈vals.toList,u.oneCell'=J:=λu hu=>by
  obtain⟨j,hj⟩:=aT hu;have hl:j<I f:=by rw[<-x3];simpa using(af.1 hj).1
  exact lZ (p j u _ hj (jC hl)) (an.1 hpc _ (zD hl))
 have q:I vals.toList=I f:=by simp[x3]
 have r:=M s;rw[hsv]at r;generalize hvs:a.eval s=vs at r
 have W:∀v w',(Builtin.append_ #[ts,ts] o.type #[vs,a.eval x]).run P w=.ok v w'->gN P o a w v w':=λv w' G=>by left;simp[execOp,ho,resolve,invoke,builtin,hvs,G]
 have y:=ZO V;simp only at y;have hL:(len+1)*size=I cs+I f:=by rw[hcl,N,av,bA]
 have hlb:len+1<=jd:=jX (aQ _ h0b) k;have A:len+1<=maxLen:=by simp only[jd]at hlb;simp only[maxLen];omega
 have h63:((len+1:Nat):Int)<=9223372036854775807:=by simp only[jd]at hlb;omega
 have hzs:∀n,(Builtin.zeroCells F.cells n).size=n*size:=λn=>by
  have:=size_zeroCells F.cells n
  have hzz:F.cells.size=size:=by obtain⟨y1,_⟩:=(i3 w g.S).cells;rw[y1,<-fS.im,hzn]
  rw[this,hzz]
 cases r with
 |ms _ _ _ _ _ v v0 mm k1 k2 k3 k4 k5=>
  obtain⟨v1,j1,j2⟩:=hH.mt tt _ _ _ y;have t:=k2;rw[k2]at j1;simp only[j9,jI]at j1;obtain⟨rfl,rfl⟩:=j1;obtain⟨hv,hbase⟩:=k4 rfl;rcases j2.flat hcf with⟨hnil,hv0⟩|⟨b,l',d,cur,rfl,q0,q1,q2,⟨sz,q3,q3p,q6⟩,q4,q5,q6',q7,q8⟩
  .subst hnil
   obtain rfl:len=0:=by
    cases len with
    |zero=>rfl
    |succ n=>simp only[jL,av,bA]at hcl;omega
   rcases hv0 with rfl|⟨a0,rfl⟩
   .have G:=run_append_nil (P:=P) w ts o.type e ie F (Q0 K) i1 i2 ⟨g.fg i,0,Z⟩ 1 1 vals.toList T m yD yD (by rw[hby];simp only[jd]at k;omega);have B:=grownCap_ge w 1 0 e;have C:=grownCap_le_maxLen w 1 0 e (by simpa using A)
    obtain⟨g',hg⟩:=wj (P:=P) (S0:=S0) (w0:=w0) (L:=1) (size:=size) (olds:=[]) (zs:=Builtin.zeroCells F.cells (grownCap w 1 0 e - 1)) (cap:=grownCap w 1 0 e) y t hs h0 (by simpa using hL) B rfl l C y9 rfl q
     (by rw[hzs,fH];simp[N]) (λj u c h=>by simp at h) p hH hi (vals.toList.toArray++Builtin.zeroCells F.cells (grownCap w 1 0 e - 1)) yB
    exact⟨_,g',_,W _ _ (by rw[R,hv];exact G),by simpa using hg⟩
   .have Y:vs=.slice (O (a0.add 0)) 0 0:=by rw[hv];simp[iK]
    have G:=run_append_grow (P:=P) w ts o.type e ie F (Q0 K) i1 i2 (a0.add 0) 0 0 [] yB (λj v h=>by simp at h) ⟨g.fg i,0,Z⟩ 1 1 vals.toList T m y9 yD (growslice_fits y9 (by rw[hby];simpa[jd]using k));have B:=grownCap_ge w (0+1) 0 e;have C:=grownCap_le_maxLen w (0+1) 0 e (by simpa using A)
    obtain⟨g',hg⟩:=wj (P:=P) (S0:=S0) (w0:=w0) (L:=0+1) (size:=size) (olds:=[]) (zs:=Builtin.zeroCells F.cells (grownCap w (0+1) 0 e - (0+1))) (cap:=grownCap w (0+1) 0 e) y t hs h0 (by simpa using hL) B rfl l C y9 rfl q
     (by rw[hzs,fH];simp[N]) (λj u c h=>by simp at h) p hH hi _ rfl
    exact⟨_,g',_,W _ _ (by rw[R,Y];exact G),hg⟩
  .rw[hs]at q3;cases q3;have Y:vs=.slice (O ⟨b,0,Z⟩) len d:=by rw[hv];simp[iK,Addr.add]
   by_cases E:len+1<=d
   .have hLc:(len+1)*size<=d*size:=au _ E;have G:=run_append_room (P:=P) w ts o.type e ie (Q0 K) i1 b len d cur q2 ⟨g.fg i,0,Z⟩ 1 1 vals.toList T m hone E (by rw[Q,q];omega);rw[Q,<-hcl]at G;obtain⟨g',hg⟩:=CX (P:=P) (S0:=S0) (w0:=w0) (L:=len+1) y t rfl q0 q1 q2 hs h0 hL hcf q5 q6 q7 q8 q l E p hH hi;exact⟨_,g',_,W _ _ (by rw[R,Y];exact G),hg⟩
   .have holds:∀(j:Nat) v,(cur.toList.take (I cs))[j]?=O v->w.cell? ((⟨b,0,Z⟩:Addr).add j)=O v:=λj v h=>by
     rw[jR]at h;split at h
     .rw[jm,zZ,cell_of_row w _ _ cur _ (0,0) q2];simpa using h
     .cases h
    have G:=run_append_grow (P:=P) w ts o.type e ie F (Q0 K) i1 i2 ⟨b,0,Z⟩ len d (cur.toList.take (I cs)) (by rw[Q];simp;omega) holds ⟨g.fg i,0,Z⟩ 1 1 vals.toList T m y9 h63 (growslice_fits y9 (by rw[hby];simpa[jd]using k));have B:=grownCap_ge w (len+1) d e;have C:=grownCap_le_maxLen w (len+1) d e A
    obtain⟨g',hg⟩:=wj (P:=P) (S0:=S0) (w0:=w0) (L:=len+1) (size:=size) (olds:=cur.toList.take (I cs)) (zs:=Builtin.zeroCells F.cells (grownCap w (len+1) d e - (len+1))) (cap:=grownCap w (len+1) d e) y t hs h0 hL B hcf l C y9 yA q
     (by rw[hzs,fH,hL]) (λj u c g1 g2=>by
      rw[jR]at g1;split at g1
      .exact q8 j u c (by simpa using g1) g2
      .cases g1) p hH hi _ rfl
    exact⟨_,g',_,W _ _ (by rw[R,Y];exact G),hg⟩
theorem Fh(size len:Nat)(ds:List fS):I (mC size len ds)=len:=by simp[mC]
theorem xk{size len i:Nat}{ds:List fS}{d:fS}(h:(mC size len ds)[i]?=O d):i<len/\d=.agg ((ds.drop (i*size)).take size):=by simp only[mC,jD,j5]at h;obtain⟨j,f,rfl⟩:=h;obtain⟨c,e⟩:=af.1 f;simp at c e;exact⟨c,by rw[<-e]⟩
theorem Eh{t gg len cap size:Nat}{x:fO}{e:fN}{ds:List fS}{B:List PV}{H1:List fU}(ho:o.op=.move x)(hx:D x=.ms t gg 0 len cap)(k:uj H t=O (ds,H1))(V:ga H1 t=O (e,gg,B))(hs:gq P e=O size)(h1:1<size)(hl:I ds=len*size)(hH:Qu P g X (I H) H w)(hi:Inv X w0 S0 g w)(M:Nai g H w a D):
  sE P X w0 S0 H g w o a (.b7 (.ew (mC size len ds))) (H1.set t (.mt e (gg+1) [])):=by
 obtain⟨g1,l1,W,l,C,f1,e',gg',cs,q1,q2,q3⟩:=HS k hH hi;rw[V]at q2;simp only[j9,jI]at q2;obtain⟨rfl,rfl,rfl⟩:=q2;have A:=ZO V;simp only at A;have Y:=M x;rw[hx]at Y;have m:=Y.ext W (j7 _);rw[<-l1]at l m;obtain⟨e2,E,F,f2⟩:=B1 A l C;refine⟨a.eval x,_,w,.inl (by simp[execOp,ho]),⟨W.trans e2 y9,by simp[l1],.b7 _ _ ?_,by simpa using E,F,f1.trans f2⟩⟩;generalize a.eval x=v at m;cases m with
 |ms _ _ _ _ _ v v0 mm k1 k2 k3 k4 k5=>
  obtain⟨v1,G,j2⟩:=l.mt t _ _ _ A;have q:=k2;rw[k2]at G;simp only[j9,jI]at G;obtain⟨rfl,rfl⟩:=G;obtain⟨K,L⟩:=k4 rfl;rcases j2.flat (uN q3)with⟨r,N⟩|⟨b,l',c,cur,rfl,q0,q1,q2,⟨sz,r3,r3p,q6⟩,q4,q5,q6',q7,q8⟩
  .have s:ds=[]:=by simpa using r
   subst s
   obtain rfl:len=0:=by
    cases len with
    |zero=>rfl
    |succ n=>simp only[jL,av,bA]at hl;omega
   rcases N with rfl|⟨a0,rfl⟩
   .rw[K];exact .nil
   .rw[K];exact .empty _ _
  .rw[hs]at r3;cases r3;obtain⟨a9,c9,e9,_,Q,_⟩:=k5;have y:v=.slice (O ⟨b,0,Z⟩) len c:=by rw[K];simp[iK,Addr.add]
   rw[y]at e9;cases e9;have R:=xC (uN q3);rw[jZ]at R;have hcl:len*size<=cur.size:=by have:=q4.1;rw[jZ]at this;omega
   rw[y];refine .ew b 0 len c size (mC size len ds) (λj=>cur.getD j undef) (Fh _ _ _).symm Q (λd s=>?_) (λj hj=>?_) (λS j d u s p=>?_)
   .obtain⟨i,T⟩:=aT s;obtain⟨z1,rfl⟩:=xk T
    have:(i+1)*size<=len*size:=au _ z1
    rw[av,bA]at this;simp[fS.num];omega
   .have z:j<cur.size:=by omega
    refine⟨?_,.inr ⟨?_,by omega⟩⟩
    .rw[zZ,cell_of_row w _ _ cur _ (0,0) q2,jH,jA z];rfl
    .rw[iO A,q];simp[gh];omega
   .obtain⟨z1,rfl⟩:=xk s;simp only[fS.cells]at p;rw[jR]at p;split at p
    .rename_i hj;rw[zJ]at p;have z:S*size+j<I ds:=(af.1 p).1;have f:S*size+j<cur.size:=by omega
     have:=((q8 (S*size+j) _ _ (jA f) (by rw[jD,p];rfl)).hX).ext e2
     simpa[jH,jA f]using this
    .cases p
theorem wg{s:fN}{x:fO}{f:Nat}{fs:List Field}{c:Field}{k t gg j:Nat}{e:fN}{cs:List PV}(r:o.op=.fieldAddr s x f)(d:fieldsOf P s=O fs)(m:fs[f]?=O c)(u:gq P c.type=O (k+1))(y:D x=.mp t gg j)(V:ga H t=O (e,gg,cs))(p:Qu P g X (I H) H w)(hi:Inv X w0 S0 g w)(M:Nai g H w a D):
  sE P X w0 S0 H g w o a (.mp t gg (j+c.offset)) H:=by
 have h:=M x;rw[y]at h;generalize z:a.eval x=v at h;cases h with
 |mp _ _ _ v v0 n A q B C F=>
  obtain⟨G,k1,_⟩:=p.mt t _ _ _ (ZO V);rw[q]at k1;simp only[j9,jI]at k1;obtain⟨rfl,rfl⟩:=k1;obtain⟨b',l,cap,E,rfl⟩:=C rfl;exact⟨_,g,w,.inl (pA r d m u z),.same p hi (.mp _ _ _ _ v0 _ A q B (λ_=>⟨b',l,cap,E,rfl⟩) ⟨_,rfl⟩)⟩
theorem Kc{l:List Nat}(v:Qu P g X (I H) H w)(hi:Inv X w0 S0 g w)(M:Nai g H w a D)(d:kJ P l o D H=O (p,H')):sE P X w0 S0 H g w o a p H':=by
 unfold kJ at d;split at d
 .rename_i s x f r;split at d
  .rename_i fs y;split at d
   .rename_i fd A;split at d
    .rename_i k t gg j B C;split at d
     .rename_i e g' cs V;split at d
      .rename_i Y;subst Y;cases d;exact wg r y A B C V v hi M
      .cases d
     .cases d
    .cases d
   .cases d
  .cases d
 .rename_i t hh k ty u r;split at d
  .rename_i cs ds H1 q m;split at d
   .rename_i e gg E V;cases d;unfold BG at q;split at q
    .rename_i z pl hz F;split at q
     .rename_i cs1 hf;split at q
      .rename_i hc;split at q
       .rename_i B;cases q;exact Fw r hz F hf hc.1 hc.2 B m V v hi M
       .cases q
      .cases q
     .cases q
    .cases q
   .cases d
  .cases d
 .rename_i ty len u r;split at d
  .rename_i e x G hp;split at d
   .rename_i size n;split at d
    .rename_i hc;obtain⟨rfl,c1,c2,K,L,N⟩:=hc;cases d;exact ES r hp G n c1 c2 K L N v hi M
    .cases d
   .cases d
  .cases d
 .rename_i c r;obtain⟨callee,args,ts⟩:=c;simp only at d;split at d
  .rename_i t T tt gg lo len cap i W h3;split at d
   .rename_i e e' g' cs pcs G V Q;split at d
    .rename_i size bytes n R;split at d
     .rename_i hc;obtain⟨⟨rfl,c1,c2⟩,⟨K,rfl,rfl,rfl⟩,⟨L,N⟩,⟨c6,c7⟩,c8⟩:=hc;cases d;obtain⟨s',x',rfl,k1,k2⟩:=tz h3
      have S:ts=#[T,T]:=by obtain⟨l⟩:=ts;simp only at W;rw[W]
      subst S;exact zq r G n R c2 c1 K k1.symm k2.symm V Q L N c6 c7 c8 v hi M
     .cases d
    .cases d
   .cases d
  .cases d
 .rename_i x r;split at d
  .rename_i t gg lo len cap C;split at d
   .rename_i ds H1 m;split at d
    .rename_i e g' E V;split at d
     .rename_i size n;split at d
      .rename_i hc;obtain⟨rfl,rfl,c1,c2⟩:=hc;cases d;exact Eh r C m V n c1 c2 v hi M
      .cases d
     .cases d
    .cases d
   .cases d
  .cases d
 .cases d
theorem zj{l:List Nat}(d:kJ P l o D H=O (p,H')):∀c,o.op≠.defer c:=λc e=>by
 unfold kJ at d;split at d
 all_goals first
  |(rename_i f;rw[f]at e;cases e;done)
  |cases d
theorem np(s:sP F)(d:km P pf call){r:Nat}{ops:Array Oper}{fl:List (Nat×List Nat)}{Q:Exit->Act->fK->Prop}:∀(os:List Oper) (i:Nat) (st st':St) (g:Gh) (a:Act) (w:fK),
  lQ P call h r ops fl i os st=O st'->(∀j,os[j]?=ops[i+j]?)->lU P X w0 S0 Nb g st a w->
  (∀g' a' w',Ext Nb g w g' w'->Fr g st.heap w g' st'.heap w'->lU P X w0 S0 Nb g' st' a' w'->a'.defers=a.defers->Q .normal a' w')->wpOpsIn F m P ops Q (List.range' i (I os)) a w
 |[],i,st,st',g,a,w,n,_,hst,t=>by cases n;exact t g a w (Ext.refl _ _ _) (Fr.refl _ _ _) hst rfl
 |o::os,i,st,st',g,a,w,n,hl,hst,t=>by
  have h0:ops[i]?=O o:=by simpa using(hl 0).symm
  have q:∀j,os[j]?=ops[i+1+j]?:=λj=>by have:=hl (j+1);rw[show i+1+j=i+(j+1) by omega];simpa using this
  simp only[zH,cn,wpOpsIn,h0];unfold lQ at n;split at n
  .rename_i L c;unfold pQ at c;split at c
   .unfold iW at c;split at c
    .rename_i hw;rw[kU hst.rep hw,aj rfl];split at c
     .rename_i v H k;cases c;refine uL s d k hst λu g' w' l=>?_
      refine np s d os (i+1) _ _ g' _ w' n q (hst.put l o.dst) λy z A B C e D=>?_
      exact t y z A ((l.ext.less hst.base).trans B (j7 _)) (l.fr.trans C) e (D.trans (ji _ _ _))
     .cases c
    .rename_i hw;rw[kU hst.rep hw];simp only[j6,ai];cases c;refine⟨λf _=>s.fn f,?_⟩;refine np s d os (i+1) _ _ g _ w n q ⟨hst.heap,hst.inv,hst.rep.put o.dst nT,hst.base⟩ λy z A B C e D=>?_
     exact t y z A B C e (D.trans (ji _ _ _))
    .cases c
   .split at c
    .rename_i G;have hw:gI ops st.b6 o=O J:=by simp[gI,G]
     rw[kU hst.rep hw,aj rfl];rw[j5]at c;obtain⟨⟨p,H'⟩,k,N⟩:=c;subst N;have M:∀x,fW g (I st.heap) w (a.eval x) (ev st.b6 x):=λx=>hst.rep.ev x
     refine⟨λf _=>s.fn f,?_⟩;rw[Oper.semAt_eq _ _ _ (zj k)]
     have fin:∀u g' w',Good P X w0 S0 st.heap g w p H' u g' w'->wpOpsIn F m P ops Q (List.range' (i+1) (I os)) (a.put o.dst u) w':=λu g' w' l=>by
      refine np s d os (i+1) _ _ g' _ w' n q (hst.put l o.dst) λy z A B C e D=>?_
      exact t y z A ((l.ext.less hst.base).trans B (j7 _)) (l.fr.trans C) e (D.trans (ji _ _ _))
     obtain⟨v,g',w',E,l⟩:=Kc (a:=a) hst.heap hst.inv M k;rcases E with K|⟨K,rfl⟩
     .rw[K];exact fin v g' w' l
     .rw[K];exact fin undef g' w' l
    .cases c
  .cases n
end
section
variable{P:fL}{X:Nat}{w0:fK}{S0:Nat->Nat->Prop}{Nb:Nat}{F:Fence}{m:Nat}{pf:fM->Bool}{hint:fM->Hint}{call:gO}{h:Hint}
theorem nq{b:Frame}{a:Act}{k:List Item}{cs:List Frame}{w:fK}{c:Code}:step P (lone (b.atR a (.code (.scope c)::k)) cs w)=.next (lone (b.atR a (.code c::.inScope c::k)) cs w):=
 step_lone_go (by simp[stepG,stepG.exec,Frame.atR])
theorem zh{b:Frame}{a:Act}{k:List Item}{cs:List Frame}{w:fK}{c:Code}:step P (lone (b.atR a (.inScope c::k)) cs w)=.next (lone (b.atR a k) cs w):=
 step_lone_go (by simp[stepG,stepG.exec,Frame.atR])
theorem Fk{n:Nat}{a:Act}{w:fK}{Q:Exit->Act->fK->Prop}{c:Code}(h:c.wpIn F n P (Exit.noGoto Q) a w):(Code.scope c).wpIn F n P Q a w:=by
 intro b k cs m p q;have h0:(lone (b.atR a (.code (.scope c)::k)) cs w).fenced P F:=fenced_calm p q rfl;obtain⟨e,f,g,j,d⟩:=h b (.inScope c::k) cs m p q;cases e with
 |normal=>exact⟨.normal,f,g,j,.head h0 nq (StepsIn.trans d (.one (fenced_calm p q rfl) zh))⟩
 |exit id=>exact⟨.exit id,f,g,j,.of_steps (.one h0 nq) ⟨λt r=>d.1 t (by simpa[exitTo]using r),λs r=>d.2 s (by simpa[exitTo]using r)⟩⟩
 |goto l=>exact j.elim
 |ret=>exact⟨_,f,g,j,.of_steps (.one h0 nq) d⟩
 |panic u=>exact⟨_,f,g,j,.of_steps (.one h0 nq) d⟩
 |outgrown=>exact⟨_,f,g,j,.of_steps (.one h0 nq) d⟩
theorem DB(G:km P pf call)(Y:u9 P call pf h):∀(n:Nat),
  (∀(D:Bool) (c:Code) (st st':St) (e:Ex),gC P call pf hint h D n c st=O (e,st')->Bo P call D c st e st')/\
  (∀(D:Bool) (b:Code) (h0:Nat) (st st':St) (e:Ex),gC.ploop P call pf hint h D b h0 n st=O (e,st')->h0<=I st.heap->
   ∀(X:Nat) (w0:fK) (S0:Nat->Nat->Prop) (g:Gh) (a:Act) (w:fK) (F:Fence) (m:Nat) (Q:Exit->Act->fK->Prop),sP F->(D=J->F=Fence.wide)->lU P X w0 S0 h0 g st a w->
    (∀g' a' w',Ext h0 g w g' w'->Fr g st.heap w g' st'.heap w'->lU P X w0 S0 h0 g' st' a' w'->Df a w a' w'->Q (zy e) a' w')->Code.roundsIn F m P b Q n a w):=by
 intro n;induction n with
 |zero=>exact⟨λD c st st' e k=>by simp[gC]at k,λD b h0 st st' e k=>by simp[gC.ploop]at k⟩
 |succ n ih=>
  obtain⟨q,ihl⟩:=ih;refine⟨λD c st st' e k=>?_,λD b h0 st st' e k hle=>?_⟩
  .intro X w0 S0 Nb g a w F m Q H t hst E;cases c with
   |skip=>simp only[gC,j9,jI]at k;obtain⟨rfl,rfl⟩:=k;exact wpIn_skip (E g a w (Ext.refl _ _ _) (Fr.refl _ _ _) hst (Df.same rfl))
   |region r ops draw=>
    cases draw
    .simp only[gC]at k;split at k
     .simp only[j5]at k;obtain⟨A,k,M⟩:=k;simp only[jI]at M;obtain⟨rfl,rfl⟩:=M;refine wpIn_region ?_;have:=np (Q:=Q) (m:=m) H G ops.toList 0 st A g a w k (λj=>by simp) hst λg' a' w' C B s1 d1=>E g' a' w' C B s1 (Df.same d1)
      rwa [bj,<-dJ]at this
     simp only[j5]at k;obtain⟨A,k,M⟩:=k;simp only[jI]at M;obtain⟨rfl,rfl⟩:=M;refine wpIn_region ?_;have:=pr (Q:=Q) (m:=m) H G ops.toList 0 st A g a w k (λj=>by simp) hst λg' a' w' C B s1 d1=>E g' a' w' C B s1 (Df.same d1)
     rwa [bj,<-dJ]at this
    .simp only[gC]at k;split at k
     .rename_i A fl M;split at k
      .rename_i ho;simp only[j9,jI]at k;obtain⟨rfl,rfl⟩:=k;exact Y r ops st A fl ho M X w0 S0 Nb g a w F m Q H (λh=>by cases h) hst E
      .cases k
     .cases k
   |seq x y=>
    simp only[gC]at k;refine wpIn_seq ?_;split at k
    .rename_i A M;refine q D x st A .normal M X w0 S0 Nb g a w F m _ H t hst λg1 K L C B d p=>?_
     exact q D y A st' e k X w0 S0 Nb g1 K L F m Q H t d λg2 a2 w2 e2 f2 R hd2=>E g2 a2 w2 (C.trans e2 (j7 _)) (B.trans f2) R (p.trans B.size d.heap f2 hd2)
    .rename_i S;refine q D x st st' e k X w0 S0 Nb g a w F m _ H t hst λg1 K L C B d p=>?_
     have:=E g1 K L C B d p;cases e with
     |normal=>exact absurd k (S st')
     |exit id=>exact this
     |ret=>exact this
   |cond x y z=>
    simp only[gC]at k;split at k
    .rename_i hb;exact wpIn_cond_true (oB (hst.rep.ev x) hb) (q D y st st' e k X w0 S0 Nb g a w F m Q H t hst E)
    .rename_i hb;exact wpIn_cond_false (oB (hst.rep.ev x) hb) (q D z st st' e k X w0 S0 Nb g a w F m Q H t hst E)
    .cases k
   |block id b=>
    simp only[gC]at k;refine wpIn_block ?_;split at k
    .rename_i id' A M;refine q D b st A _ M X w0 S0 Nb g a w F m _ H t hst λg1 K L C B d p=>?_
     split at k
     .rename_i hid;simp only[j9,jI]at k;obtain⟨rfl,rfl⟩:=k;have:=E g1 K L C B d p
      simpa[zy,Exit.inBlock,hid]using this
     .rename_i hid;simp only[j9,jI]at k;obtain⟨rfl,rfl⟩:=k;have:=E g1 K L C B d p
      simpa[zy,Exit.inBlock,hid]using this
    .rename_i S;refine q D b st st' e k X w0 S0 Nb g a w F m _ H t hst λg1 K L C B d p=>?_
     have:=E g1 K L C B d p;cases e with
     |normal=>exact this
     |exit id=>exact absurd k (S id st')
     |ret=>exact this
   |loop b=>
    simp only[gC]at k;refine wpIn_loop_rounds n ?_;refine ihl D b (I st.heap) st st' e k (j7 _) X w0 S0 g a w F m Q H t ⟨hst.heap,hst.inv,hst.rep,j7 _⟩ λg1 K L C B d p=>?_
    exact E g1 K L (C.less hst.base) B ⟨d.heap,d.inv,d.rep,jX hst.base d.base⟩ p
   |exit id=>simp only[gC,j9,jI]at k;obtain⟨rfl,rfl⟩:=k;exact wpIn_exit (E g a w (Ext.refl _ _ _) (Fr.refl _ _ _) hst (Df.same rfl))
   |label l=>simp only[gC,j9,jI]at k;obtain⟨rfl,rfl⟩:=k;exact wpIn_label (E g a w (Ext.refl _ _ _) (Fr.refl _ _ _) hst (Df.same rfl))
   |scope b=>
    simp only[gC]at k;refine Fk ?_;refine q D b st st' e k X w0 S0 Nb g a w F m _ H t hst λg1 K L C B d p=>?_
    have:=E g1 K L C B d p;cases e<;>exact this
   |ret=>simp only[gC,j9,jI]at k;obtain⟨rfl,rfl⟩:=k;exact wpIn_ret (E g a w (Ext.refl _ _ _) (Fr.refl _ _ _) hst (Df.same rfl))
   |rangeFunc f ps assign body=>
    simp only[gC]at k;split at k
    .rename_i hrgt;obtain rfl:=t hrgt;have N:=hst.rep.ev f;split at k
     .rename_i gf caps hx;rw[hx]at N;generalize hv:a.eval f=vf at N;cases N with
      |fn _ vs cs M h2=>
       exact D9 (λs e s' h=>q U assign s s' e h) (λs e s' h=>q U body s s' e h) G k hv M h2 hst λg' a' w' C B s1 d1=>E g' a' w' (C.less hst.base) B s1 d1
     .rename_i gf first cap hx
      rw[hx]at N;have hd:=N.hX;have hv:=N.e6 (u:=.func (.func gf) first cap) rfl;rw[hv]at hd;have T:kd (.func (.func gf) first cap)=J:=by cases hd;assumption
      simp only[kd,jE,cP]at T;obtain⟨rfl,rfl⟩:=T;exact D9 (λs e s' h=>q U assign s s' e h) (λs e s' h=>q U body s s' e h) G k hv rfl (λj v c h=>by simp at h) hst λg' a' w' C B s1 d1=>E g' a' w' (C.less hst.base) B s1 d1
     .cases k
    .cases k
   |_=>simp[gC]at k
  .intro X w0 S0 g a w F m Q H t hst E;rw[roundsIn_succ];simp only[gC.ploop]at k;obtain⟨g0,e0,f0,W⟩:=yc ((Zc b).bind h.i7) hst;split at k
   .rename_i A M;refine q D b _ A .normal M X w0 S0 h0 g0 a w F m _ H t W λg1 K L C B d p=>?_
    exact ihl D b h0 A st' e k d.base X w0 S0 g1 K L F m Q H t d λg2 a2 w2 e2 f2 R hd2=>E g2 a2 w2 ((e0.trans C (j7 _)).trans e2 (j7 _)) ((f0.trans B).trans f2) R (p.trans B.size d.heap f2 hd2)
   .rename_i S;refine q D b _ st' e k X w0 S0 h0 g0 a w F m _ H t W λg1 K L C B d p=>?_
    have:=E g1 K L (e0.trans C (j7 _)) (f0.trans B) d p;cases e with
    |normal=>exact absurd k (S st')
    |exit id=>exact this
    |ret=>exact this
end
def PV.out:PV->Bool
 |.b7 _=>J
 |.fz vs=>vs.all λ|.b7 _=>J|_=>U
 |.fn _ caps=>caps.all PV.still
 |_=>U
theorem fW.qs{g g':Gh}{N N':Nat}{w:fK}{v:fP}{p:PV}(h:fW g N w v p)(e:∀b o,g.S b o->g'.S b o)(l:p.out=J):fW g' N' w v p:=by
 cases h with
 |b7 v d m=>exact .b7 _ _ (m.mono e λ_ _ _=>rfl)
 |fz vs cs n q=>
  refine .fz _ _ n λj v c g1 k=>?_
  have V:=an.1 l c (jF k);cases c with
  |b7 d=>exact .b7 _ _ ((q j v _ g1 k).hX.mono e λ_ _ _=>rfl)
  |_=>simp at V
 |fn f vs cs n q=>
  refine .fn _ _ _ n λj v c g1 k=>?_
  have V:=an.1 l c (jF k);have r:=q j v c g1 k;cases r with
  |b7 v d m=>exact .b7 _ _ (m.mono e λ_ _ _=>rfl)
  |eI b o cs c k1 k2=>exact .eI b o cs c (λi hi=>⟨(k1 i hi).1,e _ _ (k1 i hi).2⟩) λi u s=>(k2 i u s).mono e λ_ _ _=>rfl
  |_=>simp[PV.still]at V
 |_=>simp[PV.out]at l
def od(P:fL)(f:fM)(ds:List fS)(p:PV):Prop:=
 ∀(w:fK) (S:Nat->Nat->Prop) (vals:Array Value),(∀b o,S b o->b<w.heap.size)->vals.size=I ds->(∀(j:Nat) v d,vals[j]?=O v->ds[j]?=O d->gL w S v d)->iU (gS S) w->
  Calls P f vals w λe w'=>∃v,e=.returned v/\Below w.heap.size w w'/\fW (gS λb o=>S b o\/(w.heap.size<=b/\b<w'.heap.size)) 0 w' v p
section
variable{P:fL}{X:Nat}{w0:fK}{S0:Nat->Nat->Prop}{g:Gh}{H H':List fU}{w:fK}{p:PV}
theorem fW.v8{N:Nat}{v:fP}{cs:List PV}(h:fW g N w v (.fz cs)):∃vs:Array Value,v=.tuple vs/\vs.size=I cs/\∀(j:Nat) u c,vs[j]?=O u->cs[j]?=O c->fW g N w u c:=by
 cases h with
 |fz vs cs d e=>exact⟨vs,rfl,d,e⟩
theorem zr{g':Gh}{N N':Nat}{w':fK}{v:fP}{p:PV}(h:fW g N w v p)(e:lX p=J):fW g' N' w' v p:=by
 cases p with
 |b7 d=>exact .b7 _ _ (oF h.hX e)
 |fz cs=>
  obtain⟨vs,rfl,k,l⟩:=h.v8;refine .fz _ _ k λj v c g1 f=>?_
  have V:=an.1 e c (jF f);cases c with
  |b7 d=>exact .b7 _ _ (oF (l j v _ g1 f).hX V)
  |_=>simp at V
 |_=>simp[lX]at e
def Ad(P:fL)(f:fM)(ds:List fS)(p:PV):Prop:=
 ∀(w:fK) (S:Nat->Nat->Prop) (vals:Array Value),(∀b o,S b o->b<w.heap.size)->vals.size=I ds->(∀(j:Nat) v d,vals[j]?=O v->ds[j]?=O d->gL w S v d)->iU (gS S) w->
  Calls P f vals w λe w'=>∃v,e=.returned v/\Below w.heap.size w w'/\fW (gS λb o=>w.heap.size<=b/\b<w'.heap.size) 0 w' v p
theorem vD{S g:Nat->Nat->Prop}{v:fP}{d:fS}(h:gL w S v d)(e:tB d=J):gL w g v d:=by
 cases h with
 |raw v h=>exact .raw v h
 |nil=>exact .nil
 |empty a cap=>exact .empty a cap
 |ew b off len cap k es c f j l m n=>
  have:es=[]:=by simpa[tB]using e
  subst this;simp at f;subst f;exact .empty _ _
 |agg=>simp[tB]at e
theorem Gb{S m:Nat->Nat->Prop}{v:fP}{d:fS}(h:gL w S v d)(g:Ni d=J):gL w m v d:=by
 cases h with
 |agg vs cs e f=>exact .agg vs cs e λj v c g1 l=>vD (f j v c g1 l) (an.1 g c (jF l))
 |raw v h=>exact .raw v h
 |nil=>exact .nil
 |empty a cap=>exact .empty a cap
 |ew b off len cap k es c e f n p q=>exact vD (.ew b off len cap k es c e f n p q) g
theorem yJ{S g:Nat->Nat->Prop}{v:fP}{d:fS}(h:gL w S v d)(l:yj (O d)=J)(n:∀b off len cap,v=.slice (O ⟨b,off,Z⟩) len cap->0<len->∀o,g b o):gL w g v d:=by
 cases h with
 |raw v h=>exact .raw v h
 |nil=>exact .nil
 |empty a cap=>exact .empty a cap
 |agg=>simp[yj]at l
 |ew b off len cap k es c p q r s t=>
  refine .ew b off len cap k es c p q r (λi hi=>⟨(s i hi).1,n b off len cap rfl ?_ _⟩) λi j d u g1 f=>?_
  .exact Nat.pos_of_ne_zero λe=>by subst e;simp at hi
  .have z:d.kd=J:=an.1 l d (jF g1);have m:=t i j d u g1 f;cases d with
   |raw x=>
    cases j with
    |zero=>
     simp[fS.cells]at f;subst f;generalize c (i*k+0)=y at m |-;cases m with
     |raw _ h=>exact .raw _ h
    |succ j=>simp[fS.cells]at f
   |_=>simp[fS.kd]at z
theorem AV{v:fP}{q:PV}{d:fS}(p:Qu P g X (I H) H w)(u:fW g (I H) w v q)(c:gH H q=O d)(e:mF H q=J):gL w (λb o=>X<=b/\b<w.heap.size) v d:=by
 have r:=oD p u c;cases q with
 |b7 E=>simp[gH]at c;subst c;exact Gb r e
 |arr i o len cap=>
  refine yJ r (by simp only[mF,c]at e;exact e) λb off f j x e7 B=>?_
  cases u with
  |arr _ _ _ _ hi hc=>
   cases x;simp only[gH]at c;split at c
   .rename_i cs y;have:=p.eM (iI (g:=g) y);exact⟨this.1,this.2.1⟩
   .cases c
 |ms t gg lo len cp=>
  refine yJ r (by simp only[mF,c]at e;exact e) λb off f j x e7 B=>?_
  cases u with
  |ms _ _ _ _ _ _ v0 n r A F C G=>
   simp only[gH]at c;split at c
   .rename_i te g' cs y;split at c
    .rename_i z;subst z;have k:=ZO y;obtain⟨K,k1,k2⟩:=p.mt t _ _ _ k;rw[A]at k1;simp only[j9,jI]at k1;obtain⟨rfl,rfl⟩:=k1;obtain⟨s,_⟩:=C rfl;subst x;rcases k2 with⟨rfl,hn⟩|⟨b',l,m,cur,rfl,q0,_⟩|⟨b',l,m,cur,size,ds,rfl,q0,_⟩
     .exfalso
      rw[jK]at c;obtain⟨ds,hc,_⟩:=c;rw[jK]at hc;obtain⟨D,hc,_⟩:=hc;have:=(lq hc).2.1;simp at this;rcases hn with rfl|⟨a,rfl⟩
      .simp[iK]at s
      .simp[iK]at s;omega
     all_goals
      simp only[iK,jm,Value.slice.injEq,j9,Addr.mk.injEq]at s;obtain⟨⟨rfl,_,_⟩,_,_⟩:=s;have:=p.eM (i:=t) (b:=b) (by rw[iO k,A];simp[gh];omega);exact⟨this.1,this.2.1⟩
    .cases c
   .cases c
 |_=>simp[mF]at e
theorem Au{v:fP}{q:PV}{d:fS}(f:Qu P g X (I H) H w)(k:fW g (I H) w v q)(c:ja H q=O d)(l:By H q=J):gL w (λb o=>X<=b/\b<w.heap.size) v d:=by
 cases q with
 |agg cs=>
  simp only[ja,j5]at c;obtain⟨ds,c,rfl⟩:=c;obtain⟨p1,n⟩:=lV _ _ c;cases k with
  |agg vs cs r p=>
   refine .agg _ _ y9 λj v d g1 m=>?_
   have e:j<I cs:=by rw[<-p1];exact(af.1 m).1
   have hc:cs[j]?=O cs[j]:=jC e;exact AV f (p j v _ g1 hc) (n j _ d hc m) (an.1 l _ (jF hc))
 |_=>exact AV f k c l
theorem DJ{v:fP}{q p:PV}(r:Qu P g X (I H) H w)(s:fW g (I H) w v q)(e:iq H q=O p)(k:lF H q=J):fW (gS λb o=>X<=b/\b<w.heap.size) 0 w v p:=by
 unfold iq at e;split at e
 .rename_i vs;simp only[j5]at e;obtain⟨ds,l,rfl⟩:=e;obtain⟨p1,z⟩:=kE _ _ l;obtain⟨us,rfl,t,x⟩:=s.v8;refine .fz _ _ yA λj u c g1 y=>?_
  simp only[jD,j5]at y;obtain⟨d,f,rfl⟩:=y;have m:j<I vs:=by rw[<-p1];exact(af.1 f).1
  have n:vs[j]?=O vs[j]:=jC m;exact .b7 _ _ (Au r (x j u _ g1 n) (z j _ d n f) (an.1 k _ (jF n)))
 .simp[lF,By,mF]at k
 .rename_i t x;simp only[j5]at e;obtain⟨d,f,rfl⟩:=e;refine .b7 _ _ (Au r s f ?_);cases q with
  |fz vs=>exact absurd rfl (t vs)
  |_=>exact k
theorem AR{f:fM}{args:List PV}{ds:List fS}(A:od P f ds p)(s:p.out=J)(E:gR H args=O ds)(hl:args.any PV.fx=J->lX p=J\/Ad P f ds p){vals:Array Value}(hn:vals.size=I args)(Q:∀(j:Nat) v q,vals[j]?=O v->args[j]?=O q->fW g (I H) w v q)(x:Qu P g X (I H) H w)(hi:Inv X w0 S0 g w)(F:iU g w):
  Calls P f vals w λe w'=>∃v g',e=.returned v/\Good P X w0 S0 H g w p H v g' w':=by
 obtain⟨p1,R⟩:=kE _ _ E
 have k:∀(j:Nat) v d,vals[j]?=O v->ds[j]?=O d->∃q,args[j]?=O q/\fW g (I H) w v q/\ja H q=O d:=λj v d g1 t=>by
  have G:j<I args:=by rw[<-p1];exact(af.1 t).1
  have K:args[j]?=O args[j]:=jC G;exact⟨_,K,Q j v _ g1 K,R j _ d K t⟩
 have fin:∀(S:Nat->Nat->Prop) (w':fK) (v:fP),Below w.heap.size w w'->(∃q,fW {g with S:=λb o=>g.S b o\/(w.heap.size<=b/\b<w'.heap.size)} (I H) w' v q/\q=p)->
   ∃g',Good P X w0 S0 H g w p H v g' w':=λS w' v l r=>by
  obtain⟨q,r,rfl⟩:=r
  have u:Ext (I H) g w {g with S:=λb o=>g.S b o\/(w.heap.size<=b/\b<w'.heap.size)} w':=
   ⟨λ_ _ h=>.inl h,λb o c=>l.cell (p:=⟨b,o,Z⟩) (hi.lt b o c),λ_ _ h=>⟨rfl,h⟩,λ_ _ v n h=>⟨v,n,h,j7 _,λ_=>rfl⟩⟩
  refine⟨_,u,j7 _,r,x.ey u (j7 _) (j7 _) (λi b h=>l.block b (x.eM h).2.1) (λi b h o c=>?_) (λ_ _=>rfl),⟨hi.below.trans (l.mono hi.size),jX hi.size l.size,λb o c=>?_,λb o c=>?_⟩,Fr.kk l.size (λb h=>l.block b h) (λi b h _=>⟨i,iE (g:=g) h (λ_ _=>rfl) (λ_ _=>rfl)⟩) (λb o h=>h.imp id λh=>.inl h.1)⟩
  .rcases c with c|⟨c,_⟩
   .exact c
   .exact absurd (x.eM h).2.1 y9
  .rcases c with c|⟨c,_⟩
   .exact hi.kk b o c
   .exact .inr (jX hi.size c)
  .rcases c with c|⟨_,c⟩
   .exact jP (hi.lt b o c) l.size
   .exact c
 by_cases m:args.any PV.fx=J
 .rcases hl m with L|M
  rotate_left
  .refine(M w (g.drop H 0).S vals (λb o c=>?_) y9 (λj v d g1 t=>?_) (F.x0 λ_ _ h=>.inl h)).mono λe w' u=>?_
   .rcases c with c|⟨j,T,y,_⟩
    .exact hi.lt b o c
    .exact(x.eM y).2.1
   .obtain⟨q,N,B,C⟩:=k j v d g1 t;exact ni x B C
   .obtain⟨v,rfl,l,r⟩:=u;have z:fW {g with S:=λb o=>g.S b o\/(w.heap.size<=b/\b<w'.heap.size)} (I H) w' v p:=r.qs (λb o h=>.inr h) s;obtain⟨g',D⟩:=fin (λ_ _=>True) w' v l ⟨p,z,rfl⟩;exact⟨v,g',rfl,D⟩
  refine(A w (g.drop H 0).S vals (λb o c=>?_) y9 (λj v d g1 t=>?_) (F.x0 λ_ _ h=>.inl h)).mono λe w' u=>?_
  .rcases c with c|⟨j,T,y,_⟩
   .exact hi.lt b o c
   .exact(x.eM y).2.1
  .obtain⟨q,N,B,C⟩:=k j v d g1 t;exact ni x B C
  .obtain⟨v,rfl,l,r⟩:=u;obtain⟨g',D⟩:=fin (λ_ _=>True) w' v l ⟨p,zr r L,rfl⟩;exact⟨v,g',rfl,D⟩
 .refine(A w g.S vals hi.lt y9 (λj v d g1 t=>?_) (F.x0 λ_ _ h=>h)).mono λe w' u=>?_
  .obtain⟨q,N,B,C⟩:=k j v d g1 t;refine nR B C ?_;have:=bF.1 (by simpa using m) q (jF N)
   simpa using this
  .obtain⟨v,rfl,l,r⟩:=u;have z:fW {g with S:=λb o=>g.S b o\/(w.heap.size<=b/\b<w'.heap.size)} (I H) w' v p:=r.qs (λb o h=>h) s;obtain⟨g',D⟩:=fin (λ_ _=>True) w' v l ⟨p,z,rfl⟩;exact⟨v,g',rfl,D⟩
def Cy(tmps:Array Value):ResultVar->Sem Value
 |.tmp t=>pure (tmps.getD t undef)
 |.cell a t=>do loadVar t (<-asAddr (tmps.getD a undef))
theorem Gj(fn:Func)(tmps:Array Value):results fn tmps=(do let vs <-fn.results.mapM (Cy tmps);pure (if h:vs.size=1 then vs[0]else .tuple vs)):=by
 have:Cy tmps=λr=>(match r with|.tmp t=>pure (tmps.getD t undef)|.cell a t=>do loadVar t (<-asAddr (tmps.getD a undef)):Sem Value):=by funext r;cases r<;>rfl
 rw[this];rfl
theorem Sr{N:Nat}{tmps:Array Value}{s:List PV}{r:ResultVar}{q:PV}(x:Qu P g X (I H) H w)(m:sC g (I H) w tmps s)(h:HY P s H r=O q):
  ∃u,(Cy tmps r).run P w=.ok u w/\fW g (I H) w u q:=by
 cases r with
 |tmp t=>
  simp only[HY,j9]at h;subst h;exact⟨_,rfl,m.2 t⟩
 |cell a t=>
  simp only[HY]at h;split at h
  .rename_i L size i off y k z;split at h
   .rename_i cs A;simp only[jK]at h;obtain⟨ds,hc,B⟩:=h;obtain⟨c1,c2,C⟩:=lq hc;have f:=m.2 a;rw[z]at f;generalize l:tmps.getD a undef=M at f;cases f with
    |ptr i o D=>
     obtain⟨_,⟨vals,E,k1,k2,k3⟩,_⟩:=x.box i cs A
     have d:∀(j:Nat) u,((vals.toList.drop off).take size)[j]?=O u->j<size/\vals[off+j]?=O u:=λj u e=>by
      rw[jR]at e;split at e
      .exact⟨by assumption,by simpa using e⟩
      .cases e
     obtain⟨p1,F⟩:=fW.je (g:=g) (w:=w) (N:=I H) (us:=(vals.toList.drop off).take size) (n:=size) yA c1 (λj v c g1 p=>by obtain⟨G,f⟩:=d j v g1;rw[C j G]at p;exact k3 _ v c f p) B
     have K:=kD (P:=P) (w:=w) (b:=g.fg i) (off:=off) ((vals.toList.drop off).take size) y k yA p1 (λj u e=>by rw[cell_of_row w _ _ vals E (0,0) k1];exact(d j u e).2)
     refine⟨_,?_,F⟩;show(Sem.run P (do loadVar t (<-asAddr (tmps.getD a undef))) w)=_
     rw[l];exact K
   .cases h
  .cases h
theorem HG{tmps:Array Value}{s:List PV}(k:Qu P g X (I H) H w)(l:sC g (I H) w tmps s):∀(d:List ResultVar) (c:List PV),iX P s H d=O c->
  ∃us:List Value,(d.mapM (Cy tmps)).run P w=.ok us w/\(I us)=I c/\
   ∀(j:Nat) u q,us[j]?=O u->c[j]?=O q->fW g (I H) w u q
 |[],c,h=>by cases h;exact⟨[],rfl,rfl,λj u q h=>by simp at h⟩
 |r::d,c,h=>by
  simp only[iX]at h;split at h
  .rename_i q e m n;cases h;obtain⟨u,p,t⟩:=Sr (N:=0) k l m;obtain⟨us,k1,k2,k3⟩:=HG k l d e n;refine⟨u::us,?_,by simp[k2],λj v x g1 f=>?_⟩
   .rw[List.mapM_cons,Sem.run_bind,p,Result.andThen_ok,Sem.run_bind,k1,Result.andThen_ok];rfl
   .cases j with
    |zero=>simp at g1 f;subst g1 f;exact t
    |succ j=>exact k3 j v x (by simpa using g1) (by simpa using f)
  .cases h
theorem FH{fn:Func}{tmps:Array Value}{s:List PV}{d:List PV}(e:Qu P g X (I H) H w)(f:sC g (I H) w tmps s)(h:iX P s H fn.results.toList=O d):
  ∃v,(results fn tmps).run P w=.ok v w/\fW g (I H) w v (kf d):=by
 obtain⟨us,k1,k2,k3⟩:=HG e f _ _ h
 have k:(results fn tmps).run P w=.ok (if h:us.toArray.size=1 then us.toArray[0]else .tuple us.toArray) w:=by rw[Gj];simp only[Array.mapM_eq_mapM_toList];simp[k1]
 refine⟨_,k,?_⟩
 match us,d,k2,k3 with
 |[],[],_,k3=>exact .fz _ _ rfl (λj v c h=>by simp at h)
 |[u],[q],_,k3=>exact k3 0 u q rfl rfl
 |m::n::us,q1::q2::d,k2,k3=>
  simp only[kf];rw[dif_neg yB];exact .fz _ _ (by simpa using k2) λj v c g1 l=>k3 j v c (by simpa using g1) l
theorem HA{F:Fence}{n:Nat}{fn:Func}{R:Ending->fK->Prop}{N:Nat}{g':Gh}{st:St}{w:fK}:∀(ms:List Nat) (tmps:Array Value) (c:fK),ms.Nodup->(∀r,r∈ms->w.heap.size<=r/\c.heap[r]?=O (.deferred (O [])))->X<=w.heap.size->
  Ext N g w g' c->Fr g H w g' st.heap c->lU P X w0 S0 N g' st {tmps:=tmps,defers:=[]} c->
  (∀f,Ext N g w g' f->Fr g H w g' st.heap f->lU P X w0 S0 N g' st {tmps:=tmps,defers:=[]} f->∃v,(results fn tmps).run P f=.ok v f/\R (.returned v) f)->
  LeavesInM F n P fn tmps R (ms.map mark) .returning c
 |[],tmps,c,hn,V,hB,m,p,j,q=>q c m p j
 |r::ms,tmps,c,hn,V,hB,m,p,j,q=>by
  obtain⟨s,l⟩:=V r yB;have k:=eQ.1 hn;refine⟨by simp,.inl ⟨r,_,rfl,run_takeDeferred l,?_⟩⟩
  exact HA ms tmps _ k.2 (λt d=>⟨(V t (by simp[d])).1,(World.putObj_heap_other (λe=>k.1 (by rw[<-e];exact d))).trans (V t (by simp[d])).2⟩) hB
   (m.trans (Ext.put N g' l rfl rfl) (j7 _)) (p.put s) ⟨j.heap.put (j7 _) l rfl rfl,j.inv.put (jX hB s),j.rep.ext (Ext.put _ g' l rfl rfl) (j7 _),j.base⟩ q
theorem yo{E:Env}{call:gO}(m:km P E.pf call){n:Nat}{f:fM}(p:u9 P call E.pf (E.hint f)){args:List PV}{q:PV}(k:rG P E call n f args H=O (q,H')){vals:Array Value}(hn:vals.size=I args)(G:∀(j:Nat) v q,vals[j]?=O v->args[j]?=O q->fW g (I H) w v q)(K:Qu P g X (I H) H w)(hi:Inv X w0 S0 g w)(L:iU g w):
  Calls P f vals w λe w'=>∃v g',e=.returned v/\Good P X w0 S0 H g w q H' v g' w':=by
 unfold rG at k;split at k
 .rename_i fn M;split at k
  .rename_i c hc;split at k
   .cases k
   .rename_i e st A r;simp only[j5,jI]at k;obtain⟨N,B,rfl,rfl⟩:=k;refine callsIn_wide.1 (callsIn_of_wp_marks (n:=0) M hc trivial ?_);refine((DB m p n).1 J c _ st e r) X w0 S0 (I H) g _ w Fence.wide 0 _ (.inl rfl) yC ⟨K,hi,⟨by simp[hn],λt=>?_,L⟩,j7 _⟩ λg' a' w' Q C hst S=>?_
    .simp only[jH,jB,aL,jT,hn];by_cases s:t<I args
     .rw[aj s,aj s];have y:vals[t]?=O vals[t]:=jA y9;have z:args[t]?=O args[t]:=jC s;rw[y,z];exact G t _ _ y z
     .rw[ae s,ae s];simp only[eN,zN];split <;>exact nT
    .obtain⟨ms,m1,m2,m3⟩:=S
     have l:=HA (F:=Fence.wide) (n:=0) (fn:=fn) (R:=λe w'=>∃v g',e=.returned v/\Good P X w0 S0 H g w (kf N) st.heap v g' w') ms a'.tmps w' m2 m3 hi.size Q C ⟨hst.heap,hst.inv,hst.rep,hst.base⟩ λT D u d=>by obtain⟨v,y,z⟩:=FH d.heap d.rep B;exact⟨v,y,v,g',rfl,D,hst.base,z,d.heap,d.inv,u⟩
     have x:a'.defers=ms.map mark:=by simpa using m1
     cases e with
     |normal=>show LeavesInM _ _ _ _ _ _ a'.defers _ _;rw[x];exact l
     |ret=>show LeavesInM _ _ _ _ _ _ a'.defers _ _;rw[x];exact l
     |exit id=>exact(A id rfl).elim
   .cases k
  .cases k
 .cases k
theorem zw{c d:Option (PV×List fU)}{q:PV}{H':List fU}(h:nW c d=O (q,H')):c=O (q,H')/\d=O (q,H'):=by
 unfold nW at h;split at h
 .split at h
  .rename_i e;subst e;cases h;exact⟨rfl,rfl⟩
  .cases h
 .cases h
theorem uF{E:Env}{call:gO}(d:km P E.pf call){n:Nat}{f:fM}(l:u9 P call E.pf (E.hint f)){args:List PV}{q:PV}(r:lT P E call n f args H=O (q,H')){vals:Array Value}(hn:vals.size=I args)(u:∀(j:Nat) v q,vals[j]?=O v->args[j]?=O q->fW g (I H) w v q)(s:Qu P g X (I H) H w)(hi:Inv X w0 S0 g w)(t:iU g w):
  Calls P f vals w λe w'=>∃v g',e=.returned v/\Good P X w0 S0 H g w q H' v g' w':=by
 unfold lT at r;split at r
 .rename_i hc;simp only[jE,dx]at hc;obtain⟨_,p,rfl⟩:=hc;obtain⟨y,z⟩:=zw r
  have A:args=[.b7 (.ew [])]:=by
   unfold oH at p;split at p
   .rfl
   .cases p
  subst A;have B:vals.size=1:=hn;have h0:vals[0]?=O vals[0]:=jA y9;have x:=(u 0 _ _ h0 rfl).hX
  have key:(vals[0]=.slice Z 0 0)\/∃a cap,vals[0]=.slice (O a) 0 cap:=by
   generalize vals[0]=v at x;cases x with
   |nil=>exact .inl rfl
   |empty a cap=>exact .inr ⟨a,cap,rfl⟩
   |ew b off len cap k es c C=>exact .inr ⟨_,cap,by rw[C];rfl⟩
  rcases key with key|⟨a,cap,key⟩
  .exact yo d l y (by simpa using hn) (λj v q g1 m=>by
    match j,m with
    |0,m=>
     simp at m;subst m;rw[h0]at g1;cases g1;exact .j0 _ _ (λ_=>key) (λh=>by cases h)
    |j+1,m=>simp at m) s hi t
  .exact yo d l z (by simpa using hn) (λj v q g1 m=>by
    match j,m with
    |0,m=>
     simp at m;subst m;rw[h0]at g1;cases g1;exact .j0 _ _ (λh=>by cases h) (λ_=>⟨a,cap,key⟩)
    |j+1,m=>simp at m) s hi t
 .exact yo d l r hn u s hi t
theorem A2{v:fP}{q p:PV}(l:Qu P g X (I H) H w)(m:fW g (I H) w v q)(e:sW H q=O p):p.still=J/\fW (g.drop H 0) 0 w v p:=by
 unfold sW at e;split at e
 .rename_i i o;split at e
  .rename_i cs n;simp only[j5]at e;obtain⟨ds,r,rfl⟩:=e;obtain⟨p1,t⟩:=lV _ _ r;cases m with
   |ptr i o hi=>
    obtain⟨_,⟨vals,x,k1,k2,k3⟩,_⟩:=l.box i cs n;refine⟨rfl,.eI _ _ _ (λj=>vals.getD (o+j) undef) (λj y=>?_) λj u k=>?_⟩
    .have f:o+j<vals.size:=by rw[y7]at p1;omega
     refine⟨?_,.inr ⟨i,zQ _,iI n,by simp only[PW,n];omega⟩⟩;rw[cell_of_row w _ _ vals x (0,0) k1,jH,jA f];rfl
    .have y:j<I ds:=(af.1 k).1;have f:o+j<vals.size:=by rw[y7]at p1;omega
     have hc:(cs.drop o)[j]?=O cs[o+j]:=by rw[zJ];exact jC y9
     have z:=k3 (o+j) _ _ (jA f) (by rw[<-zJ];exact hc);rw[jH,jA f];exact oD l z (t j _ u hc k)
  .cases e
 .rename_i cs;cases e;cases m with
  |eI b o _ c s A=>exact⟨rfl,.eI (g:=g.drop H 0) b o cs c (λi hi=>⟨(s i hi).1,.inl (s i hi).2⟩) λi u k=>(A i u k).mono (λ_ _ h=>.inl h) λ_ _ _=>rfl⟩
 .simp only[j5]at e;obtain⟨d,B,rfl⟩:=e;exact⟨rfl,.b7 _ _ (oD l m B)⟩
theorem qH:∀(cs e:List PV),wC H cs=O e->I e=I cs/\∀(j:Nat) c p,cs[j]?=O c->e[j]?=O p->sW H c=O p
 |[],e,h=>by cases h;exact⟨rfl,λj c p h=>by simp at h⟩
 |c::cs,e,h=>by
  simp only[wC]at h;split at h
  .rename_i d ds g k;cases h;obtain⟨k1,k2⟩:=qH cs ds k;refine⟨by simp[k1],λj l m g1 f=>?_⟩;cases j with
   |zero=>simp at g1 f;subst g1 f;exact g
   |succ j=>exact k2 j l m (by simpa using g1) (by simpa using f)
  .cases h
theorem Ci{c p:PV}(h:sW H c=O p):p.still=J:=by
 unfold sW at h;split at h
 .split at h
  .simp only[j5]at h;obtain⟨ds,_,rfl⟩:=h;rfl
  .cases h
 .cases h;rfl
 .simp only[j5]at h;obtain⟨ds,_,rfl⟩:=h;rfl
theorem DO{q p:PV}(e:iq H q=O p):p.out=J:=by
 unfold iq at e;split at e
 .simp only[j5]at e;obtain⟨ds,_,rfl⟩:=e;simp[PV.out]
 .simp only[j5]at e;obtain⟨cs,f,rfl⟩:=e;obtain⟨p1,k⟩:=qH _ _ f;refine an.2 λc hc=>?_
  obtain⟨j,g⟩:=aT hc;have l:=(af.1 g).1;exact Ci (k j _ c (jC y9) g)
 .simp only[j5]at e;obtain⟨d,_,rfl⟩:=e;rfl
theorem Gs{v:fP}{q p:PV}(n:Qu P g X (I H) H w)(t:fW g (I H) w v q)(e:iq H q=O p):p.out=J/\fW (g.drop H 0) 0 w v p:=by
 unfold iq at e;split at e
 .rename_i vs;simp only[j5]at e;obtain⟨ds,x,rfl⟩:=e;obtain⟨p1,y⟩:=kE _ _ x;obtain⟨us,rfl,B,r⟩:=t.v8;refine⟨by simp[PV.out],.fz _ _ yA λj u c g1 k=>?_⟩;simp only[jD,j5]at k;obtain⟨d,s,rfl⟩:=k;have l:j<I vs:=by rw[<-p1];exact(af.1 s).1
  have m:vs[j]?=O vs[j]:=jC l;exact .b7 _ _ (ni n (r j u _ g1 m) (y j _ d m s))
 .rename_i f caps;simp only[j5]at e;obtain⟨cs,z,rfl⟩:=e;obtain⟨p1,y⟩:=qH _ _ z;cases t with
  |fn _ vs _ B r=>
   have key:∀(j:Nat) c,cs[j]?=O c->∃q,caps[j]?=O q/\sW H q=O c:=λj c k=>by
    have l:j<I caps:=by rw[<-p1];exact(af.1 k).1
    have m:caps[j]?=O caps[j]:=jC l;exact⟨_,m,y j _ c m k⟩
   refine⟨?_,.fn _ _ _ y9 λj u c g1 k=>?_⟩
   .refine an.2 λc hc=>?_
    obtain⟨j,C⟩:=aT hc;obtain⟨q,q1,q2⟩:=key j c C;have A:j<vs.size:=by rw[B];exact(af.1 q1).1
    exact(A2 n (r j _ q (jA A) q1) q2).1
   .obtain⟨q,q1,q2⟩:=key j c k;exact(A2 n (r j u q g1 q1) q2).2
 .simp only[j5]at e;obtain⟨d,s,rfl⟩:=e;exact⟨rfl,.b7 _ _ (ni n t s)⟩
theorem Kv{E:Env}{call:gO}(c:km P E.pf call){n:Nat}{f:fM}(k:u9 P call E.pf (E.hint f)){ds:List fS}{r p:PV}(z:lT P E call n f (ds.map .b7) []=O (r,H'))(x:iq H' r=O p):
  od P f ds p/\p.out=J:=by
 refine⟨λw S vals A hn B C=>?_,DO x⟩
 .refine(uF (X:=w.heap.size) (w0:=w) (S0:=S) (g:=gS S) c k z (by simpa using hn) (λj v q g1 y=>?_) nz ⟨Below.refl _ _,j7 _,λb o h=>.inl h,A⟩ C).mono λe w' D=>?_
  .simp only[jD,j5]at y;obtain⟨d,F,rfl⟩:=y;exact .b7 _ _ (B j v d g1 F)
  .obtain⟨v,g',rfl,l⟩:=D;obtain⟨o1,o2⟩:=Gs l.heap l.rep x;refine⟨v,rfl,l.inv.below,?_⟩
   have u:∀b o,(g'.drop H' 0).S b o->S b o\/(w.heap.size<=b/\b<w'.heap.size):=λb o s=>by
    have t:b<w'.heap.size:=by
     rcases s with s|⟨j,_,m,_⟩
     .exact l.inv.lt b o s
     .exact(l.heap.eM m).2.1
    rcases s with s|⟨j,_,m,_⟩
    .rcases l.inv.kk b o s with h|h
     .exact .inl h
     .exact .inr ⟨h,t⟩
    .exact .inr ⟨(l.heap.eM m).1,t⟩
   exact o2.qs u o1
theorem F3{E:Env}{call:gO}(c:km P E.pf call){n:Nat}{f:fM}(k:u9 P call E.pf (E.hint f)){ds:List fS}{r p:PV}(s:lT P E call n f (ds.map .b7) []=O (r,H'))(t:iq H' r=O p)(u:lF H' r=J):
  Ad P f ds p:=λw S vals x hn y z=>by
 refine(uF (X:=w.heap.size) (w0:=w) (S0:=S) (g:=gS S) c k s (by simpa using hn) (λj v q g1 m=>?_) nz ⟨Below.refl _ _,j7 _,λb o h=>.inl h,x⟩ z).mono λe w' A=>?_
 .simp only[jD,j5]at m;obtain⟨d,B,rfl⟩:=m;exact .b7 _ _ (y j v d g1 B)
 .obtain⟨v,g',rfl,l⟩:=A;exact⟨v,rfl,l.inv.below,DJ l.heap l.rep t u⟩
theorem II{E:Env}(m:∀f G,E.nf f=O G->E.pure f=U){n:Nat}{f:fM}{args:List PV}(c:E.pf f=J)(h:kI P E n f args H=O (p,H')):H'=H/\(∃ds,gR H args=O ds)/\∀H2,gR H2 args=gR H args->kI P E n f args H2=O (p,H2):=by
 cases n with
 |zero=>simp[kI]at h
 |succ n=>
  simp only[kI]at h;simp only[Env.pf,zT]at c;split at h
  .cases h
  .rename_i g;split at h
   .rename_i G j;split at h
    .rename_i F k;rw[k]at c;simp only[Option.isNone_some,dK,j6,or_false]at c;exact absurd c (by rw[m f F k];simp)
    rename_i k;split at h
    .rename_i ds d;split at h
     .rename_i v l;split at h
      .cases h
      .rename_i hl;cases h;refine⟨rfl,⟨ds,d⟩,λH2 e=>?_⟩;rw[d]at e;simp only[kI,ae g,j,k,e,l,ae hl]
     .cases h
    .cases h
   .rename_i j;rw[j]at c;simp only[Option.isSome_none,cm,j6,or_false]at c;rw[aj c]at h;split at h
    .rename_i ds d;split at h
     .rename_i r H1 q;split at h
      .rename_i v l;split at h
       .cases h
       .rename_i hl;cases h;refine⟨rfl,⟨ds,d⟩,λH2 e=>?_⟩;rw[d]at e;simp only[kI,ae g,j,aj c,e,q,l,ae hl]
      .cases h
     .cases h
    .cases h
def xK(P:fL)(f:fM)(args:List PV)(H:List fU)(p:PV)(H':List fU):Prop:=
 ∀(X:Nat) (w0:fK) (S0:Nat->Nat->Prop) (g:Gh) (w:fK) (vals:Array Value),vals.size=I args->(∀(j:Nat) v q,vals[j]?=O v->args[j]?=O q->fW g (I H) w v q)->
  Qu P g X (I H) H w->Inv X w0 S0 g w->iU g w->Calls P f vals w λe w'=>∃v g',e=.returned v/\Good P X w0 S0 H g w p H' v g' w'
def E9(P:fL)(E:Env):Prop:=(∀f G,E.pa f=O G->∀ds p,G ds=O p->od P f ds p/\p.out=J)/\
 ∀f G,E.nf f=O G->E.pure f=U/\∀args H p H',G args H=O (p,H')->xK P f args H p H'
theorem xD{E:Env}(nf:E9 P E)(j:P.follows .mixedOrders=J):∀n,km P E.pf (kI P E n)
 |0=>λf args H p H' h=>by simp[kI]at h
 |n+1=>λf args H p H' h=>by
  have m:=xD nf j n;have h0:=h;simp only[kI]at h;split at h
  .cases h
  .rename_i d
   have u:∃fn c,P.funcs[f]?=O fn/\fn.body=O c/\(fn.name== "runtime.NumGoroutine")=U:=by
    have d:ox P f=J:=by simpa using d
    unfold ox at d;split at d
    .rename_i fn C;simp only[jE,cB]at d;obtain⟨c,hc⟩:=aC.1 d.1;exact⟨fn,c,C,hc,d.2⟩
    .cases d
   refine⟨u,λx=>?_,λX w0 S0 g w vals hn q s hi e=>?_⟩
   .exact II (λf G y=>(nf.2 f G y).1) x h0
   split at h
   .rename_i G y;split at h
    .rename_i F D;exact(nf.2 f F D).2 args H p H' h X w0 S0 g w vals hn q s hi e
    split at h
    .rename_i ds k;split at h
     .rename_i v t;split at h
      .cases h
      .rename_i hl;cases h;obtain⟨z,A⟩:=nf.1 f G y ds _ t;exact AR z A k (λl=>.inl (by simpa[l]using hl)) hn q s hi e
     .cases h
    .cases h
   .split at h
    .split at h
     .rename_i ds k;split at h
      .rename_i r H1 B;split at h
       .rename_i v t;split at h
        .cases h
        .rename_i hl;cases h;obtain⟨z,A⟩:=Kv m (Cd j m) B t;refine AR z A k (λl=>?_) hn q s hi e;simp only[l,bg,aS,Bool.not_eq_false',zT]at hl;rcases hl with hl|hl
         .exact .inl hl
         .exact .inr (F3 m (Cd j m) B t hl)
       .cases h
      .cases h
     .cases h
    .exact uF m (Cd j m) h hn q s hi e
theorem E7{E:Env}(nf:E9 P E)(c:P.follows .mixedOrders=J){n:Nat}{f:fM}{ds:List fS}{p:PV}{H':List fU}(h:kI P E n f (ds.map .b7) []=O (p,H'))(r:p.out=J):
  od P f ds p:=by
 intro w S vals s hn t u;refine((xD nf c n f _ [] p H' h).2.2 w.heap.size w S (gS S) w vals (by simpa using hn) (λj v q g1 l=>?_) nz ⟨Below.refl _ _,j7 _,λb o h=>.inl h,s⟩ u).mono λe w' x=>?_
 .simp only[jD,j5]at l;obtain⟨d,y,rfl⟩:=l;exact .b7 _ _ (t j v d g1 y)
 .obtain⟨v,g',rfl,g⟩:=x;refine⟨v,rfl,g.inv.below,?_⟩
  have k:∀b o,g'.S b o->S b o\/(w.heap.size<=b/\b<w'.heap.size):=λb o m=>by
   rcases g.inv.kk b o m with h|h
   .exact .inl h
   .exact .inr ⟨h,g.inv.lt b o m⟩
  exact g.rep.qs k r
end
end Go.Pm
