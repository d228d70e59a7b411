/-
 The pure machine: soundness of one operation that calls no Go function.
-/
import Derived.Test.YtjcfpjpdopfefaaGreatPmArr
namespace Go.Pm
open Go Go.RowKit
set_option linter.all false
section
variable{P:fm}{B0 N:Nat}{w0:fk}{S0:Nat->Nat->Prop}{g:Gh}{H H':List fB}{w:fk}{p:PV}{o:Oper}{a:Act}{ρ:ft->PV}
def oA(P:fm)(B0:Nat)(w0:fk)(S0:Nat->Nat->Prop)(H:List fB)(g:Gh)(w:fk)(o:Oper)(a:Act)(p:PV)(H':List fB):Prop:=
 ∃v g' w',fQ P o a w v w'/\Good P B0 w0 S0 H g w p H' v g' w'
theorem lP(d:∀cs b,o.op≠.select cs b)(e:Qm P g B0 H.length H w)(hi:Inv B0 w0 S0 g w)(c:∀x,fC g H.length w (a.eval x) (ρ x))(h:gv P o ρ H=some (p,H')):
  oA P B0 w0 S0 H g w o a p H':=by
 obtain⟨v,f,j,rfl⟩:=CX d c h;exact⟨v,g,w,f,.same e hi j⟩
theorem A9{b:Builtin}{args:Array Operand}{ts:Array TypeId}(C:o.op=.call {callee:=.builtin b,args,argTypes:=ts})(D:Qm P g B0 H.length H w)(hi:Inv B0 w0 S0 g w)(f:∀x,fC g H.length w (a.eval x) (ρ x))(h:fZ P b ts (args.toList.map ρ) H=some (p,H')):oA P B0 w0 S0 H g w o a p H':=by
 unfold fZ at h;split at h
 .rename_i x m
  obtain⟨y,rfl,rfl⟩:∃y,args=#[y]/\x=ρ y:=by
   obtain⟨l⟩:=args
   match l,m with
   |[y],m=>simp at m;exact⟨y,rfl,m.symm⟩
  split at h
  .rename_i e A;simp only[jK]at A;obtain⟨t,j,A⟩:=A;split at h
   .rename_i n hn;cases h;obtain⟨ad,cap,hv⟩:=xZ (f y) hn;exact⟨.int .i64 n,g,w,.inl (by simp[execOp,C,resolve,invoke,builtin,Builtin.len_,j,run_underlying A,hv,goInt]),.same D hi (.dat _ _ (.raw _ rfl))⟩
   .cases h
  .rename_i kt et A;simp only[jK]at A;obtain⟨t,j,A⟩:=A;split at h
   .rename_i i N;split at h
    .rename_i es q;cases h;exact EI C j A N q D hi f
    .cases h
   .cases h
  .cases h
 .rename_i i off len cap x m;obtain⟨s',M,rfl,c,rfl⟩:=nU m;replace c:=c.symm;split at h
  .rename_i e J;simp only[jK]at J;obtain⟨t,j,r⟩:=J;split at h
   .rename_i O;split at h
    .rename_i cs es E q;split at h
     .rename_i K;simp only[j5]at h;obtain⟨ds,hp,h⟩:=h;cases h;exact M0 C j r O c E q K hp D hi f
     .cases h
    .cases h
   .cases h
  .cases h
 .rename_i tt gg lo len cap m;obtain⟨s',rfl,c⟩:=rT m;replace c:=c.symm;split at h
  .rename_i u A;simp only[jK]at A;obtain⟨t,j,A⟩:=A;split at h
   .rename_i X g' cs hm;split at h
    .rename_i hc;obtain⟨rfl,rfl,rfl,c1,c2⟩:=hc;cases h;exact NY C j A c hm c1 c2 D hi f
    .cases h
   .cases h
  .cases h
 .rename_i tt gg lo len cap k n m;obtain⟨s',M,rfl,c,v⟩:=nU m;replace c:=c.symm;replace v:=v.symm;split at h
  .rename_i t B j;have d:ts=#[t,B]:=by apply Array.ext';exact j
   subst d;split at h
   .rename_i e kn r Q;split at h
    .rename_i bytes z E G;split at h
     .rename_i hc;obtain⟨c1,c2,L,F⟩:=hc;obtain⟨n,rfl⟩:=zB L;unfold tL at h;split at h
      .rename_i X g' cs hm;split at h
       .rename_i R;obtain⟨rfl,rfl,rfl,rfl,S,d5,Y,Z,d8⟩:=R;cases h;simp only[cJ]at Y Z |-;exact uF C r Q c1 E G d8 c2 c v hm rfl rfl S d5 Y Z D hi f
       .cases h
      .cases h
     .cases h
    .cases h
   .cases h
  .cases h
 .rename_i tt gg lo len cap x m;obtain⟨s',M,rfl,c,rfl⟩:=nU m;replace c:=c.symm;split at h
  .rename_i t B j;split at h
   .rename_i e r;split at h
    .rename_i bytes es E q;split at h
     .rename_i hc;obtain⟨c1,c2,rfl,F⟩:=hc;have d:ts=#[B,B]:=by apply Array.ext';exact j
      subst d;exact sH C r c1 E F c2 c q h D hi f
     .split at h
      .rename_i hc;obtain⟨c1,rfl,rfl,F⟩:=hc;have d:ts=#[B,B]:=by apply Array.ext';exact j
       subst d;obtain rfl:es=[]:=by simpa using c1
       obtain⟨size,I⟩:=aA.1 F;cases h;exact ux C r I c q D hi f
      .cases h
    .rename_i bytes E q;split at h
     .rename_i size I;split at h
      .rename_i hc;obtain⟨c2,rfl,F⟩:=hc;have d:ts=#[B,B]:=by apply Array.ext';exact j
       subst d;exact xn C r I E F c2 c h D hi f
      .cases h
     .cases h
    .cases h
   .cases h
  .cases h
 .rename_i i off es m;obtain⟨s',M,rfl,c,v⟩:=nU m;replace c:=c.symm;replace v:=v.symm;split at h
  .rename_i t B j;split at h
   .rename_i e r;split at h
    .rename_i bytes E;split at h
     .rename_i hc;obtain⟨c1,c2,rfl,F⟩:=hc;have d:ts=#[B,B]:=by apply Array.ext';exact j
      subst d;exact xu C r c1 E F c2 c v h D hi f
     .cases h
    .cases h
   .cases h
  .cases h
 .rename_i s x hms0 hms hms1 m;obtain⟨s',M,rfl,rfl,rfl⟩:=nU m;split at h
  .rename_i t B j;split at h
   .rename_i e r;split at h
    .rename_i size bytes es I E q;split at h
     .rename_i hc;obtain⟨c1,c2,rfl,F⟩:=hc;obtain⟨z,G,T⟩:=Option.map_eq_some_iff.1 F;have d:ts=#[B,B]:=by apply Array.ext';exact j
      subst d;unfold sg at h;split at h
      .rename_i U;split at h
       .rename_i t xs c;split at h
        .rename_i e'' n V;split at h
         .rename_i W;obtain⟨d1,rfl,rfl,S⟩:=W;cases h;exact G1 C r I E G T c1 c2 c q d1 U V rfl S D hi f
         .cases h
        .cases h
       .cases h
      .cases h
     .cases h
    .cases h
   .cases h
  .cases h
 .rename_i tt gg lo len cap m;obtain⟨s',rfl,c⟩:=rT m;replace c:=c.symm;split at h
  .rename_i t j;have d:ts=#[t]:=by apply Array.ext';exact j
   subst d;split at h
   .rename_i e r;split at h
    .rename_i z X g' cs G hm;split at h
     .rename_i hc;obtain⟨rfl,rfl,c1,c2,L,F⟩:=hc;cases h;exact Ch C r c2 G c1 c hm rfl L F D hi f
     .cases h
    .cases h
   .cases h
  .cases h
 .rename_i i off len cap m;obtain⟨s',rfl,c⟩:=rT m;replace c:=c.symm;split at h
  .rename_i t j;have d:ts=#[t]:=by apply Array.ext';exact j
   subst d;split at h
   .rename_i e r;split at h
    .rename_i z size cs G I E;split at h
     .rename_i hc;obtain⟨c1,c2,L⟩:=hc;cases h;exact AF C r G L c E c1 c2 D hi f
     .cases h
    .cases h
   .cases h
  .cases h
 .rename_i m;obtain⟨s',rfl,c⟩:=rT m;replace c:=c.symm;split at h
  .rename_i t j;have d:ts=#[t]:=by apply Array.ext';exact j
   subst d;split at h
   .rename_i r;cases h;exact Aq C r c D hi f
   .cases h
  .cases h
 .cases h
theorem vO{op:BinOp}{t k:fq}{x y:ft}{b:Bool}{v:Addr}(c:(match P.underlying t with
   |some (.pointer _)=>match op with|.eql=>some false|.neq=>some true|_=>none
   |_=>none)=some b)(l:o.op=.binOp op t x y k)(f:a.eval x=.pointer (some v))(g:a.eval y=.pointer none):(execOp a.eval o).run P w=.ok (.value (.bool b)) w:=by
 split at c
 .rename_i e m;have j:∀d,(Op.equalIn (d+1) t (.pointer (some v)) (.pointer none)).run P w=.ok false w:=λd=>by simp[Op.equalIn,run_underlying m]
  have n:=j 9999;cases op<;>first|(cases c;done)|(cases c;simp only[execOp,l,f,g];simp[binOp,eqGuard,Op.equal,Op.maxDepth,n])
 .cases c
theorem Ha{op:BinOp}{t C:fq}{x y:ft}{b:Bool}(v:o.op=.binOp op t x y C)(l:∀x,fC g H.length w (a.eval x) (ρ x))(e:Bi P op t (ρ x) (ρ y)=some b):
  (execOp a.eval o).run P w=.ok (.value (.bool b)) w:=by
 have j:=l x;have k:=l y;unfold Bi at e;split at e
 .rename_i f cap m n;rw[m]at j;rw[n]at k;have s:=k.toVal (u:=.nilFunc) rfl;generalize c:a.eval x=A at j;cases j with
  |fn f vs cs E F=>
   split at e
   .rename_i p q r D;have z:∀d,(Op.equalIn (d+1) t (.func (.func f) #[] vs) .nilFunc).run P w=.ok false w:=λd=>by simp[Op.equalIn,run_underlying D]
    have B:=z 9999;split at e
    .cases e;simp only[execOp,v,c,s];simp[binOp,eqGuard,Op.equal,Op.maxDepth,B]
    .cases e;simp only[execOp,v,c,s];simp[binOp,eqGuard,Op.equal,Op.maxDepth,B]
    .cases e
   .cases e
 .rename_i i o' m n;rw[m]at j;rw[n]at k;generalize c:a.eval x=A at j;cases j with
  |ptr=>exact vO e v c (k.toVal (u:=.pointer none) rfl)
 .rename_i cs m n;rw[m]at j;rw[n]at k;generalize c:a.eval x=A at j;cases j with
  |iptr=>exact vO e v c (k.toVal (u:=.pointer none) rfl)
 .cases e
theorem wL{t:fq}{x:ft}(f:o.op=.load t x)(k:Qm P g B0 H.length H w)(hi:Inv B0 w0 S0 g w)(c:∀x,fC g H.length w (a.eval x) (ρ x))(h:jy P t (ρ x) H=some (p,H')):oA P B0 w0 S0 H g w o a p H':=by
 unfold jy at h;split at h
 .rename_i z size l m;split at h
  .rename_i i off d;split at h
   .rename_i cs n;simp only[j5,jK]at h;obtain⟨q,⟨ds,hc,e⟩,h⟩:=h;cases h;exact Dd f d n l m hc e k hi c
   .cases h
  .rename_i cs d;simp only[j5,jK]at h;obtain⟨q,⟨ds,hc,e⟩,h⟩:=h;cases h;exact Ap f d l m hc e k hi c
  .rename_i tt gg j d;split at h
   .rename_i A g' cs n;split at h
    .rename_i hc;obtain⟨rfl,r,s⟩:=hc;simp only[j5,jK]at h;obtain⟨q,⟨ds,hc,e⟩,h⟩:=h;cases h;exact DP f d (Zb n) l m r (by simpa using s) hc e k hi c
    .split at h
     .rename_i hc;obtain⟨rfl,r,rfl,u,v⟩:=hc;simp only[j5]at h;obtain⟨q,y,h⟩:=h;cases h;exact Dl f d (Zb n) l m r u v y k hi c
     .cases h
   .cases h
  .cases h
 .cases h
theorem Ip{t:fq}{x:ft}{cs:List PV}{H1:List fB}{ds:List fy}(n:o.op=.load t x)(p:Qm P g B0 H.length H w)(hi:Inv B0 w0 S0 g w)(l:∀x,fC g H.length w (a.eval x) (ρ x))(h:jy P t (ρ x) H=some (.agg cs,H1))(hc:ga H1 cs=some (ds,H')):oA P B0 w0 S0 H g w o a (.dat (.agg ds)) H':=by
 obtain⟨v,q,r,f,e⟩:=wL n p hi l h;have k:=e.rep;cases k with
 |agg vs cs D s=>
  obtain⟨u,l2,y,k2,z,A,E,B⟩:=lM cs vs.toList q H1 ds H' e.heap e.inv (λj v c m hc=>s j v c (by simpa using m) hc) hc;refine⟨_,u,r,f,⟨e.ext.trans y e.len,by rw[l2];exact e.len,.dat _ _ (.agg vs ds y8 λj v d m C=>B j v d (by simpa using m) C),by rw[l2];exact k2,z,e.fr.trans A⟩⟩
theorem qk{t:fq}{c:Array (Nat×Operand)}{k:List (Nat×TypeId)}(l:o.op=.build t c)(m:Qm P g B0 H.length H w)(hi:Inv B0 w0 S0 g w)(e:∀x,fC g H.length w (a.eval x) (ρ x))(h:kO P k ρ t c H=some (p,H')):oA P B0 w0 S0 H g w o a p H':=by
 unfold kO at h;split at h
 .rename_i z u n f;split at h
  .rename_i cs q;split at h
   .rename_i d;split at h
    .rename_i j;split at h
     .rename_i r bs s;cases h;exact IN l n f q d j s m hi e
     .cases h
    .cases h
   .cases h
  .cases h
 .cases h
theorem mZ{t:fq}{x y:ft}(l:o.op=.store t x y)(m:Qm P g B0 H.length H w)(hi:Inv B0 w0 S0 g w)(c:∀x,fC g H.length w (a.eval x) (ρ x))(h:iP P t (ρ x) (ρ y) H=some (p,H')):oA P B0 w0 S0 H g w o a p H':=by
 unfold iP at h;split at h
 .rename_i size n;split at h
  .rename_i i off f;split at h
   .rename_i cs k;split at h
    .rename_i hc;simp only[j5]at h;obtain⟨ds,q,h⟩:=h;cases h;exact Ke l f k n hc.1 hc.2 q m hi c
    .cases h
   .cases h
  .rename_i tt gg j f;split at h
   .rename_i B g' cs k;split at h
    .rename_i hc;obtain⟨rfl,rfl,e,r⟩:=hc;cases h;exact C9 l f (Zb k) n e (by simpa using r) m hi c
    .split at h
     .rename_i d s;split at h
      .rename_i hc;obtain⟨rfl,u,v,z,A⟩:=hc;cases h;exact zt l f s (Zb k) n u v z A m hi c
      .cases h
     .cases h
   .cases h
  .cases h
 .cases h
theorem Good.more{H1:List fB}{d:Gh}{p1:PV}{e:fu}(h:Good P B0 w0 S0 H g w p1 H1 e d w)(k:oA P B0 w0 S0 H1 d w o a p H'):oA P B0 w0 S0 H g w o a p H':=by
 obtain⟨v,g',w',f,c⟩:=k;exact⟨v,g',w',f,⟨h.ext.trans c.ext h.len,jW h.len c.len,c.rep,c.heap,c.inv,h.fr.trans c.fr⟩⟩
open Classical in
theorem Hr{t e:fq}{x:ft}(n:o.op=.store t x (.const (.slice none 0 0)))(r:Qm P g B0 H.length H w)(hi:Inv B0 w0 S0 g w)(d:∀x,fC g H.length w (a.eval x) (ρ x))(h:iP P t (ρ x) (.vec H.length []) (H++[.tok e 0])=some (p,H')):oA P B0 w0 S0 H g w o a p H':=by
 have c:=wE r hi e;by_cases l:x=.const (.slice none 0 0)
 .exfalso
  have f:=d x;have j:a.eval x=.slice none 0 0:=by rw[l];rfl
  rw[j]at f;generalize ρ x=q at h f;cases f<;>first|(rename_i k;obtain⟨_,k⟩:=k;cases k;done)|(unfold iP at h;split at h<;>cases h)
 .refine c.more (mZ (ρ:=λz=>if z=.const (.slice none 0 0)then .vec H.length []else ρ z) n c.heap c.inv (λz=>?_) ?_)
  .by_cases m:z=.const (.slice none 0 0)
   .simp only[m,ak];exact c.rep
   .simp only[m,aj];exact(d z).ext c.ext c.len
  .simp only[l,aj,ak];exact h
open Classical in
theorem EC{t:fq}{x y:ft}{k:Nat}{es:List fy}(l:o.op=.store t x y)(e:ρ y=.vec k es)(m:Qm P g B0 H.length H w)(hi:Inv B0 w0 S0 g w)(c:∀x,fC g H.length w (a.eval x) (ρ x))(h:iP P t (ρ x) (.dat (.lst es)) H=some (p,H')):oA P B0 w0 S0 H g w o a p H':=by
 by_cases f:x=y
 .exfalso
  subst f;rw[e]at h;unfold iP at h;split at h<;>cases h
 .refine mZ (ρ:=λz=>if z=y then .dat (.lst es)else ρ z) l m hi (λz=>?_) ?_
  .by_cases j:z=y
   .simp only[j,ak];have d:=c y;rw[e]at d;generalize a.eval y=v at d;cases d with
    |vec _ _ _ _ _ _ n=>exact .dat _ _ n
   .simp only[j,aj];exact c z
  .simp only[f,aj,ak];exact h
theorem Ee{t:fq}{x y:ft}{d:fq}{cs:List PV}{tt gg n:Nat}(e:o.op=.store t x y)(f:H[tt]?=some (.mt d gg cs))(j:Qm P g B0 H.length H w)(hi:Inv B0 w0 S0 g w)(c:∀x,fC g H.length w (a.eval x) (ρ x))(h:iP P t (ρ x) (ρ y) (H.set tt (.mt d gg (cs.take n)))=some (p,H')):oA P B0 w0 S0 H g w o a p H':=by
 have k:=MM (n:=n) f j hi;exact k.more (mZ e k.heap k.inv (λz=>(c z).ext k.ext k.len) h)
theorem KM{call:gk}{ow:List (Nat×TypeId)}(hnc:∀f args ts,o.op≠.call {callee:=.value f,args,argTypes:=ts})(C:Qm P g B0 H.length H w)(hi:Inv B0 w0 S0 g w)(A:∀x,fC g H.length w (a.eval x) (ρ x))(h:gq P call ow o ρ H=some (p,H')):oA P B0 w0 S0 H g w o a p H':=by
 unfold gq at h;split at h
 .rename_i x B;obtain⟨v,g1,w1,M,D⟩:=E8 (P:=P) (B0:=B0) (w0:=w0) (S0:=S0) x (.inl B) C hi A;split at h
  .simp only[j5]at h;obtain⟨⟨d,H2⟩,hc1,h⟩:=h;cases h
   obtain⟨g2,l2,e2,k2,i2,f2,l3,r2⟩:=lM [ρ x] [v] g1 H [d] H2 D.heap D.inv (λj u c hv hc=>by
    cases j with
    |zero=>simp at hv hc;subst hv hc;exact D.rep
    |succ j=>simp at hv) (by simp[ga,hc1])
   exact⟨_,g2,w1,M,⟨D.ext.trans e2 D.len,by rw[l2];exact D.len,.dat _ _ (r2 0 v d rfl rfl),by rw[l2];exact k2,i2,D.fr.trans f2⟩⟩
  .cases h;exact⟨v,g1,w1,M,D⟩
 .rename_i x B;split at h
  .cases h;exact E8 x (.inr B) C hi A
  .split at h
   .split at h
    .cases h;exact AV B C hi
    .cases h;exact xG B C hi
   .cases h
 .rename_i c x y B;simp only[j5]at h;obtain⟨t,ht,h⟩:=h;cases h;exact M7 B ht C hi A
 .rename_i t B;split at h
  .rename_i z Q;split at h
   .rename_i cs bs hc;cases h;exact Ls B Q hc C hi
   .cases h
  .cases h
 .rename_i t x B;split at h
  .split at h
   .rename_i hall;cases h;exact OD B hall C hi A
   .cases h
  .simp only[j5]at h;obtain⟨ds,hds,h⟩:=h;cases h;exact DZ B hds C hi A
 .rename_i t V B;split at h
  .split at h
   .rename_i cs H1 W;split at h
    .rename_i ds H2 hc;cases h;obtain⟨v,g1,w1,M,D⟩:=qk B C hi A W;have hrep:=D.rep;cases hrep with
     |agg vs cs h1 h2=>
      obtain⟨g2,l2,e2,k2,i2,f2,l3,r2⟩:=lM cs vs.toList g1 H1 ds _ D.heap D.inv (λj v c hv hc=>h2 j v c (by simpa using hv) hc) hc;exact⟨_,g2,w1,M,⟨D.ext.trans e2 D.len,by rw[l2];exact D.len,.dat _ _ (.agg vs ds y8 λj v d hv X=>r2 j v d (by simpa using hv) X),by rw[l2];exact k2,i2,D.fr.trans f2⟩⟩
    .cases h
   .cases h
  .exact qk B C hi A h
 .rename_i t len V B;split at h
  .rename_i e I;split at h
   .split at h
    .rename_i size F;split at h
     .rename_i hc;cases h;obtain⟨c1,c2,K,L,N,c6⟩:=hc;exact CT B I F c1 c2 K L N c6 C hi A
     .cases h
    .cases h
   split at h
   .rename_i Y;split at h
    .rename_i hc;cases h;obtain⟨c1,c2,K,L,N⟩:=hc;simp only[uP,jE]at Y;exact Ct B I c1 c2 K L N Y.2.2 (λhn=>by rw[hn]at Y;simp at Y) C hi A
    .cases h
   split at h
   .rename_i size ds F hp;split at h
    .rename_i hc;obtain⟨c1,c2,K,L,N,c6,c7⟩:=hc;have Z:V.toList.any (λ(_,x)=>(ρ x).lends)=false:=by simpa using c7
     split at h
     .cases h;exact xH B I F c1 hp c2 K L N c6 Z C hi A
     .split at h
      .rename_i he';split at h
       .split at h
        .rename_i hem;cases h;subst he';exact sS B I F c1 hp c2 K L N c6 Z (by simpa using hem) C hi A
        .rename_i hem;split at h
         .rename_i hel;cases h;exact sk B I F c1 hp c2 K L N c6 Z (by simpa using hem) hel C hi A
         .cases h
       .cases h;exact sM B I F c1 hp c2 K L N c6 Z C hi A
      .cases h
    .cases h
   .cases h
  .cases h
 .rename_i t x B;split at h
  .exact wL B C hi A h
  .split at h
   .rename_i cs H1 h1;simp only[j5]at h;obtain⟨y,hy,h⟩:=h;cases h;exact Ip B C hi A h1 hy
   .cases h
 .rename_i t x y B;split at h
  .exact mZ B C hi A h
  .split at h
   .exact Hr B C hi A h
   .split at h
    .rename_i hy;exact EC B hy C hi A h
    .split at h
     .rename_i W;split at h
      .rename_i hg;subst hg;exact Ee B (Zb W) C hi A h
      .cases h
     .cases h
    .cases h
 .rename_i x B;split at h
  .rename_i i off E;cases h;exact ny B E (.inl ⟨_,_,rfl⟩) C hi A
  .rename_i cs E;cases h;exact ny B E (.inr (.inl ⟨_,rfl⟩)) C hi A
  .rename_i f cap E;cases h;exact ny B E (.inr (.inr (.inl ⟨_,_,rfl⟩))) C hi A
  .rename_i f fi cap E;cases h;exact ny B E (.inr (.inr (.inr ⟨_,_,_,rfl⟩))) C hi A
  .cases h
 .rename_i f first cap B
  split at h
  .rename_i R;obtain rfl:first=#[]:=by simpa using R
   split at h
   .rename_i hc;obtain rfl:cap=#[]:=by simpa using hc
    cases h;exact Ak B C hi
   .cases h;exact Dr B C hi A
  .cases h
 .rename_i t l c B;split at h
  .split at h
   .rename_i e I;split at h
    .rename_i z bytes l' c' Q F W hl hc;split at h
     .rename_i G;obtain⟨c1,c2,K,L,N⟩:=G;cases h;exact AJ B I Q F W hl hc c1 c2 K L N C hi A
     .cases h
    .cases h
   .cases h
  .rename_i jj ee ow';by_cases h80:8000<=jj
   .rw[ai h80]at h;split at h
    .rename_i e I;split at h
     .rename_i z bytes l' c' Q F W hl hc;split at h
      .rename_i G;obtain⟨c1,rfl,K,L,N⟩:=G;cases h;exact tG B I Q F W hl hc c1 K L N C hi A
      .cases h
     .cases h
    .cases h
   rw[af h80]at h;by_cases h10:jj=1000
   .rw[ai h10]at h;split at h
    .rename_i e I;split at h
     .rename_i z size bytes l' c' Q F W hl hc;split at h
      .rename_i G;obtain⟨rfl,rfl⟩:=G;exact Eh B I Q F W hl hc h C hi A
      .cases h
     .cases h
    .cases h
   rw[af h10]at h;split at h
   .rename_i e I;split at h
    .rename_i z bytes l' c' Q F W hl hc;split at h
     .rename_i G;obtain⟨rfl,rfl,c2,K,L,N⟩:=G;cases h;exact tm B I Q F W hl hc c2 K L N C hi A
     .cases h
    .cases h
   .cases h
 .rename_i t B;split at h
  .cases h;exact EJ B C hi
  .cases h
 .rename_i t x B;split at h
  .rename_i s hu E;cases h;exact Cx B hu E C hi A
  .cases h
 .rename_i x B;split at h
  .rename_i i E;split at h
   .rename_i s pos hm;rw[j9,Prod.ext_iff]at h;obtain⟨rfl,rfl⟩:=h;exact L5 B E hm C hi A
   .cases h
  .cases h
 .rename_i t m k x B;split at h
  .rename_i i hm;split at h
   .rename_i es J;split at h
    .rename_i kv e j v R;cases h;exact mq (.inl B) hm (jz J) (kx J) R C hi A
    .rename_i kv e R;cases h;exact mq (.inl B) hm (jz J) (kx J) R C hi A
    .cases h
   .cases h
  .cases h
 .rename_i t m k x B;split at h
  .rename_i i hm;split at h
   .rename_i es J;split at h
    .rename_i kv e j v R;cases h;exact mq (.inr B) hm (jz J) (kx J) R C hi A
    .rename_i kv e R;cases h;exact mq (.inr B) hm (jz J) (kx J) R C hi A
    .cases h
   .cases h
  .cases h
 .rename_i t m k ok B;split at h
  .rename_i i hm;split at h
   .rename_i es J;split at h
    .rename_i kv e j v R;cases h;exact yl (q:=v) B hm (jz J) (kx J) R rfl C hi A
    .rename_i kv e R;simp only[j5]at h;obtain⟨z,Q,h⟩:=h;cases h;exact yl (q:=.dat z) B hm (jz J) (kx J) R ⟨z,Q,rfl⟩ C hi A
    .cases h
   .cases h
  .cases h
 .rename_i s x f B;split at h
  .rename_i fs S;split at h
   .rename_i fd T;split at h
    .rename_i k hk;split at h
     .rename_i i off E;cases h;exact tD B S T hk E C hi A
     .rename_i cs E;cases h;exact rS B S T hk E C hi A
     .cases h
    .cases h
   .cases h
  .cases h
 .rename_i t x ix B;split at h
  .rename_i k n U;split at h
   .rename_i e I;split at h
    .rename_i size F;split at h
     .rename_i h0;split at h
      .rename_i es E;split at h
       .rename_i d X;split at h
        .rename_i hn;cases h;exact nZ B I F U (by rw[E];rfl) h0 X hn C hi A
        .cases h
       .cases h
      .rename_i t' es E;split at h
       .rename_i d X;split at h
        .rename_i hn;cases h;exact nZ B I F U (by rw[E];rfl) h0 X hn C hi A
        .cases h
       .cases h
      .rename_i i off len cap E;split at h
       .rename_i hn;cases h;exact ta B I F U E h0 hn C hi A
       .cases h
      .rename_i tt gg lo len cap E;split at h
       .rename_i hn;obtain⟨_,hn⟩:=hn;cases h;exact uH B I F U E h0 hn C hi A
       .cases h
      .cases h
     .cases h
    .cases h
   .split at h
    .rename_i len e I;split at h
     .rename_i size cs F E;split at h
      .rename_i hn;cases h;exact sr B I F U E hn.1 hn.2 C hi A
      .cases h
     .rename_i size i off F E;split at h
      .rename_i hn;cases h;exact tj B I F U E hn.1 hn.2 C hi A
      .cases h
     .cases h
    .cases h
  .cases h
 .rename_i t x lo hi' B
  have key:∀es,wJ (ρ x)=some es->(match fA P t with
    |some e=>
     match iD ρ 0 lo,iD ρ es.length hi',fJ P e with
     |some l,some h,some size=>if l<=h/\h<=es.length/\(l==0||es.all λd=>d.num==size)then some (PV.dat (.lst ((es.take h).drop l)),H)else none
     |_,_,_=>none
    |none=>none)=some (p,H')->oA P B0 w0 S0 H g w o a p H':=λes E h=>by
   split at h
   .rename_i e I;split at h
    .rename_i l hh size hl hhh F;split at h
     .rename_i hc;obtain⟨c1,c2,K⟩:=hc;cases h;refine Am B I F E hl hhh c1 c2 ?_ C hi A;simp only[zS,bo,j8]at K;exact K
     .cases h
    .cases h
   .cases h
  split at h
  .rename_i es E;exact key es (by rw[E];rfl) h
  .rename_i t' es E;exact key es (by rw[E];rfl) h
  .rename_i tt gg l0 len cap E;split at h
   .rename_i e I;split at h
    .rename_i F;simp only[j5]at h;obtain⟨q,hq,h⟩:=h;cases h;exact C7 B I F E hq C hi A
    .cases h
   .cases h
  .rename_i i off len cap E;split at h
   .rename_i e I;split at h
    .rename_i size F;simp only[j5]at h;obtain⟨q,hq,h⟩:=h;cases h;exact AP B I F E hq C hi A
    .cases h
   .cases h
  .exact lP (by simp[B]) C hi A h
 .rename_i t x lo hi' mx B;split at h
  .rename_i e I;split at h
   .rename_i n l hh m hn hl hhh hm;split at h
    .rename_i hc;obtain⟨c1,c2,K,L⟩:=hc;obtain⟨ad,O,hnil⟩:=Eb (P:=P) (o:=o) B I L hn hl hhh hm c1 c2 K A;split at h
     .rename_i e;subst e;rw[cB]at O;split at h
      .cases h;refine⟨_,g,w,O,.same C hi (.dat _ _ ?_)⟩;cases ad with
       |none=>rw[hnil rfl];exact .nil
       |some a=>exact .empty _ _
      .split at h
       .rename_i Q;obtain⟨rfl,rfl⟩:=Q;cases h;obtain⟨g',hg⟩:=qD (P:=P) C hi _ ad;exact⟨_,g',w,O,hg⟩
       .cases h
     .cases h;exact⟨_,g,w,O,.same C hi (.undef _)⟩
    .cases h
   .cases h
  .cases h
 .rename_i t x f B;split at h
  .rename_i cs E;simp only[bN,jK]at h;obtain⟨fs,S,fd,T,size,F,ag,hg,d,⟨ds,hc,X⟩,h⟩:=h;cases h;exact Ar B E S T F hg hc X C hi A
  .rename_i cs E;simp only[bN,jK]at h;obtain⟨fs,S,fd,T,size,F,ag,hg,d,⟨ds,hc,X⟩,h⟩:=h;cases h;exact zw B E S T F hg hc X C hi A
  .cases h
 .rename_i x k B;split at h
  .rename_i vs E;simp only[j5]at h;obtain⟨q,hq,h⟩:=h;cases h;exact EA B E hq C hi A
  .cases h
 .rename_i c B;obtain⟨callee,args,ts⟩:=c;simp only at h;split at h
  .rename_i f;exact absurd B (hnc _ _ _)
  .rename_i b;split at h
   .rename_i r hr;cases h;exact A9 B C hi A hr
   .exact lP (by simp[B]) C hi A h
  .cases h
 .rename_i B;split at h
  .rename_i hn;cases h;exact⟨_,g,w,.inl (Ha B A hn),Good.same C hi (.dat _ _ (.raw _ rfl))⟩
  .split at h
   .rename_i hn;cases h;exact⟨_,g,w,.inl (DC B A hn),Good.same C hi (.dat _ _ (.raw _ rfl))⟩
   .exact lP (by simp[B]) C hi A h
 .rename_i B;exact lP (by simp[B]) C hi A h
 .rename_i B;exact lP (by simp[B]) C hi A h
 .rename_i B;exact lP (by simp[B]) C hi A h
 .cases h
end
end Go.Pm
