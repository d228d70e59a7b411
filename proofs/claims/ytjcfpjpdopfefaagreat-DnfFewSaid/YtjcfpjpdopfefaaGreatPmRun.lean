/-
 The pure machine: soundness of regions in the text's order, of control, of loops.
-/
import Derived.Test.YtjcfpjpdopfefaaGreatPmTurn
import Derived.LoopNIn
import Derived.TacticsIn
namespace Go.Pm
open Go Go.RowKit
set_option linter.all false
def rm(F:Fence):Prop:=F=Fence.wide\/∃l,F=Fence.wide.inRound l
theorem rm.fn{F:Fence}(h:rm F)(f:fo):F.fn f:=by rcases h with rfl|⟨l,rfl⟩<;>exact trivial
theorem rm.depth{F:Fence}(h:rm F):F.depth=none:=by rcases h with rfl|⟨l,rfl⟩<;>rfl
theorem rm.calls{F:Fence}(h:rm F){n:Nat}{P:fm}{f:fo}{args:Array Value}{w:fk}{R:Ending->fk->Prop}(hc:Calls P f args w R):CallsIn F n P f args w R:=by
 rcases h with rfl|⟨l,rfl⟩
 .exact callsIn_wide.2 hc
 .exact(callsIn_wide (n:=n)).2 hc
structure kT (P:fm) (B0:Nat) (w0:fk) (S0:Nat->Nat->Prop) (Nb:Nat) (g:Gh) (st:St) (a:Act) (w:fk):Prop where
 heap:Qm P g B0 st.heap.length st.heap w
 inv:Inv B0 w0 S0 g w
 rep:qP g st.heap.length w a.tmps st.slots
 base:Nb<=st.heap.length
def gS(S:Nat->Nat->Prop):Gh:={blk:=λ_=>0,live:=λ_=>False,own:=λ_=>none,S}
theorem lX{P:fm}{B0:Nat}{S0:Nat->Nat->Prop}{w0:fk}:Qm P (gS S0) B0 0 [] w0:=⟨λi cs h=>by simp at h,λi e n h=>by simp at h,λi e n cs h=>by simp at h,λi es h=>by simp at h,λi e cs h=>by simp at h,λi x h=>by simp at h,λi j b h=>by simp[occ]at h⟩
theorem rz:∀(cs:List PV),(gQ cs).isSome=true->∀c∈cs,∃d,c=.dat d
 |[],_,c,hc=>by cases hc
 | .dat d::r,h,c,hc=>by
  simp only[gQ,Option.isSome_map]at h;rcases aq.1 hc with rfl|hc
  .exact⟨d,rfl⟩
  .exact rz r h c hc
 | .agg _::_,h,_,_=>by cases h
 | .tup _::_,h,_,_=>by cases h
 | .vec ..::_,h,_,_=>by cases h
 | .ptr ..::_,h,_,_=>by cases h
 | .iptr ..::_,h,_,_=>by cases h
 | .arr ..::_,h,_,_=>by cases h
 | .fn ..::_,h,_,_=>by cases h
 | .ms ..::_,h,_,_=>by cases h
 | .mp ..::_,h,_,_=>by cases h
 | .mapv ..::_,h,_,_=>by cases h
 | .empv ..::_,h,_,_=>by cases h
 | .undef::_,h,_,_=>by cases h
section
variable{P:fm}{B0:Nat}{w0:fk}{S0:Nat->Nat->Prop}{Nb:Nat}{F:Fence}{m:Nat}{pf:fo->Bool}{call:gk}{h:Hint}
theorem Cd(r:iX P pf call){f:fo}{H:List fB}{es:List (Value×PV)}{g:Gh}{w:fk}{vals:Array Value}(hc:call f (([]:List fy).map .dat) []=some (.mapv 0,[.map es]))(A:es.all (λe=>e.2.plainCell)=true)(hn:vals.size=0)(B:Qm P g B0 H.length H w)(hi:Inv B0 w0 S0 g w)(L:ij g w):
  (∃fn c,P.funcs[f]?=some fn/\fn.body=some c/\(fn.name== "runtime.NumGoroutine")=false)/\Calls P f vals w λe w'=>∃v g',e= .returned v/\Good P B0 w0 S0 H g w (.mapv H.length) (H++[.map es]) v g' w':=by
 obtain⟨k1,_,k3⟩:=r _ _ _ _ _ hc;refine⟨k1,(k3 w.heap.size w g.S (gS g.S) w vals (by simpa using hn) (λj v q z M=>by simp at M) lX ⟨Below.refl _ _,j7 _,λb o h=>.inl h,hi.lt⟩ (L.ofS λ_ _ h=>h)).mono λe' C O=>?_⟩;obtain⟨v,z,rfl,D⟩:=O;have s:=D.inv.below;obtain⟨m1,⟨arr,clock,m2,m3,m4⟩,m5⟩:=D.heap.map 0 es rfl
 let G:Gh:={blk:=λj=>if j=H.length then z.blk 0 else g.blk j,live:=λj=>j=H.length\/g.live j,own:=g.own,S:=g.S}
 have d:G.blk H.length=z.blk 0:=by simp[G]
 have k:Ext H.length g w G C:=⟨λ_ _ h=>h,λb o u=>s.cell (p:=⟨b,o,none⟩) (hi.lt b o u),λi y h=>⟨by simp only[G];rw[af y8],.inr h⟩,λt Q v n h=>⟨v,n,h,j7 _,λ_=>rfl⟩⟩
 have R:v=.map (some (z.blk 0)):=by
  have:=D.rep;cases this;rfl
 have l:∀i b,occ G H i=some b->occ g H i=some b:=λi b h=>gD (g:=g) h (λj T=>by simp only[G];rw[af y8]) (λj T=>rfl)
 have x:Qm P G B0 (H.length+1) H C:=B.keep k (eH _) (j7 _) (λi b h=>s.block b (B.occ_lt h).2.1) (λi b h o u=>u) (λt Q=>rfl);refine⟨v,G,rfl,k,by simp,?_,?_,⟨hi.below.trans (s.mono hi.size),jW hi.size s.size,hi.old,λb o u=>jP (hi.lt b o u) s.size⟩,Fr.old s.size (λb h=>s.block b h) (λi b h y=>?_) (λb o h=>.inl h)⟩
 .have:=fC.mapv (g:=G) (N:=(H++[fB.map es]).length) (w:=C) H.length ⟨by simp,.inl rfl⟩;rw[d]at this;rw[R];exact this
 .rw[jV];refine x.snoc _ (λ_ h=>by cases h) (λ_ _ h=>by cases h) (λi b h I=>?_) (hmap:=λU h=>?_)
  .rw[iY (es:=es) yA,d]at I;cases I;have V:=(B.occ_lt (l i _ h)).2.1;omega
  .cases h;rw[d];refine⟨jW hi.size m1,⟨arr,clock,m2,m3,λj m c J E=>⟨(m4 j m c J E).1,?_⟩⟩,λo u=>?_⟩
   .have F:=an.1 A c (jF E);have K:=(m4 j m c J E).2;generalize c.2=q at F K;cases q<;>first|(simp[PV.plainCell]at F;done)|skip
    exact .dat _ _ (mQ K.datInv (by simpa[PV.plainCell]using F))
   .have:=hi.lt _ o u;omega
 .rcases sP h with h|⟨_,rfl⟩
  .exact⟨i,l i b h⟩
  .rw[d]at y;omega
theorem CD(A:iX P pf call){f:fo}{args:List PV}{H H':List fB}{g:Gh}{w:fk}{p:PV}{vals:Array Value}(s:kf call f args H=some (p,H'))(hn:vals.size=args.length)(hr:∀(j:Nat) v q,vals[j]?=some v->args[j]?=some q->fC g H.length w v q)(Q:Qm P g B0 H.length H w)(hi:Inv B0 w0 S0 g w)(hG:ij g w):
  (∃fn c,P.funcs[f]?=some fn/\fn.body=some c/\(fn.name== "runtime.NumGoroutine")=false)/\Calls P f vals w λe w'=>∃v g',e= .returned v/\Good P B0 w0 S0 H g w p H' v g' w':=by
 unfold kf at s;split at s
 case h_2=>cases s
 rename_i ds X;split at s
 case h_3=>cases s
 case h_2=>
  rename_i es hc;split at s
  case isFalse=>cases s
  rename_i m;simp only[j9,jI]at s;obtain⟨rfl,rfl⟩:=s;have Y:args=[]:=dd.1 m.1;subst Y;have Z:ds=[]:=by simpa[gp]using X.symm
  subst Z;exact Cd A hc m.2 hn Q hi hG
 rename_i t gg len cp H1 hc;split at s
 case h_2=>cases s
 rename_i e g' cs hm;split at s
 case isFalse=>cases s
 rename_i m;obtain⟨rfl,J,hdat,r⟩:=m;cases s;obtain⟨p1,p2⟩:=jl _ _ X;obtain⟨k1,_,k3⟩:=A _ _ _ _ _ hc
 have B:∀(j:Nat) v d,vals[j]?=some v->ds[j]?=some d->∃q,args[j]?=some q/\fC g H.length w v q/\iu H q=some d:=λj v d C F=>by
  have hlt:j<args.length:=by rw[<-p1];exact(ae.1 F).1
  have hq:args[j]?=some args[j]:=jC hlt;exact⟨_,hq,hr j v _ C hq,p2 j _ d hq F⟩
 obtain⟨K,hSlt,R,L,hSup⟩:∃K:Nat->Nat->Prop,(∀b o,K b o->b<w.heap.size)/\(∀(j:Nat) v d,vals[j]?=some v->ds[j]?=some d->fY w K v d)/\(args.any PV.lends=false->∀b o,K b o->g.S b o)/\(∀b o,g.S b o->K b o):=by
  by_cases hl:args.any PV.lends=true
  .refine⟨(g.drop H 0).S,λb o k=>?_,λj v d C F=>?_,λh=>(by rw[hl]at h;cases h),λ_ _ h=>.inl h⟩
   .rcases k with k|⟨j,hj,hjb,_⟩
    .exact hi.lt b o k
    .exact(Q.occ_lt hjb).2.1
   .obtain⟨q,h1,y,h3⟩:=B j v d C F;exact lL Q y h3
  .refine⟨g.S,hi.lt,λj v d C F=>?_,λ_ _ _ h=>h,λ_ _ h=>h⟩;obtain⟨q,h1,y,h3⟩:=B j v d C F;refine mv y h3 ?_;have:=bp.1 (by simpa using hl) q (jF h1)
   simpa using this
 refine⟨k1,(k3 w.heap.size w K (gS K) w vals y9 (λj v q C F=>?_) lX ⟨Below.refl _ _,j7 _,λb o h=>.inl h,hSlt⟩ (hG.ofS hSup)).mono λe' w1 he=>?_⟩
 .simp only[jD,j5]at F;obtain⟨d,hd,rfl⟩:=F;exact .dat _ _ (R j v d C hd)
 obtain⟨v,C,rfl,hg⟩:=he
 let G:Gh:={blk:=g.blk,live:=g.live,own:=λj=>if j=H.length then some (v,1)else g.own j,S:=λb o=>g.S b o\/(C.S b o/\w.heap.size<=b)}
 have T:=hg.inv.below;have D:∀b o,C.S b o->K b o\/w.heap.size<=b:=hg.inv.old;have E:∀b o,G.S b o->g.S b o\/w.heap.size<=b:=λb o h=>h.imp id λh=>h.2
 have M:Ext H.length g w G w1:=⟨λ_ _ h=>.inl h,λb o k=>T.cell (p:=⟨b,o,none⟩) (hi.lt b o k),λ_ _ h=>⟨rfl,h⟩,λt ht v n h=>⟨v,n,by simp only[G];rw[af y8];exact h,j7 _,λ_=>rfl⟩⟩;have z:G.own H.length=some (v,1):=by simp[G]
 obtain⟨v1,o1,o2⟩:=hg.heap.mt t e g' cs (by have:=Zb hm;simpa using this)
 have key:KK v/\v=gP v 0 len/\(∃a c,v=.slice a len c/\len<=c/\(0<c->a.isSome=true))/\(∀b,fG v=some b->w.heap.size<=b)/\pG P G (H.length+1) B0 w1 e (cs.take len) v:=by
  have hrep:=hg.rep;cases hrep with
  |ms _ _ _ _ _ _ v0 n r1 r2 r3 r4 r5=>
   rw[r2]at o1;simp only[j9,jI]at o1;obtain⟨rfl,rfl⟩:=o1;obtain⟨hv,_⟩:=r4 rfl
   have hup:∀(u:fy) (x:fu),fY w1 C.S x u->args.any PV.lends=false->fY w1 G.S x u:=λu x U hl=>U.mono (λb o h=>by
    rcases D b o h with y|y
    .exact .inl (L hl b o y)
    .exact .inr ⟨h,y⟩) λ_ _ _=>rfl
   rcases o2 with⟨rfl,hv0⟩|⟨b,l,cap,cur,rfl,q0,q1,q2,q3,q4,q5,q6,q7,q8⟩|⟨b,l,cap,cur,size,da,rfl,q0,q1,q2,q3,q3',rfl,q4,q4',q5,q6,q7,q8⟩
   .obtain rfl:len=0:=by simpa using J
    rcases hv0 with rfl|⟨a,rfl⟩
    .subst hv;exact⟨.inl rfl,rfl,⟨none,0,rfl,j7 _,λh=>absurd h (jZ _)⟩,λb h=>by simp[fG,gP]at h,.inl ⟨rfl,.inl rfl⟩⟩
    .subst hv;refine⟨.inr (.inl ⟨_,rfl⟩),by simp[gP,Addr.add],⟨_,0,rfl,j7 _,λ_=>rfl⟩,λb h=>by simp[fG,gP]at h,.inl ⟨rfl,.inr ⟨_,rfl⟩⟩⟩
   .have V:v=.slice (some ⟨b,0,none⟩) len cap:=by rw[hv];simp[gP,Addr.add]
    subst V
    have hlc:len<=cap:=by
     obtain⟨a9,c9,e9,_,e10,_⟩:=r5;cases e9;exact e10
    refine⟨.inr (.inr ⟨b,len,cap,rfl⟩),by simp[gP,Addr.add],⟨_,cap,rfl,hlc,λ_=>rfl⟩,λb' h=>?_,.inr (.inl ⟨b,len,cap,cur,rfl,q0,jW hi.size q1,q2,q3,⟨by have:=q4.1;simp;omega,tz q4.2 len⟩,q5,q6,λo k=>k.elim (λk=>by have:=hi.lt b o k;omega) (λk=>q7 o k.1),λj u c N I=>?_⟩)⟩
    .simp[fG]at h;omega
    .rw[jR]at I;split at I
     .obtain⟨d,rfl⟩:=rz _ hdat c (jF (i:=j) (by rw[jR,ai (by assumption)];exact I));have U:=(q8 j u _ N I).datInv;by_cases hl:args.any PV.lends=true
      .rw[hl]at r;exact .dat _ _ (mQ U (an.1 (by simpa using r) (PV.dat d) (jF (i:=j) (by rw[jR,ai (by assumption)];exact I))))
      .refine .dat _ _ (U.mono (λb o h=>?_) λ_ _ _=>rfl);rcases D b o h with y|y
       .exact .inl (L (by simpa using hl) b o y)
       .exact .inr ⟨h,y⟩
     .cases I
   .have V:v=.slice (some ⟨b,0,none⟩) len cap:=by rw[hv];simp[gP,Addr.add]
    subst V;have hlen':len<=da.length:=by simpa using J
    refine⟨.inr (.inr ⟨b,len,cap,rfl⟩),by simp[gP,Addr.add],⟨_,cap,rfl,by omega,λ_=>rfl⟩,λb' h=>?_,.inr (.inr ⟨b,len,cap,cur,size,da.take len,rfl,q0,jW hi.size q1,q2,q3,q3',by rw[dM],yu q4 len,by rw[zV];omega,q5,q6,λo k=>k.elim (λk=>by have:=hi.lt b o k;omega) (λk=>q7 o k.1),λi j d u x N I a3=>?_⟩)⟩
    .simp[fG]at h;omega
    .have hmem:=jF N;rw[jR]at N;split at N
     .have U:=q8 i j d u x N I a3;by_cases hl:args.any PV.lends=true
      .rw[hl]at r;have k:d.scalar=true:=an.1 (by simpa using r) (PV.dat d) (by rw[<-dM];exact ar.2 ⟨d,hmem,rfl⟩);refine mQ U ?_;have hnum:=gC (an.1 q4 d (jF N));rw[oQ hnum q3']at k;have:=an.1 k u (jF I);cases u<;>simp_all [fy.scalar]
      .exact hup u x U (by simpa using hl)
     .cases N
 obtain⟨c1,c2,⟨a0,c0,c3,c4,c5⟩,c6,c7⟩:=key
 have W:Qm P G B0 (H.length+1) H w1:=Q.keep M (eH _) (j7 _) (λi b h=>T.block b (Q.occ_lt h).2.1) (λi b h o k=>by
  rcases E b o k with k|k
  .exact k
  .exact absurd (Q.occ_lt h).2.1 y8) (λt ht=>by simp only[G];rw[af y8])
 have O:∀i b,occ G H i=some b->occ g H i=some b:=λi b h=>gD (g:=g) h (λ_ _=>rfl) (λj hj=>by simp only[G];rw[af y8])
 refine⟨v,G,rfl,M,by simp,?_,?_,?_,?_⟩
 .exact .ms _ _ _ _ _ _ v 1 yA z (j7 _) (λ_=>⟨c2,c1⟩) ⟨a0,c0,c3,c4,c4,c5⟩
 .rw[jV];refine W.snoc _ (λ_ h=>by cases h) (λ_ _ h=>by cases h) (λi b h y=>?_) (λe2 n2 cs2 h=>?_)
  .rw[gJ (e:=e) (n:=1) (cs:=cs.take len) yA,z]at y;have h3:=(Q.occ_lt (O i b h)).2.1;have h4:=c6 b y;omega
  .cases h;exact⟨v,z,c7⟩
 .refine⟨hi.below.trans (T.mono hi.size),jW hi.size T.size,λb o k=>?_,λb o k=>?_⟩
  .rcases E b o k with k|k
   .exact hi.old b o k
   .exact .inr (jW hi.size k)
  .rcases k with k|k
   .exact jP (hi.lt b o k) T.size
   .exact hg.inv.lt b o k.1
 .refine Fr.old T.size (λb h=>T.block b h) (λi b h hlt=>?_) (λb o h=>(E b o h).imp id λh=>.inl h);rcases nw h with h|⟨_,h⟩
  .exact⟨i,O i b h⟩
  .rw[z]at h;have:=c6 b h;omega
theorem HX(m:iX P pf call){f:fo}{args:List PV}{H H1:List fB}{g:Gh}{w:fk}{p:PV}{ds:List fy}{d:fy}{vals:Array Value}(hl:¬args.any PV.lends=true)(y:gp H args=some ds)(hc:call f (ds.map .dat) []=some (p,H1))(u:iu H1 p=some d)(hn:vals.size=args.length)(F:∀(j:Nat) v q,vals[j]?=some v->args[j]?=some q->fC g H.length w v q)(z:Qm P g B0 H.length H w)(hi:Inv B0 w0 S0 g w)(G:ij g w):
  (∃fn c,P.funcs[f]?=some fn/\fn.body=some c/\(fn.name== "runtime.NumGoroutine")=false)/\Calls P f vals w λe w'=>∃v g',e= .returned v/\Good P B0 w0 S0 H g w (.dat d) H v g' w':=by
 obtain⟨p1,I⟩:=jl _ _ y;obtain⟨k1,_,k3⟩:=m _ _ _ _ _ hc;refine⟨k1,(k3 w.heap.size w g.S (gS g.S) w vals y9 (λj v q A E=>?_) lX ⟨Below.refl _ _,j7 _,λb o h=>.inl h,hi.lt⟩ (G.ofS λ_ _ h=>h)).mono λe w' x=>?_⟩
 .simp only[jD,j5]at E;obtain⟨d,u,rfl⟩:=E;have l:j<args.length:=by rw[<-p1];exact(ae.1 u).1
  have B:args[j]?=some args[j]:=jC l;have C:=bp.1 (by simpa using hl) _ (jF B);have J:fY w g.S v d:=mv (F j v _ A B) (I j _ d B u) (by simpa using C);exact .dat _ _ J
 obtain⟨v,A,rfl,r⟩:=x;have s:=r.inv.below
 have D:∀b o,(A.drop H1 0).S b o->g.S b o\/(w.heap.size<=b/\b<w'.heap.size):=λb o k=>by
  have l:b<w'.heap.size:=by
   rcases k with k|⟨j,_,t,_⟩
   .exact r.inv.lt b o k
   .exact(r.heap.occ_lt t).2.1
  rcases k with k|⟨j,_,t,_⟩
  .rcases r.inv.old b o k with h|h
   .exact .inl h
   .exact .inr ⟨h,l⟩
  .exact .inr ⟨(r.heap.occ_lt t).1,l⟩
 have K:fC {g with S:=λb o=>g.S b o\/(w.heap.size<=b/\b<w'.heap.size)} H.length w' v (.dat d):=.dat _ _ ((lL r.heap r.rep u).mono D λ_ _ _=>rfl)
 have x:Ext H.length g w {g with S:=λb o=>g.S b o\/(w.heap.size<=b/\b<w'.heap.size)} w':=
  ⟨λ_ _ h=>.inl h,λb o k=>s.cell (p:=⟨b,o,none⟩) (hi.lt b o k),λ_ _ h=>⟨rfl,h⟩,λ_ _ v n h=>⟨v,n,h,j7 _,λ_=>rfl⟩⟩
 refine⟨v,_,rfl,x,j7 _,K,z.keep x (j7 _) (j7 _) (λi b h=>s.block b (z.occ_lt h).2.1) (λi b h o k=>?_) (λ_ _=>rfl),⟨hi.below.trans (s.mono hi.size),jW hi.size s.size,λb o k=>?_,λb o k=>?_⟩,Fr.old s.size (λb h=>s.block b h) (λi b h _=>⟨i,gD (g:=g) h (λ_ _=>rfl) (λ_ _=>rfl)⟩) (λb o h=>h.imp id λh=>.inl h.1)⟩
 .rcases k with k|⟨k,_⟩
  .exact k
  .exact absurd (z.occ_lt h).2.1 y8
 .rcases k with k|⟨k,_⟩
  .exact hi.old b o k
  .exact .inr (jW hi.size k)
 .rcases k with k|⟨_,k⟩
  .exact jP (hi.lt b o k) s.size
  .exact k
theorem O8(l:iX P pf call){f:fo}{ops:List Operand}{args:List PV}{y e:Nat}{H H':List fB}{g:Gh}{w:fk}{a:Act}{p:PV}{ρ:ft->PV}(n:uR call f ops (ops.map ρ) y e H=some (p,H'))(s:∀x,fC g H.length w (a.eval x) (ρ x))(z:Qm P g B0 H.length H w)(hi:Inv B0 w0 S0 g w)(A:ij g w):
  (∃fn c,P.funcs[f]?=some fn/\fn.body=some c/\(fn.name== "runtime.NumGoroutine")=false)/\Calls P f (ops.map a.eval).toArray w λe w'=>∃v g',e= .returned v/\Good P B0 w0 S0 H g w p H' v g' w':=by
 unfold uR at n;split at n
 case h_2=>cases n
 rename_i t;have d:=yg (P:=P) (S0:=S0) (w0:=w0) z hi e;obtain⟨k1,_,k3⟩:=l _ _ _ _ _ n;refine⟨k1,(k3 B0 w0 S0 _ w (ops.map a.eval).toArray yA (λj v q u k=>?_) d.heap d.inv (A.ext d.ext)).mono λe' D B=>?_⟩
 .simp only[aO,jD,j5]at u;obtain⟨x,r,rfl⟩:=u;rw[zE]at k;split at k
  .rename_i C;subst C;split at k
   .simp at k;subst k;rw[t]at r;simp at r;subst r;exact d.rep
   .cases k
  .simp only[jD,r,jN,j9]at k;subst k;exact(s x).ext d.ext d.len
 .obtain⟨v,g',rfl,m⟩:=B;exact⟨v,g',rfl,d.ext.trans m.ext d.len,jW d.len m.len,m.rep,m.heap,m.inv,d.fr.trans m.fr⟩
theorem lE{f:fo}{fn:Func}{c:Code}(e:P.funcs[f]?=some fn)(g:fn.body=some c)(hn:(fn.name== "runtime.NumGoroutine")=false)(args:Array Value)(w:fk):
  (callFunc f args).run P w=.ok (.enter f args) w:=by
 have d:¬fn.name= "runtime.NumGoroutine" :=by simpa using hn
 simp[callFunc,e,g,d]
theorem s6(Y:rm F)(l:iX P pf call){ow:List (Nat×TypeId)}{o:Oper}{st:St}{p:PV}{H':List fB}{g:Gh}{a:Act}{w:fk}{K:Act->fk->Prop}{Q:Exit->Act->fk->Prop}(k:gq P call ow o (ev st.slots) st.heap=some (p,H'))(hst:kT P B0 w0 S0 Nb g st a w)(hK:∀v g' w',Good P B0 w0 S0 st.heap g w p H' v g' w'->K (a.put o.dst v) w'):o.wpIn F m P a w K Q:=by
 have I:∀x,fC g st.heap.length w (a.eval x) (ev st.slots x):=λx=>hst.rep.ev x
 refine⟨λf _=>Y.fn f,?_⟩;have hnd:∀c,o.op≠.defer c:=λc e=>by rw[gq]at k;simp[e]at k
 rw[Oper.semAt_eq _ _ _ hnd];by_cases hc:∃f args ts,o.op=.call {callee:=.value f,args,argTypes:=ts}
 .obtain⟨f,args,ts,ho⟩:=hc
  -- the callee and what it is called with
  have O:∀(r:gk),(∀n A X H2,r n A st.heap=some (X,H2)->(∃fn c,P.funcs[n]?=some fn/\fn.body=some c/\(fn.name== "runtime.NumGoroutine")=false)/\∀vals:Array Value,vals.size=A.length->(∀(j:Nat) v q,vals[j]?=some v->A[j]?=some q->fC g st.heap.length w v q)->Calls P n vals w λe w'=>∃v g',e= .returned v/\Good P B0 w0 S0 st.heap g w X H2 v g' w')->
    ∀(n:fo) (cap:List PV) (y:Array Value),a.eval f=.func (.func n) #[] y->y.size=cap.length->
    (∀(j:Nat) v q,y[j]?=some v->cap[j]?=some q->fC g st.heap.length w v q)->r n (args.toList.map (ev st.slots)++cap) st.heap=some (p,H')->
    o.uponIn F m P a K Q ((execOp a.eval o).run P w):=λr Z n cap y hf hl hcr S=>by
   obtain⟨⟨fn,c,M,T,h3⟩,h4⟩:=Z _ _ _ _ S
   have z:(execOp a.eval o).run P w=.ok (.enter n (args.map a.eval++y)) w:=by
    simp[execOp,ho,resolve,hf,Deferred.ofValue,invoke,lE M T h3]
   rw[z];refine⟨λB=>(by rw[Y.depth]at B;cases B),Y.calls ((h4 _ (by simp[hl]) (λj v q E D=>?_)).mono λe w' N=>?_)⟩
   .rw[aG]at E;rw[jT]at D;simp only[Array.size_map,jY,aP]at E D;split at E
    .rename_i hj;rw[ai hj]at D;simp only[zK,j5]at E;obtain⟨x,G,rfl⟩:=E;simp only[jD,zH,G,jN,j9]at D;subst D;exact I x
    .rename_i hj;rw[af hj]at D;exact hcr _ v q E D
   .obtain⟨v,g',rfl,H⟩:=N;exact hK v g' w' H
  have t:=I f
  have L:∀(r:gk),(∀n A X H2,r n A st.heap=some (X,H2)->(∃fn c,P.funcs[n]?=some fn/\fn.body=some c/\(fn.name== "runtime.NumGoroutine")=false)/\∀vals:Array Value,vals.size=A.length->(∀(j:Nat) v q,vals[j]?=some v->A[j]?=some q->fC g st.heap.length w v q)->Calls P n vals w λe w'=>∃v g',e= .returned v/\Good P B0 w0 S0 st.heap g w X H2 v g' w')->
    lz r (ev st.slots f) (args.toList.map (ev st.slots)) st.heap=some (p,H')->o.uponIn F m P a K Q ((execOp a.eval o).run P w):=λr Z k=>by
   unfold lz at k;split at k
   .rename_i n first cap G
    rw[G]at t;have B:=t.datInv;have J:=t.toVal (u:=.func (.func n) first cap) rfl;rw[J]at B;have s:isRaw (.func (.func n) first cap)=true:=by cases B;assumption
    simp only[isRaw,jE,cK]at s;obtain⟨rfl,rfl⟩:=s;exact O r Z n [] #[] J rfl (λj v q h=>by simp at h) (by simpa using k)
   .rename_i n cap G;rw[G]at t;generalize J:a.eval f=vf at t;cases t with
    |fn f vs cs M T=>exact O r Z _ cap vs J M T k
   .cases k
  have hcG:∀n A X H2,call n A st.heap=some (X,H2)->(∃fn c,P.funcs[n]?=some fn/\fn.body=some c/\(fn.name== "runtime.NumGoroutine")=false)/\∀vals:Array Value,vals.size=A.length->(∀(j:Nat) v q,vals[j]?=some v->A[j]?=some q->fC g st.heap.length w v q)->Calls P n vals w λe w'=>∃v g',e= .returned v/\Good P B0 w0 S0 st.heap g w X H2 v g' w':=λn A X H2 h=>by
   obtain⟨k1,_,k3⟩:=l _ _ _ _ _ h;exact⟨k1,λvals hn hr=>k3 B0 w0 S0 g w vals hn hr hst.heap hst.inv hst.rep.glob⟩
  have U:lz call (ev st.slots f) (args.toList.map (ev st.slots)) st.heap=some (p,H')->o.uponIn F m P a K Q ((execOp a.eval o).run P w):=L call hcG
  have winf:∀b d,qx call (ev st.slots f) (args.toList.map (ev st.slots)) b d st.heap=some (p,H')->o.uponIn F m P a K Q ((execOp a.eval o).run P w):=λb d k=>L (DU call b d) (λn A X H2 h=>by
   unfold DU at h;by_cases hlb:st.heap.length<=b
   .rw[ai hlb]at h;refine⟨?_,λvals hn hr=>(OZ l h hn hr hst.heap hst.inv hst.rep.glob).2⟩;unfold wX at h;split at h
    case isFalse=>cases h
    split at h
    case h_2=>cases h
    rename_i S;exact(l _ _ _ _ _ S).1
   .rw[af hlb]at h;refine⟨?_,λvals hn hr=>(Om l h hn hr hst.heap hst.inv hst.rep.glob).2⟩;unfold th at h;split at h
    case isFalse=>cases h
    split at h
    case h_2=>cases h
    rename_i V;unfold iI at V;split at V
    case isFalse=>cases V
    split at V
    case h_2=>cases V
    rename_i S;exact(l _ _ _ _ _ S).1) k
  have key:∀(n:fo) (cap:List PV) (y:Array Value),a.eval f=.func (.func n) #[] y->y.size=cap.length->
    (∀(j:Nat) v q,y[j]?=some v->cap[j]?=some q->fC g st.heap.length w v q)->call n (args.toList.map (ev st.slots)++cap) st.heap=some (p,H')->
    o.uponIn F m P a K Q ((execOp a.eval o).run P w):=O call hcG
  have W:∀d,kF call (ev st.slots f) (args.toList.map (ev st.slots)) d st.heap=some (p,H')->o.uponIn F m P a K Q ((execOp a.eval o).run P w):=λd k=>by
   unfold kF at k;split at k
   case h_2=>cases k
   rename_i n first cap G
   rw[G]at t;have B:=t.datInv;have J:=t.toVal (u:=.func (.func n) first cap) rfl;rw[J]at B;have s:isRaw (.func (.func n) first cap)=true:=by cases B;assumption
   simp only[isRaw,jE,cK]at s;obtain⟨rfl,rfl⟩:=s
   have C:=BZ l (vals:=args.map a.eval) k yA (λj v q E D=>by
    simp only[zK,j5]at E;obtain⟨x,G,rfl⟩:=E;simp only[jD,zH,G,jN,j9]at D;subst D;exact I x) hst.heap hst.inv hst.rep.glob
   obtain⟨⟨fn,c,M,T,h3⟩,h4⟩:=C
   have z:(execOp a.eval o).run P w=.ok (.enter n (args.map a.eval)) w:=by
    simp[execOp,ho,resolve,J,Deferred.ofValue,invoke,lE M T h3]
   rw[z];refine⟨λB=>(by rw[Y.depth]at B;cases B),Y.calls (h4.mono λe w' N=>?_)⟩;obtain⟨v,g',rfl,H⟩:=N;exact hK v g' w' H
  rw[gq]at k;simp only[ho]at k;split at k
  case h_2=>
   rename_i jj ee ow';by_cases h13:13000<=jj
   .rw[ai h13]at k;unfold oq at k;split at k
    case h_2=>cases k
    rename_i q R hf
    have hR:R=st.heap/\q=p/\H'=st.heap:=by
     split at k
     .rename_i N;cases k;exact⟨r6 N,rfl,rfl⟩
     .split at k
      .rename_i N;cases k;exact⟨N,rfl,rfl⟩
      .cases k
    obtain⟨e1,e2,e3⟩:=hR;exact W _ (by rw[hf,e1,e2,e3])
   rw[af h13]at k;by_cases h12:12000<=jj
   .rw[ai h12]at k;by_cases h125:12500<=jj
    .rw[ai h125]at k;exact winf _ _ k
    .rw[af h125]at k;exact W _ k
   rw[af h12]at k;by_cases h70:jj=7000
   .rw[ai h70]at k;unfold oe at k;split at k
    case h_2=>cases k
    rename_i n first cap G
    split at k
    .cases k
    rename_i hl;split at k
    case h_2=>cases k
    rename_i ds hps;split at k
    case h_2=>cases k
    rename_i p1 H1 hc1;simp only[j5]at k;obtain⟨d,hd1,k⟩:=k;cases k;rw[G]at t;have B:=t.datInv;have J:=t.toVal (u:=.func (.func n) first cap) rfl;rw[J]at B;have s:isRaw (.func (.func n) first cap)=true:=by cases B;assumption
    simp only[isRaw,jE,cK]at s;obtain⟨rfl,rfl⟩:=s
    have C:=HX l (vals:=args.map a.eval) hl hps hc1 hd1 yA (λj v q E D=>by
     simp only[zK,j5]at E;obtain⟨x,G,rfl⟩:=E;simp only[jD,zH,G,jN,j9]at D;subst D;exact I x) hst.heap hst.inv hst.rep.glob
    obtain⟨⟨fn,c,M,T,h3⟩,h4⟩:=C
    have z:(execOp a.eval o).run P w=.ok (.enter n (args.map a.eval)) w:=by
     simp[execOp,ho,resolve,J,Deferred.ofValue,invoke,lE M T h3]
    rw[z];refine⟨λB=>(by rw[Y.depth]at B;cases B),Y.calls (h4.mono λe w' N=>?_)⟩;obtain⟨v,g',rfl,H⟩:=N;exact hK v g' w' H
   rw[af h70]at k;by_cases h60:6000<=jj
   .rw[ai h60]at k;unfold pN at k;split at k
    .rename_i v' H1 M;split at k
     .cases k;exact U M
     .cases k
    .cases k
   rw[af h60]at k;split at k
   case h_2=>cases k
   rename_i n first cap G
   rw[G]at t;have B:=t.datInv;have J:=t.toVal (u:=.func (.func n) first cap) rfl;rw[J]at B;have s:isRaw (.func (.func n) first cap)=true:=by cases B;assumption
   simp only[isRaw,jE,cK]at s;obtain⟨rfl,rfl⟩:=s
   have C:(∃fn c,P.funcs[n]?=some fn/\fn.body=some c/\(fn.name== "runtime.NumGoroutine")=false)/\Calls P n (args.map a.eval) w λe w'=>∃v g',e= .returned v/\Good P B0 w0 S0 st.heap g w p H' v g' w':=by
    split at k
    .unfold si at k;split at k
     .rename_i p1 H1 M;simp only[j5]at k;obtain⟨⟨d,H2⟩,hc1,k⟩:=k;cases k
      obtain⟨k1,k2⟩:=CD l (w:=w) (vals:=args.map a.eval) M yA (λj v q E D=>by
       simp only[zK,j5]at E;obtain⟨x,G,rfl⟩:=E;simp only[jD,zH,G,jN,j9]at D;subst D;exact I x) hst.heap hst.inv hst.rep.glob
      refine⟨k1,k2.mono λe w' N=>?_⟩;obtain⟨v,E,rfl,H⟩:=N
      obtain⟨D,l2,e2,T,i2,f2,l3,r2⟩:=lM [p1] [v] E H1 [d] H2 H.heap H.inv (λj u c J hc=>by
       cases j with
       |zero=>simp at J hc;subst J hc;exact H.rep
       |succ j=>simp at J) (by simp[ga,hc1])
      exact⟨v,D,rfl,H.ext.trans e2 H.len,by rw[l2];exact H.len,.dat _ _ (r2 0 v d rfl rfl),by rw[l2];exact T,i2,H.fr.trans f2⟩
     .cases k
    split at k
    .have:=O8 l (w:=w) (a:=a) (args:=[]) k I hst.heap hst.inv hst.rep.glob;have e:(args.toList.map a.eval).toArray=args.map a.eval:=by apply Array.ext';simp
     rw[e]at this;exact this
    .exact CD l (w:=w) (vals:=args.map a.eval) k yA (λj v q E D=>by
      simp only[zK,j5]at E;obtain⟨x,G,rfl⟩:=E;simp only[jD,zH,G,jN,j9]at D;subst D;exact I x) hst.heap hst.inv hst.rep.glob
   obtain⟨⟨fn,c,M,T,h3⟩,h4⟩:=C
   have z:(execOp a.eval o).run P w=.ok (.enter n (args.map a.eval)) w:=by
    simp[execOp,ho,resolve,J,Deferred.ofValue,invoke,lE M T h3]
   rw[z];refine⟨λB=>(by rw[Y.depth]at B;cases B),Y.calls (h4.mono λe w' N=>?_)⟩;obtain⟨v,g',rfl,H⟩:=N;exact hK v g' w' H
  exact U k
 .obtain⟨v,g',w',hres,H⟩:=KM (a:=a) (λf args ts e=>hc ⟨f,args,ts,e⟩) hst.heap hst.inv I k;rcases hres with hr|⟨hr,rfl⟩
  .rw[hr];exact hK v g' w' H
  .rw[hr];exact hK undef g' w' H
theorem jw{g:Gh}{N:Nat}{w:fk}{tmps:Array Value}{s:List PV}{ops:Array Oper}{o:Oper}{b:Bool}(l:qP g N w tmps s)(hw:fU ops s o=some b):
  Region.wanted o (yielded ops tmps)=b:=by
 unfold fU at hw;unfold Region.wanted;split at hw
 .rename_i m;simp only[m];exact jS hw
 .rename_i j f m;simp only[m];split at hw
  .cases hw
  .rename_i d q;have e:=l.2 d;split at hw
   .rename_i n k;have c:d<tmps.size:=by rw[l.1];exact(ae.1 k).1
    rw[jB,k,aE]at e;have:=e.toVal (u:=.bool n) rfl;rw[jH,jA c,aE]at this
    have p:yielded ops tmps j=some n:=by
     unfold yielded;rw[q];simp[jA c,this]
    rw[p];have:=jS hw;rw[<-this];cases n<;>cases f<;>rfl
   .rename_i k;have c:d<tmps.size:=by rw[l.1];exact(ae.1 k).1
    rw[jB,k,aE]at e;rw[jH,jA c,aE]at e
    have p:yielded ops tmps j=none:=by
     unfold yielded;rw[q];simp only[zW,jA c];generalize tmps[d]=u at e;cases e;rfl
    rw[p];have:=jS hw;rw[<-this];rfl
   .cases hw
theorem mw{g:Gh}{N:Nat}{w:fk}:fC g N w undef (.tup []):=.tup _ _ rfl (λj v c h=>by simp at h)
theorem kT.put{g g':Gh}{st:St}{a:Act}{w w':fk}{p:PV}{H':List fB}{v:fu}(hst:kT P B0 w0 S0 Nb g st a w)(c:Good P B0 w0 S0 st.heap g w p H' v g' w')(d:Option Tmp):
  kT P B0 w0 S0 Nb g' ⟨lN st.slots d p,H'⟩ (a.put d v) w':=
 ⟨c.heap,c.inv,(hst.rep.ext c.ext c.len).put d c.rep,jW hst.base c.len⟩
theorem iH(a:Act)(d:Option Tmp)(v:fu):(a.put d v).defers=a.defers:=by cases d<;>rfl
theorem nB(p:rm F)(d:iX P pf call){r:Nat}{ops:Array Oper}{Q:Exit->Act->fk->Prop}:∀(os:List Oper) (i:Nat) (st st':St) (g:Gh) (a:Act) (w:fk),
  kP P call h r ops i os st=some st'->(∀j,os[j]?=ops[i+j]?)->kT P B0 w0 S0 Nb g st a w->
  (∀g' s w',Ext Nb g w g' w'->Fr g st.heap w g' st'.heap w'->kT P B0 w0 S0 Nb g' st' s w'->s.defers=a.defers->Q .normal s w')->wpOpsIn F m P ops Q (List.range' i os.length) a w
 |[],i,st,st',g,a,w,k,_,hst,q=>by
  cases k;exact q g a w (Ext.refl _ _ _) (Fr.refl _ _ _) hst rfl
 |o::os,i,st,st',g,a,w,k,hl,hst,q=>by
  have h0:ops[i]?=some o:=by simpa using(hl 0).symm
  have l:∀j,os[j]?=ops[i+1+j]?:=λj=>by have:=hl (j+1);rw[show i+1+j=i+(j+1) by omega];simpa using this
  simp only[zG,cA,wpOpsIn,h0];unfold kP at k;split at k
  .rename_i D c;unfold iJ at c;split at c
   .rename_i hw;rw[jw hst.rep hw,ai rfl];split at c
    .rename_i v H n;cases c;refine s6 p d n hst λu g' w' t=>?_
     refine nB p d os (i+1) _ _ g' _ w' k l (hst.put t o.dst) λx y z A B e C=>?_
     exact q x y z ((t.ext.less hst.base).trans A (j7 _)) (t.fr.trans B) e (C.trans (iH _ _ _))
    .cases c
   .rename_i hw;rw[jw hst.rep hw];simp only[j6,aj];cases c;refine⟨λf _=>p.fn f,?_⟩;refine nB p d os (i+1) _ _ g _ w k l ⟨hst.heap,hst.inv,hst.rep.put o.dst mw,hst.base⟩ λx y z A B e C=>?_
    exact q x y z A B e (C.trans (iH _ _ _))
   .cases c
  .cases k
end
end Go.Pm
