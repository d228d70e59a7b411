/-
 The pure machine: indices of the heap renamed; an operation that makes the heap longer does so at any place.
-/
import Derived.Test.YtjcfpjpdopfefaaGreatPmDraw
namespace Go.Pm
open Go Go.RowKit
set_option linter.all false
def vJ(n k i:Nat):Nat:=if i<n then i else k+(i - n)
theorem qG(n k i:Nat):vJ n k (n+i)=k+i:=by
 unfold vJ;rw[af y8];congr 1;omega
theorem sv{n k i:Nat}(h:i<n):vJ n k i=i:=by unfold vJ;rw[ai h]
section
variable{P:fm}{call:gk}{pf:fo->Bool}{ow:List (Nat×TypeId)}{o:Oper}{ρ:ft->PV}{H H' H2:List fB}{p:PV}
def Ka(P:fm)(call:gk)(ow:List (Nat×TypeId))(o:Oper)(ρ:ft->PV)(H H2 H':List fB)(p:PV):Prop:=
 ∃d c,gq P call ow o ρ H2=some (d,H2++c)/\p=d.ren (vJ H2.length H.length)/\H'=H++c.map (fB.ren (vJ H2.length H.length))/\∀x∈c,x≠fB.hole
theorem GI(j:fF pf ow o ρ=2)(h:gq P call ow o ρ H=some (p,H'))(L:∀x,(ρ x).ren (vJ H2.length H.length)=ρ x):Ka P call ow o ρ H H2 H' p:=by
 have h0:vJ H2.length H.length H2.length=H.length:=qG _ _ 0;have s:∀x,(ρ x).cells.map (PV.ren (vJ H2.length H.length))=(ρ x).cells:=λx=>by rw[<-Ho,L]
 have q:∀b:fB,b≠.hole->∀x∈[b],x≠fB.hole:=λb u x G=>by rw[ca.1 G];exact u
 unfold Ka;cases m:o.op with
 |alloc e=>
  simp only[gq,m]at h |-;split at h
  .rename_i z hz;split at h
   .rename_i cs bs M;cases h;rw[<-FR (vJ H2.length H.length)]at M;obtain⟨X,N,rfl⟩:=oB _ ow (H.length+1) (H2.length+1) _ _ _ (λi=>by rw[bP,qG,bP]) M;obtain⟨Y,Z⟩:=nE _ _ _ _ _ N (vJ H2.length H.length);simp only[N];refine⟨_,_,rfl,by simp[PV.ren,h0],by simp[fB.ren,Y],λx G=>?_⟩;rcases aq.1 G with rfl|G
    .intro h;cases h
    .exact Z x G
   .cases h
  .cases h
 |box e x=>
  cases ow with
  |cons=>simp[fF,m]at j
  |nil=>
  simp only[gq,m]at h |-;split at h
  .rename_i hc;cases h;rw[ai hc];exact⟨_,_,rfl,by simp[PV.ren,h0],by simp[fB.ren,s],q _ (by intro h;cases h)⟩
  .cases h
 |makeSlice t x y=>
  simp only[gq,m]at h |-;split at h
  .split at h
   .split at h
    .split at h
     .rename_i hc;cases h;simp only[*,and_self,ak];exact⟨_,_,rfl,by simp[PV.ren,h0],by simp[fB.ren,PV.ren],q _ (by intro h;cases h)⟩
     .cases h
    .cases h
   .cases h
  .rename_i C ee ow';have O:¬8000<=C:=λhc=>by simp[fF,m,hc]at j
   rw[af O]at h;rw[af O];by_cases D:C=1000
   .rw[ai D]at h;rw[ai D];split at h
    .split at h
     .split at h
      .rename_i hc;simp only[*,and_self,ak];unfold oJ at h |-;split at h
       .rename_i hc1;rw[ai hc1];split at h
        .rename_i I;cases h;rw[ai I];exact⟨_,_,rfl,by simp[PV.ren,h0],by simp[fB.ren],q _ (by intro h;cases h)⟩
        .rename_i I;cases h;rw[af I];exact⟨_,_,rfl,by simp[PV.ren,h0],by simp[fB.ren,PV.ren],q _ (by intro h;cases h)⟩
       .cases h
      .cases h
     .cases h
    .cases h
   rw[af D]at h;rw[af D];split at h
   .split at h
    .split at h
     .rename_i hc;cases h;simp only[*,and_self,ak];exact⟨_,_,rfl,by simp[PV.ren,h0],by simp[fB.ren,PV.ren],q _ (by intro h;cases h)⟩
     .cases h
    .cases h
   .cases h
 |assign x=>
  cases ow with
  |nil=>simp[fF,m]at j
  |cons =>
   simp only[gq,m]at h |-;split at h
   .split at h<;>rename_i hc<;>cases h<;>simp only[hc]<;>exact⟨_,_,rfl,by simp[PV.ren,h0],by simp[fB.ren],q _ (by intro h;cases h)⟩
   .cases h
 |slice t x lo hi W=>
  cases ow with
  |nil=>cases hi<;>cases W<;>simp[fF,m]at j
  |cons =>
   cases hi with
   |none=>cases W<;>simp[fF,m]at j
   |some hi=>
    cases W with
    |none=>simp[fF,m]at j
    |some W=>
     simp only[gq,m]at h |-;split at h
     .split at h
      .split at h
       .rename_i hc;simp only[*,and_self,ak];split at h
        .rename_i hl;rw[ai hl];split at h
         .rename_i hl0;cases h;rw[ai hl0];exact⟨_,_,rfl,by simp[PV.ren,h0],by simp[fB.ren],q _ (by intro h;cases h)⟩
         .cases h
        .rename_i hl;cases h;rw[af hl];exact⟨.undef,[],by simp,by simp[PV.ren],by simp,by simp⟩
       .cases h
      .cases h
     .cases h
 |build t Q=>
  have hg:jh ow=false:=by
   cases ow with
   |nil=>rfl
   |cons x xs=>
    simp only[fF,m]at j;split at j
    .cases j
    .rename_i R;simpa[jh]using R
  simp only[gq,m,kO,hg,j6,aj]at h |-;split at h
  .rename_i z pl hz E;split at h
   .rename_i cs w;split at h
    .rename_i S;split at h
     .rename_i T;split at h
      .rename_i cs1 bs M;cases h;simp only[hz,E,w,S,T,ak]
       have hcs:cs.map (PV.ren (vJ H2.length H.length))=cs:=by
        have:=yF (PV.ren (vJ H2.length H.length)) pl (Q.toList.map λ(i,x)=>(i,(ρ x).cells)) (z.cells.map PV.dat);rw[FR,w]at this
        have e:(List.map (λx:Nat×List PV=>(x.1,x.2.map (PV.ren (vJ H2.length H.length)))) (Q.toList.map λ(i,x)=>(i,(ρ x).cells)))=Q.toList.map λ(i,x)=>(i,(ρ x).cells):=by
         rw[zF];apply aQ;intro x _;simp[s]
        rw[e,w]at this
        simpa using this.symm
       rw[<-hcs]at M;obtain⟨X,N,rfl⟩:=oB _ ow H.length H2.length _ _ _ (λi=>qG _ _ i) M;obtain⟨Y,Z⟩:=nE _ _ _ _ _ N (vJ H2.length H.length);simp only[N];exact⟨_,_,rfl,by rw[Gt],by rw[Y],Z⟩
      .cases h
     .cases h
    .cases h
   .cases h
  .cases h
 |buildSlice t n Q=>
  cases ow with
  |nil=>simp[fF,m]at j
  |cons C xs=>
   simp only[gq,m]at h |-;split at h
   .rename_i e he;split at h
    .rename_i J;split at h
     .rename_i size U;split at h
      .rename_i hc;cases h;rw[ai J,ai hc];refine⟨_,_,rfl,by simp[PV.ren,h0],?_,q _ (by intro h;cases h)⟩;simp only[zU,aN,fB.ren,List.map_flatMap,s]
      .cases h
     .cases h
    rename_i J;rw[af J];split at h
    .rename_i hf;split at h
     .rename_i hc;cases h;simp only[hf,hc,ak];refine⟨_,_,rfl,by simp[PV.ren,h0],?_,q _ (by intro h;cases h)⟩;simp only[zU,aN,fB.ren,zF];congr 3;apply aQ;intro x _;exact(L x.2).symm
     .cases h
    .rename_i hf;split at h
     .rename_i size ds U V;split at h
      .rename_i hc
       have hnl:(Q.toList.map λ(_,x)=>ρ x).any PV.lends=false:=by
        have:=hc.2.2.2.2.2.2;rw[List.any_map]
        simpa[Function.comp_def]using this
       have hp2:=lW (H2:=H2) _ _ V hnl;simp only[hf,U,hp2,hc,aj,ak,j6,and_self,not_true_eq_false]at h |-;split at h
       .rename_i he';simp only[he',ak];split at h
        .rename_i R;simp only[R,ak];split at h
         .rename_i hd;cases h;simp only[hd,ak];exact⟨_,_,rfl,by simp[PV.ren,h0],by simp[fB.ren],q _ (by intro h;cases h)⟩
         .rename_i hd;split at h
          .rename_i hel;cases h;rw[af hd,ai hel];exact⟨_,_,rfl,by simp[PV.ren,h0],by simp[fB.ren,PV.ren],q _ (by intro h;cases h)⟩
          .cases h
        .rename_i R;cases h;simp only[R,aj];exact⟨_,_,rfl,by simp[PV.ren,h0],by simp[fB.ren],q _ (by intro h;cases h)⟩
       .cases h
      .cases h
     .cases h
   .cases h
 |makeMap t r=>
  cases r with
  |none=>
   simp only[gq,m]at h |-;split at h
   .cases h;exact⟨_,_,rfl,by simp[PV.ren,h0],by simp[fB.ren],q _ (by intro h;cases h)⟩
   .cases h
  |some r=>simp[gq,m]at h
 |load t x=>
  cases ow with
  |cons=>simp[fF,m]at j
  |nil=>
  simp only[fF,m]at j;split at j<;>cases j
 |call c=>
  obtain⟨callee,args,ts⟩:=c;cases callee with
  |value f=>
   cases ow with
   |cons C xs=>
    have B:¬13000<=C.1:=λhc=>by simp only[fF,m,ai hc]at j;cases j
    have F:¬12000<=C.1:=λhc=>by simp only[fF,m,af B,ai hc]at j;cases j
    have h6:¬6000<=C.1:=λhc=>by simp only[fF,m,af B,af F,ai hc]at j;cases j
    have hn:¬2000<=C.1:=λhc=>by simp only[fF,m,af B,af F,af h6,ai hc]at j;cases j
    have hl:(args.toList.map ρ).any PV.lends=false:=by
     simp only[fF,m,af B,af F,af h6,af hn]at j;split at j
     .cases j
     .rename_i hl;simpa using hl
    simp only[gq,m]at h |-;rw[af B,af F,af (show¬C.1=7000 by omega),af h6]at h |-;split at h
    .rename_i fi x1 x2 hfi;rw[af (show¬C.1=5000 by omega),af hn]at h |-;unfold kf at h |-;split at h
     .rename_i ds V;rw[lW (H2:=H2) _ _ V hl];simp only;split at h
      .split at h
       .split at h
        .rename_i A;cases h;rw[ai A];refine⟨_,_,rfl,by simp[PV.ren,h0],?_,q _ (by intro h;cases h)⟩;obtain⟨d1,d2⟩:=aA.1 A.2.2.1;simp only[zU,aN,fB.ren];congr 3;symm;refine(aQ (g:=id) λc K=>?_).trans (cR _);obtain⟨d,rfl⟩:=rz _ A.2.2.1 c K;rfl
        .cases h
       .cases h
      .split at h
       .rename_i A;cases h;rw[ai A];refine⟨_,_,rfl,by simp[PV.ren,h0],?_,q _ (by intro h;cases h)⟩;simp only[zU,aN,fB.ren];congr 3;symm;refine(aQ (g:=id) λc K=>?_).trans (cR _);have V:=an.1 A.2 c K;obtain⟨k,v⟩:=c;cases v<;>first|rfl|(simp[PV.plainCell]at V)
       .cases h
      .cases h
     .cases h
    .cases h
   |nil=>
   simp only[fF,m]at j;split at j
   .split at j
    .split at j<;>cases j
    .cases j
   .cases j
  |builtin b=>
   cases b with
   |len=>simp only[fF,m]at j;split at j<;>cases j
   |append=>
    simp only[fF,m]at j;split at j
    .cases j
    split at j
    case isFalse=>cases j
    rename_i hv;simp only[gq,m]at h |-;generalize hl:args.toList.map ρ=l at h hv |-
    match l,hv with
    |[.arr i off 0 0,.dat (.lst es)],_=>
     have E:∀H:List fB,gv P o ρ H=none:=λH=>by
      unfold gv
      have:(o.op.operands.toList.map λx=>(ρ x).toVal).all Option.isSome=false:=by
       rw[m];have hm:PV.arr i off 0 0∈args.toList.map ρ:=by rw[hl];simp
       obtain⟨x,G,e⟩:=ar.1 hm;rw[dQ];exact⟨none,ar.2 ⟨x,by simpa[Op.operands,Call.operands]using G,by rw[e];rfl⟩,by simp⟩
      simp only[this];rfl
     rw[E]at h;rw[E];cases u:fZ P .append ts [.arr i off 0 0,.dat (.lst es)] H with
     |none=>rw[u]at h;cases h
     |some y=>
      rw[u]at h;cases h;simp only[fZ]at u |-;split at u
      .split at u
       .split at u
        .split at u
         .rename_i hc;unfold wi at u |-;split at u
          .rename_i A;cases u;simp only[*,and_self,ak];exact⟨_,_,rfl,by simp[PV.ren,h0],by simp[fB.ren,PV.ren],q _ (by intro h;cases h)⟩
          .cases u
         .cases u
        .cases u
       .cases u
      .cases u
   |_=>simp[fF,m]at j
  |invoke x n=>simp[fF,m]at j
 |move x=>simp only[fF,m]at j;split at j<;>cases j
 |_=>simp[fF,m]at j
end
section
variable{P:fm}{pf:fo->Bool}{ow:List (Nat×TypeId)}{o:Oper}{ρ ρ':ft->PV}{B0:Nat}{w0:fk}{S0:Nat->Nat->Prop}{Nb:Nat}{g g2:Gh}{s:List PV}{H:List fB}{a:Act}{w w':fk}
theorem DO(h:∀x∈o.op.operands,ρ x=ρ' x):fF pf ow o ρ=fF pf ow o ρ':=by
 unfold fF;cases d:o.op with
 |load t x=>simp only;rw[h x (by simp[d,Op.operands])]
 |call c=>
  obtain⟨callee,args,ts⟩:=c;have e:args.toList.map ρ=args.toList.map ρ':=rf λx g=>h x (by simp only[d,Op.operands,Call.operands];simp;exact .inr (by simpa using g))
  cases callee with
  |value f=>simp only;rw[h f (by simp[d,Op.operands,Call.operands]),e]
  |builtin b=>simp only;rw[e];cases b<;>rfl
  |invoke x n=>rfl
 |slice t x lo hi j=>cases hi<;>cases j<;>rfl
 |_=>rfl
theorem kT.holes(hst:kT P B0 w0 S0 Nb g ⟨s,H⟩ a w)(d:Nat):∃g',Ext H.length g w g' w/\Fr g H w g' (H++List.replicate d .hole) w/\kT P B0 w0 S0 Nb g' ⟨s,H++List.replicate d .hole⟩ a w:=by
 obtain⟨k,l,q,r⟩:=hst
 let g':Gh:={g with live:=λi=>i<H.length/\g.live i,own:=λi=>if i<H.length then g.own i else none}
 have f:Eg id g H.length g' (H++List.replicate d fB.hole).length:=
  ⟨rfl,λi hi hl=>⟨by simp only[id];simp;omega,⟨hi,hl⟩,rfl⟩,λt f x u=>⟨by simp only[id];simp;omega,by simp only[g',id];rw[ai f];exact u⟩⟩
 have m:Lc id g' H (H++List.replicate d fB.hole):=λi y c=>by
  rw[jT]at c;split at c
  .rename_i hi;by_cases e:y=.hole
   .subst e;obtain⟨k1,k2⟩:=k.noHole c;exact .inl ⟨rfl,λhl=>k1 hl.2,by simp only[g'];rw[ai hi];exact k2⟩
   .exact .inr ⟨i,y,c,e,rfl,(k.fix (λ_ _=>rfl) c).symm⟩
  .rename_i hi;rw[zM]at c;split at c
   .cases c;exact .inl ⟨rfl,λhl=>hi hl.1,by simp only[g'];rw[af hi]⟩
   .cases c
 have p:Ext H.length g w g' w:=⟨λ_ _ h=>h,λ_ _ _=>rfl,λi hi hl=>⟨rfl,hi,hl⟩,λt f v n z=>⟨v,n,by simp only[g'];rw[ai f];exact z,j7 _,λ_=>rfl⟩⟩;refine⟨g',p,⟨j7 _,λ_ _ _=>rfl,λi b A _=>?_,λ_ _ h=>.inl h⟩,⟨k.ren f (j7 _) m,⟨l.below,l.size,l.old,l.lt⟩,q.ext p yA,by simp only[jV];exact jW r (Nat.le_add_right _ _)⟩⟩;obtain⟨j,_,B⟩:=nj f k (j7 _) m A;exact⟨j,B⟩
theorem kT.place{V:PV}{u:fu}{p bs:List fB}{f:Nat}(hst:kT P B0 w0 S0 Nb g ⟨s,H⟩ a w)(m:Good P B0 w0 S0 H g w V (H++p) u g2 w')(G:bs=p.map (fB.ren (vJ H.length f)))(M:∀x∈p,x≠.hole)(hk:f+bs.length<=H.length)(z:∀i,f<=i->i<f+bs.length->H[i]?=some .hole)(d:Option Tmp):
  ∃k,Ext H.length g w k w'/\Fr g H w k (H.take f++bs++H.drop (f+bs.length)) w'/\
   kT P B0 w0 S0 Nb k ⟨lN s d (V.ren (vJ H.length f)),H.take f++bs++H.drop (f+bs.length)⟩ (a.put d u) w':=by
 obtain⟨W,h2,Y,Z⟩:=hst;have hbl:bs.length=p.length:=by rw[G];simp
 have A:(H.take f++bs++H.drop (f+bs.length)).length=H.length:=by simp;omega
 let seg:Nat->Prop:=λi=>f<=i/\i<f+bs.length
 let k:Gh:={g2 with blk:=λi=>if f<=i/\i<f+bs.length then g2.blk (H.length+(i - f))else g2.blk i,live:=λi=>if f<=i/\i<f+bs.length then g2.live (H.length+(i - f))else g2.live i,own:=λi=>if f<=i/\i<f+bs.length then g2.own (H.length+(i - f))else g2.own i}
 -- no hole has been alive
 have q:∀i,f<=i->i<f+bs.length->¬g2.live i/\g2.own i=none:=λi N O=>m.heap.noHole (by
  rw[jT,ai y8];exact z i N O)
 have B:∀i,f<=i->i<f+bs.length->¬g.live i/\g.own i=none:=λi N O=>W.noHole (z i N O)
 have C:Eg (vJ H.length f) g2 (H++p).length k H.length:=by
  refine⟨rfl,λi hi hl=>?_,λt C x D=>?_⟩
  .by_cases c:i<H.length
   .have l:¬(f<=i/\i<f+bs.length):=λr=>(q i r.1 r.2).1 hl
    rw[sv c];exact⟨c,by simp only[k];rw[af l];exact hl,by simp only[k];rw[af l]⟩
   .have e:i=H.length+(i - H.length):=by omega
    have Q:i - H.length<bs.length:=by simp at hi;omega
    have R:vJ H.length f i=f+(i - H.length):=by rw[e,qG];congr 1;omega
    have L:H.length+(f+(i - H.length) - f)=i:=by omega
    rw[R];refine⟨by omega,?_,?_⟩
    .simp only[k];rw[ai y8,L];exact hl
    .simp only[k];rw[ai y8,L]
  .by_cases c:t<H.length
   .have l:¬(f<=t/\t<f+bs.length):=λr=>by rw[(q t r.1 r.2).2]at D;cases D
    rw[sv c];exact⟨c,by simp only[k];rw[af l];exact D⟩
   .have e:t=H.length+(t - H.length):=by omega
    have Q:t - H.length<bs.length:=by simp at C;omega
    have R:vJ H.length f t=f+(t - H.length):=by rw[e,qG];congr 1;omega
    have L:H.length+(f+(t - H.length) - f)=t:=by omega
    rw[R];exact⟨by omega,by simp only[k];rw[ai y8,L];exact D⟩
 have r:Lc (vJ H.length f) k (H++p) (H.take f++bs++H.drop (f+bs.length)):=λi y I=>by
  rw[gH _ _ _ y8]at I;by_cases E:f<=i/\i<f+bs.length
  .rw[af y8,ai E.2,G,jD,j5]at I;obtain⟨x,D,rfl⟩:=I;refine .inr ⟨H.length+(i - f),x,by rw[zN y8];simpa using D,M x (jF D),by rw[qG];omega,rfl⟩
  .have F:H[i]?=some y:=by
    by_cases c:i<f
    .rwa [ai c]at I
    .rwa [af c,af y8]at I
   have J:i<H.length:=(ae.1 F).1;have K:(H++p)[i]?=some y:=by rw[jT,ai J];exact F
   by_cases e:y=.hole
   .subst e;obtain⟨k1,k2⟩:=m.heap.noHole K;exact .inl ⟨rfl,by simp only[k];rw[af E];exact k1,by simp only[k];rw[af E];exact k2⟩
   .exact .inr ⟨i,y,K,e,sv J,(W.fix (λ_ h=>sv h) F).symm⟩
 have X:Ext H.length g w k w':=by
  refine⟨m.ext.S,m.ext.cell,λi hi hl=>?_,λt C v n T=>?_⟩
  .have l:¬(f<=i/\i<f+bs.length):=λr=>(B i r.1 r.2).1 hl
   obtain⟨k1,k2⟩:=m.ext.blk i hi hl;exact⟨by simp only[k];rw[af l];exact k1,by simp only[k];rw[af l];exact k2⟩
  .have l:¬(f<=t/\t<f+bs.length):=λr=>by rw[(B t r.1 r.2).2]at T;cases T
   obtain⟨v',n',k1,k2⟩:=m.ext.own t C v n T;exact⟨v',n',by simp only[k];rw[af l];exact k1,k2⟩
 refine⟨k,X,⟨m.fr.size,m.fr.keep,λi b hb U=>?_,m.fr.pub⟩,⟨?_,⟨m.inv.below,m.inv.size,m.inv.old,m.inv.lt⟩,?_,by rw[A];exact Z⟩⟩
 .obtain⟨j,_,hj⟩:=nj C m.heap (j7 _) r hb;exact m.fr.occ j b hj U
 .rw[A];exact m.heap.ren C (j7 _) r
 .rw[A];exact(Y.ext X (j7 _)).put d (m.rep.ren C)
end
end Go.Pm
