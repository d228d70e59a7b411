/-
 The pure machine: soundness of lists of structures that lie in a box of their own.
-/
import Derived.Test.YtjcfpjpdopfefaaGreatPmOps9
namespace Go.Pm
open Go Go.RowKit
set_option linter.all false
section
variable{P:fm}{B0:Nat}{w0:fk}{S0:Nat->Nat->Prop}{g:Gh}{H:List fB}{w:fk}{o:Oper}{a:Act}{ρ:ft->PV}
theorem nX{d g:Type}(f:d->List g)(size:Nat):∀(l:List d),(∀x∈l,(f x).length=size)->∀i j,j<size->(l.flatMap f)[i*size+j]?=(l[i]?).bind λx=>(f x)[j]?
 |[],_,i,j,_=>by simp
 |x::l,h,0,j,c=>by
  rw[aS,fe,zY,zO (by rw[h x yA];exact c)];rfl
 |x::l,h,i+1,j,c=>by
  have e:=h x yA;rw[aS,zN (by rw[e,av];omega),e,show(i+1)*size+j - size=i*size+j by rw[av];omega,nX f size l (λy k=>h y (jG _ k)) i j c];rfl
theorem ox{c d:Type}(f:c->List d)(size:Nat):∀(l:List c),(∀x∈l,(f x).length=size)->(l.flatMap f).length=l.length*size
 |[],_=>by simp
 |x::l,h=>by rw[aS,jV,h x yA,ox f size l λy e=>h y (jG _ e),zG,av];omega
theorem Cq{m size n:Nat}(h0:0<size)(h:m<n*size):∃i j,m=i*size+j/\i<n/\j<size:=
 ⟨m/size,m%size,by rw[bB];exact(cj m size).symm,(eM h0).2 h,bd _ h0⟩
theorem CT{t e:fq}{len size:Nat}{f:Array (Nat×Operand)}(S:o.op=.buildSlice t len f)(J:fA P t=some e)(y:fJ P e=some size)(A:(fL P e).isSome=true)(hl:f.size=len)(T:np 0 f.toList=true)(h0:0<size)(U:len*size<=16777216)(B:qB ρ size f.toList=true)(V:Qm P g B0 H.length H w)(hi:Inv B0 w0 S0 g w)(C:∀x,fC g H.length w (a.eval x) (ρ x)):
  ∃v g' w',fQ P o a w v w'/\Good P B0 w0 S0 H g w (.arr H.length 0 len len) (H++[.box (f.toList.flatMap λ(_,x)=>(ρ x).cells)]) v g' w':=by
 obtain⟨z,A⟩:=aA.1 A;obtain⟨K,D,L,W,_⟩:=gE A;have n:K.size=size:=by simp only[fJ,L,jN,j9]at y;exact y
 have s:∀q∈f.toList,(ρ q.2).cells.length=size/\(ρ q.2).cells.all PV.cell=true:=λq k=>by
  have:=an.1 B q k
  simpa only[jE,bo]using this
 have hc:∀q∈f.toList,(a.eval q.2).cells.size=size/\∀(j:Nat) u c,(a.eval q.2).cells[j]?=some u->(ρ q.2).cells[j]?=some c->fC g H.length w u c:=λq k=>by
  obtain⟨c1,c2⟩:=(C q.2).cells (jn (s q k).2);exact⟨by rw[c1,(s q k).1],c2⟩
 obtain⟨vals,X,Y,Z,_⟩:=lS (size:=size) (f.toList.map λ(i,x)=>(i,a.eval x)) 0 ((Array.range (len*size)).map (D.cells[· %D.cells.size]!)) (λi q h=>by
  simp only[jD,j5]at h;obtain⟨M,h,rfl⟩:=h;exact⟨od _ 0 T i M h,(hc M (jF h)).1⟩) (by simp[hl])
 have p:vals.size=len*size:=by rw[Y];simp
 have E:f.toList.length=len:=by simpa using hl
 have F:=ox (λ(q:Nat×Operand)=>(ρ q.2).cells) size f.toList λq k=>(s q k).1
 have hb:(Instr.buildSlice t len (f.map λ(i,x)=>(i,a.eval x))).run P w=.ok (.slice (some ⟨w.heap.size,0,none⟩) len len) (w.alloc (.cells vals e)):=by
  by_cases hpos:len*size=0
  .have G:len=0:=by
    rcases eC.1 hpos with h|h
    .exact h
    .omega
   subst G;have I:f=#[]:=by simpa using hl
   subst I
   have:vals=#[]:=by simpa using p
   subst this;simp[Instr.buildSlice,run_underlying (QM J),hZ y,Instr.fill,newRow,dP]
  .refine run_buildSlice w t e len _ vals K D (QM J) L W (by rw[n];omega) (by rw[n];exact hpos) ?_;rw[n];simpa using X
 have r:=rV (P:=P) (S0:=S0) (w0:=w0) V hi vals e (f.toList.flatMap λ(_,x)=>(ρ x).cells) (by rw[p];exact(F.trans (by rw[E])).symm) (λm v d O g2=>by
  have hm:m<len*size:=by rw[<-p];exact(ay.1 O).1
  obtain⟨i,j,rfl,hil,Q⟩:=Cq h0 hm;have k:f.toList[i]?=some (f.toList[i]'y8):=jC y8;have l:(f.toList.flatMap λq=>(ρ q.2).cells)[i*size+j]?=some d:=g2;rw[nX (λ(q:Nat×Operand)=>(ρ q.2).cells) size f.toList (λq k=>(s q k).1) i j Q,k]at l;simp only[zW]at l;generalize f.toList[i]'y8=q at k l;have R:=Z i j (q.1,a.eval q.2) (by simp only[jD,k,jN]) Q;rw[zY,O]at R;exact(hc q (jF k)).2 j v d R.symm l)
 refine⟨.slice (some ⟨w.heap.size,0,none⟩) len len,g.box H.length w.heap.size,w.alloc (.cells vals e),.inl (by simp[execOp,S,hb]),r.ext,r.len,?_,r.heap,r.inv,r.fr⟩;have:=fC.arr (g:=g.box H.length w.heap.size) (N:=(H++[fB.box (f.toList.flatMap λ(_,x)=>(ρ x).cells)]).length) (w:=w.alloc (.cells vals e)) H.length 0 len len ⟨by simp,.inl rfl⟩ (j7 _)
 rwa [show(g.box H.length w.heap.size).blk H.length=w.heap.size by simp[Gh.box]]at this
theorem AF{e i off len cap size:Nat}{x:ft}{ts:fq}{cs:List PV}{z:fy}(ho:o.op=.call {callee:=.builtin .clear,args:=#[x],argTypes:=#[ts]})(W:fA P ts=some e)(hz:fL P e=some z)(l:z.cells.length=size)(X:ρ x=.arr i off len cap)(L:H[i]?=some (.box cs))(hpos:0<len)(D:off+len*size<=cs.length)(V:Qm P g B0 H.length H w)(hi:Inv B0 w0 S0 g w)(Y:∀x,fC g H.length w (a.eval x) (ρ x)):
  ∃v g' w',fQ P o a w v w'/\Good P B0 w0 S0 H g w (.tup []) (H.set i (.box (cs.take off++(List.replicate len (z.cells.map PV.dat)).flatten++cs.drop (off+len*size)))) v g' w':=by
 obtain⟨ie,K,i1,i2,i3,_,i5⟩:=gE hz;obtain⟨Z,z2⟩:=(i3 w g.S).cells
 have M:∀u∈K.cells.toList,u.oneCell'=true:=oW (g:=g) (N:=H.length) (w:=w) (fC.dat K z (i3 w g.S)) (by
  rw[j8]at i5 |-;intro p hp
  have:p∈z.cells.map PV.dat:=hp
  obtain⟨d,hd,rfl⟩:=ar.1 this;have:=i5 d hd;cases d<;>first|rfl|(simp[fy.isCell]at this))
 generalize O:(List.replicate len (z.cells.map PV.dat)).flatten=es;generalize E:(Builtin.zeroCells K.cells len).toList=news;have y:es.length=len*size:=by rw[<-O];simp[List.length_flatten,l]
 have r:news.length=len*size:=by rw[<-E];simp[Builtin.zeroCells,Z,l]
 have Q:∀m,m<len*size->es[m]?=(z.cells[m%size]?).map PV.dat:=λm hm=>by
  have h0:0<size:=by rcases dI size with e|e;(rw[e]at hm;simp at hm);exact e
  obtain⟨p,q,rfl,hp,hq⟩:=Cq h0 hm;have:=nX (λx:List PV=>x) size (List.replicate len (z.cells.map PV.dat)) (λx X=>by rw[aH X];simp[l]) p q hq;rw[List.flatMap_id']at this;rw[<-O,this,zM,ai hp,bB p size,eu,bX hq];simp
 have A:∀m,m<len*size->news[m]?=K.cells[m%size]?:=λm hm=>by
  have h0:0<size:=by rcases dI size with e|e;(rw[e]at hm;simp at hm);exact e
  have t:m%size<K.cells.size:=by rw[Z,l];exact bd _ h0
  rw[<-E];simp only[Builtin.zeroCells,Array.toList_map,Array.toList_range,jD,Z,l,List.getElem?_range hm,jN];rw[getElem!_pos K.cells _ t,jA t]
 have R:∀(m:Nat) u c,news[m]?=some u->es[m]?=some c->fC g H.length w u c:=λm u c h1 h2=>by
  have hm:m<len*size:=by rw[<-r];exact(ae.1 h1).1
  rw[A m hm]at h1;rw[Q m hm,j5]at h2;obtain⟨d,hd,rfl⟩:=h2;exact .dat _ _ (z2 _ u d h1 hd)
 have F:∀u∈news,u.oneCell'=true:=λu hu=>by
  obtain⟨m,hm⟩:=aL hu;rw[A m (by rw[<-r];exact(ae.1 hm).1)]at hm;exact M u (by rw[ay]at hm;obtain⟨t,rfl⟩:=hm;exact cX t)
 have hr:=Y x;rw[X]at hr;generalize hv:a.eval x=v at hr;generalize hn:len*size=n at *;cases hr with
 |arr _ _ _ _ s hcap=>
  obtain⟨s,hil⟩:=s;obtain⟨q1,⟨vals,ty,k1,k2,k3⟩,q3⟩:=V.box i cs L;have hst:=run_storeCells_at P (g.blk i) off ty news 0 vals w k1 (by rw[r];omega) F;simp only[zX]at hst;generalize B:(vals.toList.take off++news++vals.toList.drop (off+news.length))=new at hst
  have T:∀j,new[j]?=if j<off then vals[j]? else if j<off+n then news[j - off]? else vals[j]?:=λj=>by
   rw[<-B,gH _ _ _ (by rw[r];simp;omega),r];simp
  have hds:∀j,(cs.take off++es++cs.drop (off+n))[j]?=if j<off then cs[j]? else if j<off+n then es[j - off]? else cs[j]?:=λj=>by
   have:=gH cs es off (by rw[y];exact D) j;rw[y]at this;exact this
  have G:(w.setRow (g.blk i) new.toArray).heap[g.blk i]?=some (.cells new.toArray ty (0,0)):=setRow_heap w _ _ _ _ _ k1
  have f:Ext H.length g w g (w.setRow (g.blk i) new.toArray):=⟨λ_ _ h=>h,λb o' hs=>cell_setRow_other w _ _ _ (λe=>by
   simp only at e;subst e;exact q3 o' hs),λ_ _ h=>⟨rfl,h⟩,λ_ _ v n h=>⟨v,n,h,j7 _,λ_=>rfl⟩⟩
  refine⟨.tuple #[],g,_,.inl ?_,f,by simp,.tup _ _ rfl (λj v c h=>by simp at h),?_,⟨?_,by simp;exact hi.size,hi.old,λb o' hs=>by simp;exact hi.lt b o' hs⟩,⟨by simp,λb _ hn=>setRow_other w _ _ _ (λe=>hn i (by rw[gw L,e])),λj b U _=>?_,λb o h=>.inl h⟩⟩
  .obtain⟨k,rfl⟩:∃k,len=k+1:=⟨len - 1,by omega⟩;simp[execOp,ho,resolve,invoke,builtin,hv,Builtin.clear_,run_underlying (QM W),zeroValue,typeInfo,i1,i2,E,hst]
  .refine V.turn f yA (j7 _) _ s (λj b U I=>setRow_other w _ _ _ (λe=>U (V.sep j i b I (by rw[gw L,e]))))
    (λ_ _ _ _ _ h=>h) (λ_ _ _=>rfl) (λcs' hc=>?_) (λ_ _ h=>by cases h) (λj b U I h=>?_)
   .cases hc;refine⟨q1,⟨new.toArray,ty,G,?_,λj u c J C=>?_⟩,q3⟩
    .rw[<-B];simp only[bK,jV,zV,y6,aP];omega
    .simp only[aO]at J;rw[T]at J;rw[hds]at C;split at J
     .rename_i h;rw[ai h]at C;exact(k3 j u c J C).ext f yA
     .rename_i h;rw[af h]at C;split at J
      .rename_i h';rw[ai h']at C;exact(R _ u c J C).ext f yA
      .rename_i h';rw[af h']at C;exact(k3 j u c J C).ext f yA
   .rw[gw (cs:=cs.take off++es++cs.drop (off+n)) (by simp[s])]at h;cases h;exact U (V.sep j i _ I (gw L))
  .exact below_setRow hi.below q1 _
  .rcases rO s U with⟨_,h⟩|⟨_,⟨cs',_,rfl⟩|⟨e,n,h,_⟩⟩
   .exact⟨j,h⟩
   .exact⟨i,gw L⟩
   .cases h
end
end Go.Pm
