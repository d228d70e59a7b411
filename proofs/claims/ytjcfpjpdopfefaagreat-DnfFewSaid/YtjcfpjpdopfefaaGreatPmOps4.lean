/-
 The pure machine: soundness of fields, tuples, len; stores; new variables.
-/
import Derived.Test.YtjcfpjpdopfefaaGreatPmOps3
import Derived.Laws.CopyOwn
namespace Go.Pm
open Go Go.RowKit
set_option linter.all false
section
variable{P:fm}{B0:Nat}{w0:fk}{S0:Nat->Nat->Prop}{g:Gh}{H H':List fB}{w:fk}{p:PV}{o:Oper}{a:Act}{ρ:ft->PV}
theorem CV{t:fq}{n off:Nat}{c:Bool}{vs:Array Value}(d:pF P t=some c)(hn:fJ P t=some n)(e:c=false->n=1)(hl:off+n<=vs.size):
  (part t vs off).run P w=.ok (if c then .agg ((vs.toList.drop off).take n).toArray else((vs.toList.drop off).take n).headD undef) w:=by
 cases c
 .have:=e rfl;subst this;have f:vs[off]?=some vs[off]:=jA y8
  have g:(vs.toList.drop off).take 1=[vs[off]]:=by
   rw[aU y9];simp
  simp[part,xm d,f,g]
 .have:vs.extract off (off+n)=((vs.toList.drop off).take n).toArray:=by
   apply Array.ext';simp
  simp[part,xm d,hZ hn,this]
theorem Ar{t:fq}{x:ft}{f n:Nat}{fs:List Field}{l:Field}{y:Bool}{cs ds:List fy}{d:fy}(I:o.op=.field t x f)(J:ρ x=.dat (.agg cs))(A:fieldsOf P t=some fs)(B:fs[f]?=some l)(hn:fJ P l.type=some n)(K:pF P l.type=some y)(hc:cut cs l.offset n=some ds)(k:kL y ds=some d)(L:Qm P g B0 H.length H w)(hi:Inv B0 w0 S0 g w)(C:∀x,fC g H.length w (a.eval x) (ρ x)):
  ∃v g' w',fQ P o a w v w'/\Good P B0 w0 S0 H g w (.dat d) H v g' w':=by
 have q:(fs.toArray)[f]?=some l:=by simpa using B
 obtain⟨c1,c2,M⟩:=ka hc;have h:=C x;rw[J]at h;generalize N:a.eval x=v at h;cases h with
 |dat v d h=>
  cases h with
  |agg vs cs hl O=>
   have F:y=false->n=1:=λe=>by
    subst e;unfold kL at k;simp only[j6,aj]at k;split at k
    .rw[<-c1];rfl
    .cases k
   have Q:=CV (P:=P) (w:=w) (vs:=vs) (off:=l.offset) K hn F y8;refine⟨_,g,w,.inl (by simp[execOp,I,Instr.field,run_underlying (oG A),q,N,asAgg,Q];rfl),.same L hi (.dat _ _ ?_)⟩
   have r:∀(j:Nat) u,((vs.toList.drop l.offset).take n)[j]?=some u->j<n/\vs[l.offset+j]?=some u:=λj u p=>by
    rw[jR]at p;split at p
    .exact⟨by assumption,by simpa using p⟩
    .cases p
   have m:∀(j:Nat) u c,((vs.toList.drop l.offset).take n)[j]?=some u->ds[j]?=some c->fY w g.S u c:=λj u c D z=>by
    obtain⟨R,p⟩:=r j u D;rw[M j R]at z;exact O _ u c p z
   cases y
   .have E:=F rfl;subst E;unfold kL at k;simp only[j6,aj]at k |-;split at k
    .rename_i G;cases k;cases s:(vs.toList.drop l.offset).take 1 with
     |nil=>have:=bI List.length s;simp at this;omega
     |cons u us=>exact m 0 u _ (by rw[s];rfl) rfl
    .cases k
   .simp only[kL,ak,j9]at k;subst k;refine .agg _ _ (by simp[c1];omega) λj v G D z=>m j v G (by simpa using D) z
theorem zw{t:fq}{x:ft}{f n:Nat}{fs:List Field}{d:Field}{s:Bool}{cs ds:List PV}{p:PV}(z:o.op=.field t x f)(A:ρ x=.agg cs)(m:fieldsOf P t=some fs)(q:fs[f]?=some d)(hn:fJ P d.type=some n)(B:pF P d.type=some s)(hc:cut cs d.offset n=some ds)(C:ofCells s ds=some p)(D:Qm P g B0 H.length H w)(hi:Inv B0 w0 S0 g w)(r:∀x,fC g H.length w (a.eval x) (ρ x)):
  ∃v g' w',fQ P o a w v w'/\Good P B0 w0 S0 H g w p H v g' w':=by
 have k:(fs.toArray)[f]?=some d:=by simpa using q
 obtain⟨c1,c2,E⟩:=ka hc;have h:=r x;rw[A]at h;generalize F:a.eval x=v at h;cases h with
 |agg vs cs hl G=>
  have l:∀(j:Nat) u,((vs.toList.drop d.offset).take n)[j]?=some u->j<n/\vs[d.offset+j]?=some u:=λj u e=>by
   rw[jR]at e;split at e
   .exact⟨by assumption,by simpa using e⟩
   .cases e
  obtain⟨p1,I⟩:=fC.ofCells (g:=g) (w:=w) (N:=H.length) (us:=(vs.toList.drop d.offset).take n) (n:=n) y9 c1 (λj v c J y=>by
   obtain⟨K,e⟩:=l j v J;rw[E j K]at y;exact G _ v c e y) C
  have L:=CV (P:=P) (w:=w) (vs:=vs) (off:=d.offset) B hn p1 y8;exact⟨_,g,w,.inl (by simp[execOp,z,Instr.field,run_underlying (oG m),k,F,asAgg,L]),.same D hi I⟩
theorem EA{x:ft}{k:Nat}{vs:List PV}{p:PV}(j:o.op=.extract x k)(l:ρ x=.tup vs)(e:vs[k]?=some p)(m:Qm P g B0 H.length H w)(hi:Inv B0 w0 S0 g w)(c:∀x,fC g H.length w (a.eval x) (ρ x)):
  ∃v g' w',fQ P o a w v w'/\Good P B0 w0 S0 H g w p H v g' w':=by
 have h:=c x;rw[l]at h;generalize n:a.eval x=v at h;cases h with
 |tup us cs hl q=>
  have d:k<us.size:=by rw[hl];exact(ae.1 e).1
  have f:us[k]?=some us[k]:=jA d;exact⟨us[k],g,w,.inl (by simp[execOp,j,Instr.extract,n,f]),.same m hi (q k _ p f e)⟩
theorem xZ{N:Nat}{v:fu}{p:PV}{n:Nat}(h:fC g N w v p)(hn:lr p=some n):∃ad cap,v=.slice ad n cap:=by
 have lst:∀{v:fu} {es:List fy},fY w g.S v (.lst es)->∃ad cap,v=.slice ad es.length cap:=λh=>by
  cases h with
  |nil=>exact⟨none,0,rfl⟩
  |empty a cap=>exact⟨some a,cap,rfl⟩
  |lst b off len cap k es c e=>exact⟨_,cap,by rw[e]⟩
 cases h with
 |dat v d h=>
  cases d with
  |lst es=>simp[lr]at hn;subst hn;exact lst h
  |_=>simp[lr]at hn
 |vec v t es v0 n' e f=>simp[lr]at hn;subst hn;exact lst f
 |arr i o len cap h l=>simp[lr]at hn;subst hn;exact⟨_,_,rfl⟩
 |ms _ _ _ _ _ _ _ _ _ _ _ _ j=>simp[lr]at hn;subst hn;obtain⟨a,c,rfl,_⟩:=j;exact⟨_,_,rfl⟩
 |empv b v e f=>
  simp[lr]at hn;subst hn;cases b with
  |true=>exact⟨none,0,e rfl⟩
  |false=>obtain⟨a,cap,rfl⟩:=f rfl;exact⟨_,_,rfl⟩
 |_=>simp[lr]at hn
theorem kA{N:Nat}{v:fu}{p:PV}(h:fC g N w v p)(j:p.cell=true):v.oneCell'=true:=by
 cases h with
 |dat v d h=>cases h<;>first|rfl|(simp[PV.cell]at j;done)|(exact xd (by assumption))
 |vec v t es v0 n k e=>cases e<;>rfl
 |ptr|iptr|arr|fn|mapv=>rfl
 |ms _ _ _ _ _ _ _ _ _ _ _ _ f=>obtain⟨a,c,rfl,_⟩:=f;rfl
 |mp _ _ _ _ _ _ _ _ _ _ f=>obtain⟨a,rfl⟩:=f;rfl
 |empv b v k e=>
  cases b with
  |true=>rw[k rfl];rfl
  |false=>obtain⟨a,cap,rfl⟩:=e rfl;rfl
 |_=>simp[PV.cell]at j
theorem jn{p:PV}(h:p.cells.all PV.cell=true):p≠.undef:=λe=>by subst e;simp[PV.cells,PV.cell]at h
theorem oW{N:Nat}{v:fu}{p:PV}(h:fC g N w v p)(d:p.cells.all PV.cell=true):∀u∈v.cells.toList,u.oneCell'=true:=λu f=>by
 obtain⟨k,l⟩:=h.cells (jn d);obtain⟨j,e⟩:=aL f;have c:j<p.cells.length:=by rw[<-k];simpa using(ae.1 e).1
 have hc:p.cells[j]?=some p.cells[j]:=jC c;exact kA (l j u _ (by simpa using e) hc) (an.1 d _ (zC c))
theorem rj{c:Type}{cs vs ds:List c}{off:Nat}(h:nY cs off vs=some ds):off+vs.length<=cs.length/\ds=cs.take off++vs++cs.drop (off+vs.length):=by
 unfold nY at h;split at h
 .cases h;exact⟨by assumption,rfl⟩
 .cases h
theorem gH{e:Type}(cs vs:List e)(off:Nat)(h:off+vs.length<=cs.length)(j:Nat):
  (cs.take off++vs++cs.drop (off+vs.length))[j]?=if j<off then cs[j]? else if j<off+vs.length then vs[j - off]? else cs[j]?:=by
 rw[aB,jT];simp only[zV,Nat.min_eq_left (show off<=cs.length by omega)];split
 .rename_i c;rw[jR,ai c]
 .rename_i c;rw[jT];by_cases d:j<off+vs.length
  .rw[ai y8,ai d]
  .rw[af y8,af d,zI];congr 1;omega
theorem Ke{t:fq}{x y:ft}{cs ds:List PV}{n i off:Nat}(M:o.op=.store t x y)(N:ρ x=.ptr i off)(s:H[i]?=some (.box cs))(hn:fJ P t=some n)(hl:(ρ y).cells.length=n)(f:(ρ y).cells.all PV.cell=true)(O:nY cs off (ρ y).cells=some ds)(D:Qm P g B0 H.length H w)(hi:Inv B0 w0 S0 g w)(m:∀x,fC g H.length w (a.eval x) (ρ x)):
  ∃v g' w',fQ P o a w v w'/\Good P B0 w0 S0 H g w (.tup []) (H.set i (.box ds)) v g' w':=by
 obtain⟨p1,L⟩:=rj O;have h:=m x;rw[N]at h;generalize Q:a.eval x=v at h;cases h with
 |ptr i o d=>
  obtain⟨d,R⟩:=d;obtain⟨q1,⟨vals,E,k1,k2,k3⟩,q3⟩:=D.box i cs s;obtain⟨T,S⟩:=(m y).cells (jn f);have z:=oW (m y) f;have hst:=run_storeCells_at P (g.blk i) off E (a.eval y).cells.toList 0 vals w k1 y9 z;simp only[zX]at hst;generalize k:(vals.toList.take off++(a.eval y).cells.toList++vals.toList.drop (off+(a.eval y).cells.toList.length))=new at hst
  have A:∀j,new[j]?=if j<off then vals[j]? else if j<off+n then(a.eval y).cells[j - off]? else vals[j]?:=λj=>by
   rw[<-k,gH _ _ _ y9]
   have:(a.eval y).cells.toList.length=n:=by simp;omega
   rw[this];simp
  have F:∀j,ds[j]?=if j<off then cs[j]? else if j<off+n then(ρ y).cells[j - off]? else cs[j]?:=λj=>by
   rw[L,gH _ _ _ p1,hl]
  have p:(w.setRow (g.blk i) new.toArray).heap[g.blk i]?=some (.cells new.toArray E (0,0)):=setRow_heap w _ _ _ _ _ k1
  have B:Ext H.length g w g (w.setRow (g.blk i) new.toArray):=⟨λ_ _ h=>h,λb o' G=>cell_setRow_other w _ _ _ (λe=>by
   simp only at e;subst e;exact q3 o' G),λ_ _ h=>⟨rfl,h⟩,λ_ _ v n h=>⟨v,n,h,j7 _,λ_=>rfl⟩⟩
  refine⟨undef,g,_,.inr ⟨?_,rfl⟩,B,by simp,.tup _ _ rfl (λj v c h=>by simp at h),?_,⟨?_,by simp;exact hi.size,hi.old,λb o' G=>by simp;exact hi.lt b o' G⟩,⟨by simp,λb _ hn=>setRow_other w _ _ _ (λe=>hn i (by rw[gw s,e])),λj b C _=>?_,λb o h=>.inl h⟩⟩
  .have I:(a.eval y).cells.size=n:=by omega
   simp only[execOp,M,Q];simp[Instr.storeAt,Instr.sureAddr,storeVar,I,hZ hn,hst]
  .refine D.turn B yA (j7 _) _ d (λj b C q=>setRow_other w _ _ _ (λe=>C (D.sep j i b q (by rw[gw s,e]))))
    (λ_ _ _ _ _ h=>h) (λ_ _ _=>rfl) (λJ hc=>?_) (λ_ _ h=>by cases h) (λj b C q h=>?_)
   .cases hc;refine⟨q1,⟨new.toArray,E,p,?_,λj u c r l=>?_⟩,q3⟩
    .rw[L,<-k];simp;omega
    .simp only[aO]at r;rw[A]at r;rw[F]at l;split at r
     .rename_i h;rw[ai h]at l;exact(k3 j u c r l).ext B yA
     .rename_i h;rw[af h]at l;split at r
      .rename_i K;rw[ai K]at l;exact(S _ u c r l).ext B yA
      .rename_i K;rw[af K]at l;exact(k3 j u c r l).ext B yA
   .rw[gw (cs:=ds) (by simp[d])]at h;cases h;exact C (D.sep j i _ q (gw s))
  .exact below_setRow hi.below q1 _
  .rcases rO d C with⟨_,h⟩|⟨_,⟨J,_,rfl⟩|⟨e,n,h,_⟩⟩
   .exact⟨j,h⟩
   .exact⟨i,gw s⟩
   .cases h
theorem rV(l:Qm P g B0 H.length H w)(hi:Inv B0 w0 S0 g w)(vals:Array Value)(k:fq)(cs:List PV)(hl:vals.size=cs.length)(s:∀(j:Nat) v c,vals[j]?=some v->cs[j]?=some c->fC g H.length w v c):
  Good P B0 w0 S0 H g w (.ptr H.length 0) (H++[.box cs]) (.pointer (some ⟨w.heap.size,0,none⟩)) (g.box H.length w.heap.size) (w.alloc (.cells vals k)):=by
 have e:=hi.alloc (.cells vals k);have m:Ext H.length g w (g.box H.length w.heap.size) (w.alloc (.cells vals k)):=(Ext.alloc hi H.length _).trans (Ext.box H.length _ (j7 _)) (j7 _);have d:(g.box H.length w.heap.size).blk H.length=w.heap.size:=by simp[Gh.box]
 refine⟨m,by simp,?_,?_,⟨e.below,e.size,e.old,e.lt⟩,Fr.old yA (λb f=>Below.heap_alloc w _ b f) λi b h f=>?_⟩
 case refine_3=>
  rcases oh h with h|⟨_,⟨p,_,rfl⟩|⟨e',n,h,_⟩⟩
  .exact⟨i,gD (g:=g) h (λj t=>by simp only[Gh.box];rw[af y8]) (λj t=>rfl)⟩
  .rw[d]at f;exact absurd f (jZ _)
  .cases h
 .have:=fC.ptr (g:=g.box H.length w.heap.size) (N:=(H++[fB.box cs]).length) (w:=w.alloc (.cells vals k)) H.length 0 ⟨by simp,.inl rfl⟩
  rwa [d]at this
 .refine Qm.snoc (l.keep m yA (j7 _) (λi b f=>Below.heap_alloc w _ b (l.occ_lt f).2.1) (λ_ _ _ _ h=>h) (λ_ _=>rfl)) _ (λp h=>?_) (λ_ _ h=>by cases h) (λi b h r=>?_)
  .cases h;rw[d];refine⟨hi.size,⟨vals,k,heap_alloc_new w _,hl,λj v c u x=>(s j v c u x).ext m yA⟩,λo y=>jZ _ (hi.lt _ o y)⟩
  .rw[gw (cs:=cs) yA,d]at r;cases r
   have f:occ g H i=some w.heap.size:=by
    unfold occ at h |-;split at h
    .rename_i q
     have:i≠H.length:=by have:=(ae.1 q).1;omega
     simpa[Gh.box,this]using h
    .simpa[Gh.box]using h
    .simpa[Gh.box]using h
    .rename_i q
     have:i≠H.length:=by have:=(ae.1 q).1;omega
     simpa[Gh.box,this]using h
    .cases h
    .cases h
   exact jZ _ (l.occ_lt f).2.1
theorem OD{t:fq}{x:ft}(e:o.op=.box t x)(c:(ρ x).cells.all PV.cell=true)(f:Qm P g B0 H.length H w)(hi:Inv B0 w0 S0 g w)(d:∀x,fC g H.length w (a.eval x) (ρ x)):
  ∃v g' w',fQ P o a w v w'/\Good P B0 w0 S0 H g w (.ptr H.length 0) (H++[.box (ρ x).cells]) v g' w':=by
 obtain⟨j,k⟩:=(d x).cells (jn c);exact⟨_,_,_,.inl (by simp[execOp,e,Instr.box,newVar,newRow]),rV f hi (a.eval x).cells t _ j k⟩
end
end Go.Pm
