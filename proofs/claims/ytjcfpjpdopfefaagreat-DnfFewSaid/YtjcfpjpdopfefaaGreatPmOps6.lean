/-
 The pure machine: soundness of built structs, literal lists, made lists, append.
-/
import Derived.Test.YtjcfpjpdopfefaaGreatPmOps5
import Derived.Great.BuildSlice
namespace Go.Pm
open Go Go.RowKit
set_option linter.all false
section
variable{P:fm}{B0 N:Nat}{w0:fk}{S0:Nat->Nat->Prop}{g:Gh}{H H':List fB}{w:fk}{p:PV}{o:Oper}{a:Act}{ρ:ft->PV}
theorem pg{t:fq}{j:Nat->Option (Nat×Nat)}{i:TypeInfo}{k:fu}(c:rh P t=some j)(hi:P.info? t=some i)(m:i.zero=some k)(d:List (Nat×Value)):
  P.built t d=Instr.fill j k.cells d:=by
 unfold rh at c;unfold Program.built;split at c
 .rename_i fs f;simp only[j5]at c;obtain⟨l,hl,rfl⟩:=c;simp only[hi,f,m,hl];congr 1
  funext x;simp
 .rename_i n e f;simp only[j5]at c;obtain⟨s,p,rfl⟩:=c;simp only[fJ,j5]at p;obtain⟨q,g,rfl⟩:=p;simp only[hi,f,m,g]
 .cases c
theorem IN{t:fq}{f:Array (Nat×Operand)}{z:fy}{p:Nat->Option (Nat×Nat)}{cs k:List PV}{bs:List fB}{u:List (Nat×TypeId)}(I:o.op=.build t f)(J:fL P t=some z)(y:rh P t=some p)(K:kW p (z.cells.map PV.dat) (f.toList.map λ(i,x)=>(i,(ρ x).cells))=some cs)(l:f.toList.all (λ(_,x)=>(ρ x).cells.all PV.cell)=true)(A:u.all (λ(j,_)=>lb p j f.toList)=true)(F:iW H.length cs u=some (k,bs))(L:Qm P g B0 H.length H w)(hi:Inv B0 w0 S0 g w)(B:∀x,fC g H.length w (a.eval x) (ρ x)):
  ∃v g' w',fQ P o a w v w'/\Good P B0 w0 S0 H g w (mkAgg k) (H++bs) v g' w':=by
 obtain⟨i,M,O,Q,R,T,_⟩:=gE J;obtain⟨U,V⟩:=(R w g.S).cells;have m:∀i x,(i,x)∈f.toList->ρ x≠.undef:=λi x W=>jn (by have:=an.1 l (i,x) W;exact this)
 obtain⟨vals,X,f2,f3,Y,Z⟩:=A4 (a:=a) (ρ:=ρ) f.toList M.cells _ _ K (by simpa using U) (λj v c q r=>by
  simp only[jD,j5]at r;obtain⟨d,C,rfl⟩:=r;exact fC.dat (N:=H.length) _ _ (V j v d q C)) B m
 have n:∀j,j∈u.map (·.1)->lb p j f.toList=true:=λj s=>by
  obtain⟨⟨j',e⟩,D,rfl⟩:=ar.1 s;exact an.1 A _ D
 obtain⟨G,t2,t3⟩:=pW _ _ _ _ _ F vals (λj s hc=>by
  obtain⟨u1,u2⟩:=Z j (n j s);rw[u1];rw[u2]at hc;simp only[jD,j5]at hc;obtain⟨d,C,e⟩:=hc;cases e;exact T j C)
 have E:Ext H.length g w (g.nils H.length bs.length) w:=Ext.nils _ (j7 _);refine⟨.agg vals,g.nils H.length bs.length,w,.inl ?_,E,by simp,?_,?_,⟨hi.below,hi.size,hi.old,hi.lt⟩,Fr.old (j7 _) (λ_ _=>rfl) λi b h _=>?_⟩
 case refine_4=>exact⟨i,gD (g:=g) (BH G (λi hi=>by simp[Gh.nils];omega) h) (λ_ _=>rfl) (λj s=>by simp only[Gh.nils];rw[af y8])⟩
 .have hb:=run_build (P:=P) w t (f.map λ(i,x)=>(i,a.eval x)) vals (by rw[pg y O Q];simpa using X);simp only[execOp,I,Sem.run_bind];rw[hb];rfl
 .refine fC.mkAgg y8 λj v c q r=>?_
  rcases t3 j v c q r with hc|⟨tk,a1,a2,rfl,rfl⟩
  .exact(Y j v c q hc).ext E yA
  .refine .vec _ _ _ (.slice none 0 0) 0 y9 .nil ?_ (j7 _) yB;simp only[Gh.nils];rw[ai ⟨a1,a2⟩]
 .exact Qm.toks (L.keep E yA (j7 _) (λ_ _ _=>rfl) (λ_ _ _ _ h=>h) (λt F=>by simp only[Gh.nils];rw[af y8])) bs G (λi hi=>by simp[Gh.nils];omega)
theorem tv{v:fu}{p:PV}{d:fy}(h:fC g N w v p)(c:fR H p=some d)(hl:p.isArr=false):fY w g.S v d:=by
 cases h with
 |dat v d h=>simp[fR]at c;subst c;exact h
 |vec v t es v0 n f e=>simp[fR]at c;subst c;exact e
 |empv b v f e=>
  simp[fR]at c;subst c;cases b with
  |true=>rw[f rfl];exact .nil
  |false=>obtain⟨a,cap,rfl⟩:=e rfl;exact .empty a cap
 |arr i o len cap=>cases hl
 |ms=>cases hl
 |_=>simp[fR]at c
theorem k9:∀(cs:List PV) (ds:List fy),kC H cs=some ds->ds.length=cs.length/\∀(j:Nat) c d,cs[j]?=some c->ds[j]?=some d->fR H c=some d
 |[],ds,h=>by cases h;exact⟨rfl,λj c d h=>by simp at h⟩
 |c::r,ds,h=>by
  unfold kC at h;split at h
  .rename_i d ds' hc g;cases h;obtain⟨k,l⟩:=k9 r ds' g;refine⟨by simp[k],λj m n e f=>?_⟩;cases j with
   |zero=>simp at e f;subst e f;exact hc
   |succ j=>exact l j m n (by simpa using e) (by simpa using f)
  .cases h
theorem jl:∀(cs:List PV) (ds:List fy),gp H cs=some ds->ds.length=cs.length/\∀(j:Nat) c d,cs[j]?=some c->ds[j]?=some d->iu H c=some d
 |[],ds,h=>by cases h;exact⟨rfl,λj c d h=>by simp at h⟩
 |c::r,ds,h=>by
  unfold gp at h;split at h
  .rename_i d ds' hc g;cases h;obtain⟨k,l⟩:=jl r ds' g;refine⟨by simp[k],λj m n e f=>?_⟩;cases j with
   |zero=>simp at e f;subst e f;exact hc
   |succ j=>exact l j m n (by simpa using e) (by simpa using f)
  .cases h
theorem mv{v:fu}{p:PV}{d:fy}(h:fC g N w v p)(c:iu H p=some d)(hl:p.lends=false):fY w g.S v d:=by
 cases h with
 |agg vs cs k e=>
  simp only[iu,j5]at c;obtain⟨ds,c,rfl⟩:=c;obtain⟨p1,m⟩:=k9 _ _ c;refine .agg _ _ y8 λj v d q l=>?_
  have f:j<cs.length:=by rw[<-p1];exact(ae.1 l).1
  have hc:cs[j]?=some cs[j]:=jC f;refine tv (e j v _ q hc) (m j _ d hc l) ?_;simp only[PV.lends,bp]at hl;have:=hl _ (zC f)
  simpa using this
 |dat v r h=>exact tv (N:=N) (H:=H) (fC.dat v r h) c rfl
 |vec v t es v0 n k e s u x=>exact tv (H:=H) (fC.vec v t es v0 n k e s u x) c rfl
 |empv b v k e=>
  simp[iu,fR]at c;subst c;cases b with
  |true=>rw[k rfl];exact .nil
  |false=>obtain⟨a,cap,rfl⟩:=e rfl;exact .empty a cap
 |arr i o len cap=>simp[PV.lends]at hl
 |ms=>simp[PV.lends]at hl
 |_=>simp[iu,fR]at c
theorem lS{size:Nat}:∀(f:List (Nat×Value)) (k:Nat) (vals:Array Value),(∀(i:Nat) q,f[i]?=some q->q.1=k+i/\q.2.cells.size=size)->(k+f.length)*size<=vals.size->
  ∃c,Instr.fill (λi=>some (i*size,size)) vals f=some c/\c.size=vals.size/\(∀(i j:Nat) q,f[i]?=some q->j<size->c[(k+i)*size+j]?=q.2.cells[j]?)/\∀m,m<k*size->c[m]?=vals[m]?
 |[],k,vals,_,_=>⟨vals,rfl,rfl,λi j q h=>by simp at h,λ_ _=>rfl⟩
 |q::f,k,vals,s,hl=>by
  obtain⟨q1,q2⟩:=s 0 q rfl;obtain⟨d,v⟩:=q;simp at q1 q2;subst q1
  have n:d*size+size<=vals.size:=by
   have:(d+1)*size<=(d+(f.length+1))*size:=au _ y8
   rw[av,bA]at this;simp at hl;omega
  generalize g:(v.cells.toList.zipIdx 0).foldl (λcs (x:Value×Nat)=>cs.setIfInBounds (d*size+x.2) x.1) vals=new;have p:=λm=>lU v.cells.toList 0 (d*size) vals m (by simpa[q2]using n)
  rw[g]at p
  have l:∀m,new[m]?=(if d*size<=m/\m<d*size+size then v.cells[m - d*size]? else vals[m]?):=λm=>by
   rw[(p m).1];simp[q2]
  have r:new.size=vals.size:=(p 0).2
  obtain⟨c,u,A,w,t⟩:=lS f (d+1) new (λi q h=>by
   have:=s (i+1) q (by simpa using h);exact⟨by omega,this.2⟩) (by rw[r,show d+1+f.length=d+(f.length+1) by omega];simpa using hl)
  refine⟨c,?_,by omega,λi j q h y=>?_,λm hm=>?_⟩
  .simp only[Instr.fill];rw[af y9];have e:v.cells.zipIdx.foldl (λcs (x:Value×Nat)=>cs.setIfInBounds (d*size+x.2) x.1) vals=new:=by rw[<-g,<-dJ];simp
   exact(bI (λz=>Instr.fill (λi=>some (i*size,size)) z f) e).trans u
  .cases i with
   |zero=>
    simp at h;subst h
    have:d*size+j<(d+1)*size:=by rw[av];omega
    rw[zX,t _ this,l,ai ⟨by omega,by omega⟩];congr 1;omega
   |succ i=>
    have:=w i j q (by simpa using h) y
    rwa [show d+1+i=d+(i+1) by omega]at this
  .have:m<(d+1)*size:=by rw[av];omega
   rw[t m this,l,af y8]
theorem od:∀(c:List (Nat×Operand)) (k:Nat),np k c=true->∀(i:Nat) q,c[i]?=some q->q.1=k+i
 |[],_,_,i,q,h=>by simp at h
 |(e,x)::c,k,d,i,q,h=>by
  simp only[np,jE,bo]at d;cases i with
  |zero=>simp at h;subst h;simp[d.1]
  |succ i=>have:=od c (k+1) d.2 i q (by simpa using h);omega
theorem gC{size:Nat}{d:fy}(h:d.fits size=true):d.num=size:=by
 simp only[fy.fits,jE,bo]at h;exact h.1
theorem mC{t e:fq}{len size:Nat}{c:Array (Nat×Operand)}{ds:List fy}(W:o.op=.buildSlice t len c)(O:fA P t=some e)(n:fJ P e=some size)(C:(fL P e).isSome=true)(X:gp H (c.toList.map λ(_,x)=>ρ x)=some ds)(hl:c.size=len)(D:np 0 c.toList=true)(Q:ds.all (fy.fits size)=true)(h0:0<size)(Y:len*size<=16777216)(E:c.toList.any (λ(_,x)=>(ρ x).lends)=false)(hH:Qm P g B0 H.length H w)(hi:Inv B0 w0 S0 g w)(F:∀x,fC g H.length w (a.eval x) (ρ x)):
  ∃vals:Array Value,(execOp a.eval o).run P w=.ok (.value (.slice (some ⟨w.heap.size,0,none⟩) len len)) (w.alloc (.cells vals e))/\vals.size=len*size/\ds.length=len/\
   fY (w.alloc (.cells vals e)) (g.pub w.heap.size (len*size)).S (.slice (some ⟨w.heap.size,0,none⟩) len len) (.lst ds):=by
 obtain⟨p1,Z⟩:=jl _ _ X;have k:ds.length=len:=by rw[p1];simpa using hl
 obtain⟨z,C⟩:=aA.1 C;obtain⟨R,G,T,i2,_⟩:=gE C;have p:R.size=size:=by simp only[fJ,T,jN,j9]at n;exact n
 have l:∀(i:Nat) q d,c.toList[i]?=some q->ds[i]?=some d->fY w g.S (a.eval q.2) d:=λi q d r B=>by
  have hm:q∈c.toList:=jF r;refine mv (F q.2) (Z i (ρ q.2) d (by simp only[jD,r,jN]) B) ?_;have:=bp.1 E q hm
  simpa using this
 have I:∀(i:Nat) q,c.toList[i]?=some q->∃d,ds[i]?=some d:=λi q h=>⟨_,jC (by rw[p1];simpa using(ae.1 h).1)⟩
 have f:∀(i:Nat) d,ds[i]?=some d->d.num=size:=λi d h=>gC (an.1 Q d (jF h))
 obtain⟨vals,f1,f2,f3,_⟩:=lS (size:=size) (c.toList.map λ(i,x)=>(i,a.eval x)) 0 ((Array.range (len*size)).map (G.cells[· %G.cells.size]!)) (λi q h=>by
  simp only[jD,j5]at h;obtain⟨J,h,rfl⟩:=h;obtain⟨d,v⟩:=I i J h;exact⟨od _ 0 D i J h,by rw[(l i J d h v).cells.1,<-fy.num_eq,f i d v]⟩) (by simp[hl])
 have s:vals.size=len*size:=by rw[f2];simp
 have hb:(Instr.buildSlice t len (c.map λ(i,x)=>(i,a.eval x))).run P w=.ok (.slice (some ⟨w.heap.size,0,none⟩) len len) (w.alloc (.cells vals e)):=by
  by_cases hpos:len*size=0
  .have K:len=0:=by
    rcases eC.1 hpos with h|h
    .exact h
    .omega
   subst K;have L:c=#[]:=by simpa using hl
   subst L
   have:vals=#[]:=by simpa using s
   subst this;simp[Instr.buildSlice,run_underlying (QM O),hZ n,Instr.fill,newRow,dP]
  .refine run_buildSlice w t e len _ vals R G (QM O) T i2 (by rw[p];omega) (by rw[p];exact hpos) ?_;rw[p];simpa using f1
 refine⟨vals,by simp[execOp,W,hb],s,k,?_⟩;refine .lst w.heap.size 0 len len size ds (λm=>vals.getD m undef) k.symm (j7 _) (λd D=>gC (an.1 Q d D)) (λi M=>⟨?_,.inr ⟨rfl,by omega⟩⟩) (λi j d u r B=>?_)
 .rw[cell_of_row _ _ _ vals e (0,0) (heap_alloc_new w _)];simp[jH,s,M]
 .have y:i<ds.length:=(ae.1 r).1;obtain⟨q,U⟩:∃q,c.toList[i]?=some q:=⟨_,jC (by rw[p1]at y;simpa using y)⟩;have V:j<size:=by rw[<-f i d r,fy.num_eq];exact(ae.1 B).1
  have N:=f3 i j (q.1,a.eval q.2) (by simp only[jD,U,jN]) V;simp only[zY]at N;obtain⟨c1,c2⟩:=(l i q d U r).cells;have A:j<(a.eval q.2).cells.size:=by rw[c1,<-fy.num_eq,f i d r];exact V
  rw[jA A]at N;simp only[jH,N,aE];have:=c2 j _ u (jA A) B;exact this.mono (λb o n=>.inl n) (λb o n=>wU _ (hi.lt b o n))
theorem Inv.pubAlloc{ob:Obj}{n:Nat}(hi:Inv B0 w0 S0 g w):Inv B0 w0 S0 (g.pub w.heap.size n) (w.alloc ob):=by
 have h:=hi.alloc ob;refine⟨h.below,h.size,λb o c=>?_,λb o c=>?_⟩
 .rcases c with c|⟨rfl,_⟩
  .exact h.old b o c
  .exact .inr hi.size
 .rcases c with c|⟨rfl,_⟩
  .exact h.lt b o c
  .simp
theorem Qm.pubAlloc{ob:Obj}{n:Nat}(c:Qm P g B0 H.length H w)(hi:Inv B0 w0 S0 g w)(j:H.length<=N):Ext H.length g w (g.pub w.heap.size n) (w.alloc ob)/\Qm P (g.pub w.heap.size n) B0 N H (w.alloc ob):=by
 have f:Ext H.length g w (g.pub w.heap.size n) (w.alloc ob):=(Ext.alloc hi H.length _).trans (Ext.pub H.length _ _) (j7 _);refine⟨f,c.keep f j (j7 _) (λi b d=>Below.heap_alloc w _ b (c.occ_lt d).2.1) (λi b d o e=>?_) (λ_ _=>rfl)⟩;rcases e with e|⟨rfl,_⟩
 .exact e
 .exact absurd (c.occ_lt d).2.1 (jZ _)
theorem xH{t e:fq}{len size:Nat}{c:Array (Nat×Operand)}{ds:List fy}(l:o.op=.buildSlice t len c)(m:fA P t=some e)(p:fJ P e=some size)(q:(fL P e).isSome=true)(r:gp H (c.toList.map λ(_,x)=>ρ x)=some ds)(hl:c.size=len)(s:np 0 c.toList=true)(u:ds.all (fy.fits size)=true)(h0:0<size)(d:len*size<=16777216)(f:c.toList.any (λ(_,x)=>(ρ x).lends)=false)(k:Qm P g B0 H.length H w)(hi:Inv B0 w0 S0 g w)(j:∀x,fC g H.length w (a.eval x) (ρ x)):
  ∃v g' w',fQ P o a w v w'/\Good P B0 w0 S0 H g w (.dat (.lst ds)) H v g' w':=by
 obtain⟨vals,y,B,C,z⟩:=mC (S0:=S0) (w0:=w0) l m p q r hl s u h0 d f k hi j;obtain⟨k1,k2⟩:=Qm.pubAlloc (ob:=.cells vals e) (n:=len*size) k hi (j7 _);exact⟨_,g.pub w.heap.size (len*size),_,.inl y,k1,j7 _,.dat _ _ z,k2,hi.pubAlloc,Fr.old yA (λb A=>Below.heap_alloc w _ b A) (λi b h _=>⟨i,gD (g:=g) h (λ_ _=>rfl) (λ_ _=>rfl)⟩) (λb o h=>h.imp id λh=>.inl (cb h.1.symm))⟩
theorem sM{t e:fq}{len size:Nat}{c:Array (Nat×Operand)}{ds:List fy}(D:o.op=.buildSlice t len c)(E:fA P t=some e)(l:fJ P e=some size)(F:(fL P e).isSome=true)(G:gp H (c.toList.map λ(_,x)=>ρ x)=some ds)(hl:c.size=len)(I:np 0 c.toList=true)(J:ds.all (fy.fits size)=true)(h0:0<size)(q:len*size<=16777216)(r:c.toList.any (λ(_,x)=>(ρ x).lends)=false)(s:Qm P g B0 H.length H w)(hi:Inv B0 w0 S0 g w)(u:∀x,fC g H.length w (a.eval x) (ρ x)):
  ∃v g' w',fQ P o a w v w'/\Good P B0 w0 S0 H g w (.vec H.length ds) (H++[.tok e ds.length]) v g' w':=by
 obtain⟨vals,K,L,y,M⟩:=mC (S0:=S0) (w0:=w0) D E l F G hl I J h0 q r s hi u
 let v0:Value:=.slice (some ⟨w.heap.size,0,none⟩) len len
 let m:=g.pub w.heap.size (len*size)
 let f:=m.give H.length v0 len
 have k:=hi.pubAlloc (ob:=.cells vals e) (n:=len*size);obtain⟨k1,k2⟩:=Qm.pubAlloc (ob:=.cells vals e) (n:=len*size) (N:=H.length) s hi (j7 _);have B:Ext H.length m (w.alloc (.cells vals e)) f (w.alloc (.cells vals e)):=.giveNew _ _ _ (j7 _);refine⟨v0,f,_,.inl K,k1.trans B (j7 _),by simp,.vec _ _ _ v0 len yA M (by simp[f,Gh.give]) y8 yB,?_,⟨k.below,k.size,k.old,k.lt⟩,Fr.old yA (λb d=>Below.heap_alloc w _ b d) (λi b h d=>?_) (λb o h=>h.imp id λh=>.inl (cb h.1.symm))⟩
 case refine_2=>
  rcases oh h with h|⟨_,⟨O,h,_⟩|⟨e',n,_,h⟩⟩
  .exact⟨i,gD (g:=g) h (λj Q=>rfl) (λj Q=>by simp only[f,Gh.give];rw[af y8];rfl)⟩
  .cases h
  .simp[f,Gh.give,v0,Value.ownBlock]at h;subst h;exact absurd d (jZ _)
 have C:Qm P f B0 (H++[fB.tok e ds.length]).length H (w.alloc (.cells vals e)):=k2.keep B yA (j7 _) (λ_ _ _=>rfl) (λ_ _ _ _ h=>h) (λt R=>by simp only[f,Gh.give];rw[af y8]);refine C.snoc _ (λ_ h=>by cases h) (λe' n h=>?_) (λi b d z=>?_)
 .cases h;refine⟨v0,by simp[f,Gh.give,y],.inr ⟨w.heap.size,len,vals,size,by rw[y],hi.size,heap_alloc_new w _,l,by omega,?_,L,λo l=>?_⟩⟩
  .have:len<=len*size:=aD _ h0
   simp only[maxLen];omega
  .rcases l with l|⟨_,l⟩
   .exact absurd (hi.lt _ _ l) (jZ _)
   .rw[y];exact l
 .rw[kh (e:=e) (n:=ds.length) yA]at z;simp[f,Gh.give,v0,Value.ownBlock]at z;subst z;have p:=C.occ_lt d
  have A:occ g H i=some w.heap.size:=by
   unfold occ at d |-;split at d
   .simpa[f,m,Gh.give,Gh.pub]using d
   .have:=p.2.2;simp only[f,m,Gh.give,Gh.pub]at d
    rwa [af y8]at d
   .have:=p.2.2;simp only[f,m,Gh.give,Gh.pub]at d
    rwa [af y8]at d
   .simpa[f,m,Gh.give,Gh.pub]using d
   .cases d
   .cases d
  exact jZ _ (s.occ_lt A).2.1
end
end Go.Pm
