/-
 The pure machine: the arguments of a statement, read as data.
-/
import Derived.Test.YtjcfpjpdopfefaaGreatPmFun
import Derived.Test.YtjcfpjpdopfefaaGreatRows
import Derived.ProofKit
namespace Go.Pm
open Go Go.RowKit Go.Proofs.YtjcfpjpdopfefaaGreat
set_option linter.all false
theorem BL{g j:Type}{f:g->Option j}:∀{l:List g} {ys:List j},l.mapM f=some ys->ys.length=l.length/\∀(i:Nat) x y,l[i]?=some x->ys[i]?=some y->f x=some y
 |[],ys,h=>by simp at h;subst h;exact⟨rfl,λi x y c _=>by simp at c⟩
 |a::l,ys,h=>by
  rw[List.mapM_cons]at h;simp only[Option.pure_def,bN,jK,j9]at h;obtain⟨y,k,m,e,rfl⟩:=h;obtain⟨n,p⟩:=BL e;refine⟨by simp[n],λi x z c d=>?_⟩;cases i with
  |zero=>simp at c d;subst c;subst d;exact k
  |succ i=>simp at c d;exact p i x z c d
section
variable(P:fm)
def rK(t:fq):Bool:=match P.underlying t with|some (.struct _)=>true|_=>false
def s5:Nat->List Field->Option Nat
 |o,[]=>some o
 |o,f::fs=>if f.offset=o then s5 (o+P.cellsOf f.type) fs else none
def lC(T:List TypeId):Bool:=
 T.all λt=>match P.underlying t with
  |some .bool|some (.int _)|some .string=>P.cellsOf t==1
  |some (.slice e)=>T.contains e &&P.cellsOf t==1 &&P.cellsOf e !=0 &&decide (1<=P.bytesOf e)
  |some (.struct fs)=>fs.toList.all (λf=>T.contains f.type) &&s5 P 0 fs.toList==some (P.cellsOf t)
  |_=>false
def lD(e:fq)(cs:List fy):fy:=if rK P e then .agg cs else cs.headD (.agg [])
def ry(B:Nat):Nat->fq->List fy->Prop
 |0,_,_=>False
 |n+1,t,ds=>match P.underlying t with
  |some .bool=>∃b,ds=[.raw (.bool b)]
  |some (.int k)=>∃m,ds=[.raw (.int k m)]/\(Lit.int k m).wf=true
  |some .string=>∃s:ByteArray,ds=[.raw (.string s)]/\s.size<=B
  |some (.slice e)=>∃L:List (List fy),ds=[.lst (L.map (lD P e))]/\L.length<=B/\∀x∈L,ry B n e x
  |some (.struct fs)=>fs.toList.foldr (λf K ds=>∃a b,ds=a++b/\ry B n f.type a/\K b) (λds=>ds=[]) ds
  |_=>False
end
def uw(w:fk)(cs:List Value)(ds:List fy):Prop:=
 ds.length=cs.length/\∀(j:Nat) v c,cs[j]?=some v->ds[j]?=some c->fY w (λb _=>b<w.heap.size) v c/\c.isCell=true
section
variable{P:fm}{w:fk}
theorem uw.nil:uw w [] []:=⟨rfl,λj v c h=>by simp at h⟩
theorem uw.one{v:fu}{d:fy}(h:fY w (λb _=>b<w.heap.size) v d)(hc:d.isCell=true):uw w [v] [d]:=⟨rfl,λj v' c e f=>by
 cases j with
 |zero=>simp at e f;subst e;subst f;exact⟨h,hc⟩
 |succ j=>simp at e⟩
theorem uw.append{cs d:List Value}{ds ds':List fy}(h:uw w cs ds)(g:uw w d ds'):uw w (cs++d) (ds++ds'):=⟨by simp[h.1,g.1],λj v c e f=>by
 by_cases k:j<cs.length
 .rw[zO k]at e;rw[zO (by rw[h.1];exact k)]at f;exact h.2 j v c e f
 .rw[zN y8]at e;rw[zN (by rw[h.1];omega),h.1]at f;exact g.2 _ v c e f⟩
theorem Gw{H:Type}{d:DataW H}{l:List (DataW H)}(h:d∈l):Rows.uptoBulk d<=Rows.uptoBulkAll l:=by
 induction l with
 |nil=>cases h
 |cons x r c=>
  simp only[Rows.uptoBulkAll];cases aq.1 h with
  |inl e=>subst e;omega
  |inr e=>have:=c e;omega
theorem KF{H:Type}(d:DataW H):1<=Rows.uptoBulk d:=by
 cases d with
 |lit l=>cases l<;>simp[Rows.uptoBulk]
 |nil=>simp[Rows.uptoBulk]
 |ptr d=>simp[Rows.uptoBulk]
 |slice e spare=>simp[Rows.uptoBulk]
 |agg f=>simp[Rows.uptoBulk]
 |iface t d=>simp[Rows.uptoBulk]
 |map c=>simp[Rows.uptoBulk]
 |held h=>simp[Rows.uptoBulk]
theorem H7{H:Type}(l:List (DataW H)):l.length<=Rows.uptoBulkAll l:=by
 induction l with
 |nil=>simp[Rows.uptoBulkAll]
 |cons x r c=>have:=KF x;simp only[Rows.uptoBulkAll,zG];omega
def OL(P:fm)(B:Nat)(t:fq){H:Type}(d:DataW H):Prop:=maxLen<=B\/Rows.uptoBulk d<=B\/∀x∈d.weights P t,x<=B
def tc(P:fm)(B:Nat)(ts:List TypeId){H:Type}(l:List (DataW H)):Prop:=maxLen<=B\/Rows.uptoBulkAll l<=B\/∀x∈DataW.weightsEach P ts l,x<=B
def N8(P:fm)(B:Nat)(e:fq){H:Type}(l:List (DataW H)):Prop:=maxLen<=B\/Rows.uptoBulkAll l<=B\/∀x∈DataW.weightsAll P e l,x<=B
theorem tc.head{P:fm}{B:Nat}{t:fq}{ts:List TypeId}{H:Type}{d:DataW H}{l:List (DataW H)}(c:tc P B (t::ts) (d::l)):OL P B t d:=by
 rcases c with c|c|c
 .exact Or.inl c
 .rw[Rows.uptoBulkAll]at c;exact Or.inr (Or.inl y8)
 .exact Or.inr (Or.inr λx e=>c x (by rw[DataW.weightsEach];exact y5 _ e))
theorem tc.tail{P:fm}{B:Nat}{t:fq}{ts:List TypeId}{H:Type}{d:DataW H}{l:List (DataW H)}(c:tc P B (t::ts) (d::l)):tc P B ts l:=by
 rcases c with c|c|c
 .exact Or.inl c
 .rw[Rows.uptoBulkAll]at c;exact Or.inr (Or.inl y8)
 .exact Or.inr (Or.inr λx e=>c x (by rw[DataW.weightsEach];exact dg _ e))
theorem tZ{P:fm}{e:fq}{H:Type}{d:DataW H}:∀{l:List (DataW H)},d∈l->∀x∈d.weights P e,x∈DataW.weightsAll P e l
 |y::l,h,x,c=>by
  rw[DataW.weightsAll];rcases aq.1 h with rfl|h
  .exact y5 _ c
  .exact dg _ (tZ h x c)
theorem N8.part{P:fm}{B:Nat}{e:fq}{H:Type}{d:DataW H}{l:List (DataW H)}(h:d∈l)(c:N8 P B e l):OL P B e d:=by
 rcases c with c|c|c
 .exact Or.inl c
 .exact Or.inr (Or.inl (by have:=Gw h;omega))
 .exact Or.inr (Or.inr λx f=>c x (tZ h x f))
theorem vd{a:Addr}{n:Nat}{cs:List Value}(h:w.cells? 0 a n=some cs):cs.length=n/\∀i v,cs[i]?=some v->w.cell? (a.add i)=some v:=by
 unfold World.cells? at h;rw[ai (zP _)]at h;obtain⟨c,e⟩:=BL h;rw[List.length_range]at c;refine⟨c,λi v d=>?_⟩;have hi:i<n:=by have:=(ae.1 d).1;omega
 exact e i i v (by simp[hi]) d
theorem vn{a:Addr}{v:fu}(h:w.cell? a=some v):a.spot=none/\a.block<w.heap.size:=by
 unfold World.cell? at h;split at h
 .rename_i c _ _ d;split at h
  .cases h
  .rename_i e;refine⟨by simpa using e,?_⟩;exact(ay.1 d).1
 .cases h
theorem ET{d:Type}{p:Nat->d->Prop}:∀n,(∀i,i<n->∃x,p i x)->∃L:List d,L.length=n/\∀i x,L[i]?=some x->p i x
 |0,_=>⟨[],rfl,λi x h=>by simp at h⟩
 |n+1,h=>by
  obtain⟨L,e,f⟩:=ET n (λi hi=>h i y8);obtain⟨x,g⟩:=h n (cZ n);refine⟨L++[x],by simp[e],λi y c=>?_⟩;by_cases hi:i<L.length
  .rw[zO hi]at c;exact f i y c
  .rw[zN y8]at c
   have:i=n:=by
    have:=(ae.1 c).1;simp at this;omega
   subst this;rw[e,cB]at c;simp at c;subst c;exact g
theorem M6{a:Addr}(h:a.spot=none)(m n:Nat):(a.add m).add n=⟨a.block,a.off+m+n,none⟩:=by
 obtain⟨b,o,s⟩:=a;simp only at h;subst h;unfold Addr.add;by_cases c:m=0<;>by_cases d:n=0<;>simp[c,d]
theorem tp{T:List TypeId}(c:lC P T=true){t:fq}(d:T.contains t=true):(match P.underlying t with
  |some .bool|some (.int _)|some .string=>P.cellsOf t==1
  |some (.slice e)=>T.contains e &&P.cellsOf t==1 &&P.cellsOf e !=0 &&decide (1<=P.bytesOf e)
  |some (.struct fs)=>fs.toList.all (λf=>T.contains f.type) &&s5 P 0 fs.toList==some (P.cellsOf t)
  |_=>false)=true:=by
 simp only[lC,j8]at c;exact c t (by simpa using d)
theorem Dz{T:List TypeId}(d:lC P T=true){t:fq}(e:T.contains t=true)(h:rK P t=false):P.cellsOf t=1:=by
 have:=tp d e;revert this h;unfold rK;split
 .intro h;cases h
 .rename_i c;intro _;split
  .intro h;simpa using h
  .intro h;simpa using h
  .intro h;simpa using h
  .intro h;simp at h;exact h.1.1.2
  .rename_i f;exact absurd f (c _)
  .intro h;cases h
theorem K9{d:fy}(h:d.isCell=true):d.num=1/\d.cells=[d]:=by
 cases d with
 |agg cs=>cases h
 |_=>exact⟨rfl,rfl⟩
theorem Bt{e:fq}{ds:List fy}(c:rK P e=false->ds.length=1)(hc:∀d∈ds,d.isCell=true):(lD P e ds).cells=ds/\(lD P e ds).num=ds.length:=by
 unfold lD;cases h:rK P e with
 |true=>exact⟨rfl,rfl⟩
 |false=>
  have f:=c h
  match ds,f,hc with
  |[d],_,hc=>
   have:=K9 (hc d yA);exact⟨by simpa using this.2,by simpa using this.1⟩
variable{H:Type}{enc:TypeId×Value->H}{T:List TypeId}{B:Nat}{spare:Nat->Bool}{held:Bool}
theorem wv{c:Nat}{cs:List Value}(k:∀(t:fq) (cs:List Value) (d:DataW H) (l:List MemPlace),T.contains t=true->OL P B t d->DataW.trod enc P w 0 spare held c t cs=some (d,l)->∃ds,uw w cs ds/\ry P B c t ds/\cs.length=P.cellsOf t):
  ∀(fs:List Field) (o:Nat) (xs:List (DataW H×List MemPlace)),fs.all (λf=>T.contains f.type)=true->s5 P o fs=some cs.length->tc P B (fs.map (·.type)) (xs.map (·.1))->xs.length=fs.length->
   (∀(i:Nat) (f:Field),fs[i]?=some f->DataW.trod enc P w 0 spare held c f.type ((cs.drop f.offset).take (P.cellsOf f.type))=xs[i]?)->
   ∃ds,uw w (cs.drop o) ds/\fs.foldr (λf K ds=>∃a b,ds=a++b/\ry P B c f.type a/\K b) (λds=>ds=[]) ds
 |[],o,xs,_,hc,_,_,_=>by
  simp only[s5,j9]at hc;refine⟨[],?_,rfl⟩;rw[hc,dW];exact .nil
 |f::fs,o,[],_,_,_,hl,_=>by simp at hl
 |f::fs,o,(d,l)::ys,e,hc,m,hl,hm=>by
  simp only[s5]at hc;split at hc
  .rename_i p;subst p;have n:=hm 0 f rfl;rw[bT]at n;simp only[bq,jE]at e;have g:OL P B f.type d:=tc.head m;have j:tc P B (fs.map (·.type)) (ys.map (·.1)):=tc.tail m;obtain⟨a,q,r,y⟩:=k _ _ _ _ e.1 g n;obtain⟨b,s,u⟩:=wv k fs _ ys e.2 hc j (by simpa using hl) (λi v x=>by have:=hm (i+1) v (by simpa using x);simpa using this);refine⟨a++b,?_,a,b,rfl,r,u⟩;have:=q.append s
   rwa [<-dB,y7]at this
  .cases hc
theorem wP(hT:lC P T=true):∀(A:Nat) (t:fq) (cs:List Value) (d:DataW H) (V:List MemPlace),T.contains t=true->OL P B t d->DataW.trod enc P w 0 spare held A t cs=some (d,V)->
  ∃ds,uw w cs ds/\ry P B A t ds/\cs.length=P.cellsOf t
 |0,t,cs,d,V,_,_,h=>by simp[DataW.trod]at h
 |A+1,t,cs,d,V,ht,m,h=>by
  have c:=tp hT ht;cases D:P.underlying t with
  |none=>rw[D]at c;cases c
  |some u=>
   simp only[D]at c;cases u with
   |bool=>
    obtain⟨b,rfl,C⟩:=DataW.trod_bool D h;exact⟨[.raw (.bool b)],.one (.raw _ rfl) rfl,by simp only[ry,D];exact⟨b,rfl⟩,by simp at c;simp[c]⟩
   |int k=>
    obtain⟨n,rfl,C,hw⟩:=DataW.trod_int D h;exact⟨[.raw (.int k n)],.one (.raw _ rfl) rfl,by simp only[ry,D];exact⟨n,rfl,hw⟩,by simp at c;simp[c]⟩
   |string=>
    obtain⟨s,rfl,C,hs⟩:=DataW.trod_string D h;refine⟨[.raw (.string s)],.one (.raw _ rfl) rfl,?_,by simp at c;simp[c]⟩;simp only[ry,D];refine⟨s,rfl,?_⟩;have h9:s.data.toList.length=s.size:=by rw[aP];rfl
    simp only[jI]at C;rcases m with m|m|m
    .omega
    .rw[C.1,Rows.uptoBulk]at m;omega
    .rw[C.1,DataW.weights]at m;have:=m _ (ca.2 rfl);omega
   |struct fs=>
    obtain⟨xs,n,hn,C,hl,hxl,hg⟩:=DataW.trod_struct D h;cases hn;simp only[jE,bo]at c;simp only[jI]at C
    obtain⟨ds,E,G⟩:=wv (cs:=cs) (λt cs d V=>wP hT A t cs d V) fs.toList 0 xs c.1 (by rw[c.2,hl]) (by
     rcases m with m|m|m
     .exact Or.inl m
     .rw[C.1,Rows.uptoBulk]at m;exact Or.inr (Or.inl y8)
     .rw[C.1,DataW.weights,D]at m;exact Or.inr (Or.inr m)) (by simpa using hxl) (λi f hf=>hg i f (by simpa using hf))
    rw[cw]at E;exact⟨ds,E,by simp only[ry,D];exact G,hl⟩
   |slice e=>
    simp only[jE,bo,bne_iff_ne]at c;obtain⟨⟨⟨W,X⟩,hk0⟩,M⟩:=c;replace M:1<=P.bytesOf e:=of_decide_eq_true M;rcases DataW.trod_slice D h with⟨rfl,C⟩|⟨a,len,cap,g,Y,n,hn,rfl,C,_,hlc,hcm,hel,hg,_⟩
    .exact⟨[.lst []],.one .nil rfl,by simp only[ry,D];exact⟨[],rfl,zP _,λx C=>by cases C⟩,by simp[X]⟩
    .cases hn;simp only[jI]at C
     have hlB:len<=B:=by
      rcases m with m|m|m
      .omega
      .rw[C.1,Rows.uptoBulk]at m;have:=H7 (g.map (·.1));rw[jY]at this;omega
      .rw[C.1,DataW.weights,D]at m;have h8:=m _ (jM ..);rw[jY,jY]at h8;have h9:len*1<=(g.length+Y.length)*P.bytesOf e:=dA y8 M;omega
     have hbe:∀x∈g,OL P B e x.1:=λx r=>N8.part (l:=g.map (·.1)) (List.mem_map_of_mem r) (by
      rcases m with m|m|m
      .exact Or.inl m
      .rw[C.1,Rows.uptoBulk]at m;exact Or.inr (Or.inl y8)
      .rw[C.1,DataW.weights,D]at m;exact Or.inr (Or.inr λy hy=>m y (jG _ (y5 _ hy))))
     obtain⟨L,N,O⟩:=ET (p:=λi (ds:List fy)=>∃z,w.cells? 0 (a.add (i*P.cellsOf e)) (P.cellsOf e)=some z/\uw w z ds/\ry P B A e ds/\z.length=P.cellsOf e) len (λi hi=>by
      have he:=hg i hi;have Z:i<g.length:=by omega
      rw[jC Z,jK]at he;obtain⟨z,E,G⟩:=he;obtain⟨ds,J,Q,U⟩:=wP hT A e z g[i].1 g[i].2 W (hbe _ (zC Z)) G;exact⟨ds,z,E,J,Q,U⟩)
     have I:∀x∈L,ry P B A e x/\x.length=P.cellsOf e/\∀d∈x,d.isCell=true:=λx r=>by
      obtain⟨i,hi,rfl⟩:=bM r;obtain⟨z,E,G,J,Q⟩:=O i _ (jC hi);refine⟨J,by rw[G.1,Q],λd K=>?_⟩;obtain⟨j,hj,rfl⟩:=bM K;have hj':j<z.length:=by rw[<-G.1];exact hj
      exact(G.2 j _ _ (jC hj') (jC hj)).2
     have hec:∀x∈L,(lD P e x).cells=x/\(lD P e x).num=P.cellsOf e:=λx r=>by
      obtain⟨E,G,J⟩:=I x r;have:=Bt (P:=P) (e:=e) (ds:=x) (λh=>by rw[G];exact Dz hT W h) J;exact⟨this.1,by rw[this.2,G]⟩
     refine⟨[.lst (L.map (lD P e))],.one ?_ rfl,by simp only[ry,D];exact⟨L,rfl,by omega,λx r=>(I x r).1⟩,by simp[X]⟩;cases len with
     |zero=>
      have:L=[]:=aw N
      subst this;exact .empty a cap
     |succ len=>
      have R:a.spot=none:=by
       have h0:0<L.length:=by omega
       obtain⟨z,E,_⟩:=O 0 _ (jC h0);obtain⟨J,Q⟩:=vd E;have U:0<z.length:=by omega
       have:=(vn (Q 0 _ (jC U))).1
       simpa[Addr.add]using this
      have F:∀i j,i<L.length->j<P.cellsOf e->∃v,w.cell? ⟨a.block,a.off+(i*P.cellsOf e+j),none⟩=some v/\a.block<w.heap.size/\∀ds d,L[i]?=some ds->ds[j]?=some d->fY w (λb _=>b<w.heap.size) v d:=λi j hi hj=>by
       obtain⟨z,E,G,_,_⟩:=O i _ (jC hi);obtain⟨J,Q⟩:=vd E;have U:j<z.length:=by omega
       have h6:=Q j _ (jC U);rw[M6 R,bP]at h6;refine⟨_,h6,(vn h6).2,λds d hds K=>?_⟩;rw[jC hi]at hds;cases hds;exact(G.2 j _ d (jC U) K).1
      have hpos:0<P.cellsOf e:=Nat.pos_of_ne_zero hk0;obtain⟨ab,ao,as'⟩:=a;simp only at R F;subst R;refine .lst ab ao (len+1) cap (P.cellsOf e) _ (λq=>(w.cell? ⟨ab,ao+q,none⟩).getD default) (by rw[jY,N]) hlc (λd K=>?_) (λq hq=>?_) (λi j d u K S=>?_)
      .obtain⟨x,r,rfl⟩:=ar.1 K;exact(hec x r).2
      .have hi:q/P.cellsOf e<L.length:=by rw[N];exact eQ (by rw[bB];exact hq)
       obtain⟨v,E,G,_⟩:=F (q/P.cellsOf e) (q%P.cellsOf e) hi (bd _ hpos);rw[bB,cj]at E;exact⟨by rw[E];rfl,G⟩
      .rw[jD,j5]at K;obtain⟨x,r,rfl⟩:=K;have hi:=(ae.1 r).1;have hxm:=jF r;rw[(hec x hxm).1]at S;have hj:j<P.cellsOf e:=by have:=(ae.1 S).1;have:=(I x hxm).2.1;omega
       obtain⟨v,E,_,J⟩:=F i j hi hj;have:=J x u r S;simp only[E,aE];exact this
   |_=>cases c
end
end Go.Pm
