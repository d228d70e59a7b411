/-
 The machine, models, walks, plain laws.
-/
import Derived.Test.YtjcfpjpdopfefaaGreatMb
import Derived.Test.YtjcfpjpdopfefaaGreatRows
import Derived.ProofKit
import Derived.Laws.StructEq
import Derived.KernelRfl
import Derived.Laws.Strings
namespace Go.Pm
open Go Go.RowKit Go.Proofs.YtjcfpjpdopfefaaGreat Go.ChangeShapes
open Option renaming some->O,none->Z
open Bool renaming true->J,false->U
open List renaming length->I,replicate->Nab,map->Naa,range->Nad
set_option linter.all false
theorem CS{g j:Type}{f:g->Option j}:∀{l:List g} {ys:List j},l.mapM f=O ys->I ys=I l/\∀(i:Nat) x y,l[i]?=O x->ys[i]?=O y->f x=O y
 |[],ys,h=>by simp at h;subst h;exact⟨rfl,λi x y c _=>by simp at c⟩
 |a::l,ys,h=>by
  rw[List.mapM_cons]at h;simp only[Option.pure_def,bS,jK,j9]at h;obtain⟨y,k,m,e,rfl⟩:=h;obtain⟨n,p⟩:=CS e;refine⟨by simp[n],λi x z c d=>?_⟩;cases i with
  |zero=>simp at c d;subst c;subst d;exact k
  |succ i=>simp at c d;exact p i x z c d
section
variable(P:fL)
def tU(t:fN):Bool:=match P.underlying t with|some (.struct _)=>J|_=>U
def uW:Nat->List Field->Option Nat
 |o,[]=>O o
 |o,f::fs=>if f.offset=o then uW (o+P.cellsOf f.type) fs else Z
def mq(T:List TypeId):Bool:=
 T.all λt=>match P.underlying t with
  |some .bool|some (.int _)|some .string=>P.cellsOf t==1
  |some (.slice e)=>T.contains e &&P.cellsOf t==1 &&P.cellsOf e !=0 &&decide (1<=P.bytesOf e)
  |some (.struct fs)=>fs.toList.all (λf=>T.contains f.type) &&uW P 0 fs.toList==O (P.cellsOf t)
  |_=>U
def mS(e:fN)(cs:List fS):fS:=if tU P e then .agg cs else cs.headD (.agg [])
def tW(B:Nat):Nat->fN->List fS->Prop
 |0,_,_=>False
 |n+1,t,ds=>match P.underlying t with
  |some .bool=>∃b,ds=[.raw (.bool b)]
  |some (.int k)=>∃m,ds=[.raw (.int k m)]/\(Lit.int k m).wf=J
  |some .string=>∃s:ByteArray,ds=[.raw (.string s)]/\s.size<=B
  |some (.slice e)=>∃L:List (List fS),ds=[.ew (L.map (mS P e))]/\(I L)<=B/\∀x∈L,tW B n e x
  |some (.struct fs)=>fs.toList.foldr (λf K ds=>∃a b,ds=a++b/\tW B n f.type a/\K b) (λds=>ds=[]) ds
  |_=>False
end
def wb(w:fK)(cs:List Value)(ds:List fS):Prop:=
 (I ds)=I cs/\∀(j:Nat) v c,cs[j]?=O v->ds[j]?=O c->gL w (λb _=>b<w.heap.size) v c/\c.ez=J
section
variable{P:fL}{w:fK}
theorem wb.nil:wb w [] []:=⟨rfl,λj v c h=>by simp at h⟩
theorem wb.one{v:fP}{d:fS}(h:gL w (λb _=>b<w.heap.size) v d)(hc:d.ez=J):wb w [v] [d]:=⟨rfl,λj v' c e f=>by
 cases j with
 |zero=>simp at e f;subst e;subst f;exact⟨h,hc⟩
 |succ j=>simp at e⟩
theorem wb.append{cs d:List Value}{ds ds':List fS}(h:wb w cs ds)(g:wb w d ds'):wb w (cs++d) (ds++ds'):=⟨by simp[h.1,g.1],λj v c e f=>by
 by_cases k:j<I cs
 .rw[zP k]at e;rw[zP (by rw[h.1];exact k)]at f;exact h.2 j v c e f
 .rw[zO y9]at e;rw[zO (by rw[h.1];omega),h.1]at f;exact g.2 _ v c e f⟩
theorem Kh{H:Type}{d:DataW H}{l:List (DataW H)}(h:d∈l):Rows.uptoBulk d<=Rows.uptoBulkAll l:=by
 induction l with
 |nil=>cases h
 |cons x r c=>
  simp only[Rows.uptoBulkAll];cases ar.1 h with
  |inl e=>subst e;omega
  |inr e=>have:=c e;omega
theorem Mc{H:Type}(d:DataW H):1<=Rows.uptoBulk d:=by
 cases d with
 |lit l=>cases l<;>simp[Rows.uptoBulk]
 |nil=>simp[Rows.uptoBulk]
 |ptr d=>simp[Rows.uptoBulk]
 |slice e spare=>simp[Rows.uptoBulk]
 |agg f=>simp[Rows.uptoBulk]
 |iface t d=>simp[Rows.uptoBulk]
 |map c=>simp[Rows.uptoBulk]
 |held h=>simp[Rows.uptoBulk]
theorem K4{H:Type}(l:List (DataW H)):I l<=Rows.uptoBulkAll l:=by
 induction l with
 |nil=>simp[Rows.uptoBulkAll]
 |cons x r c=>have:=Mc x;simp only[Rows.uptoBulkAll,zH];omega
def Sw(P:fL)(B:Nat)(t:fN){H:Type}(d:DataW H):Prop:=maxLen<=B\/Rows.uptoBulk d<=B\/∀x∈d.weights P t,x<=B
def uQ(P:fL)(B:Nat)(ts:List TypeId){H:Type}(l:List (DataW H)):Prop:=maxLen<=B\/Rows.uptoBulkAll l<=B\/∀x∈DataW.weightsEach P ts l,x<=B
def R7(P:fL)(B:Nat)(e:fN){H:Type}(l:List (DataW H)):Prop:=maxLen<=B\/Rows.uptoBulkAll l<=B\/∀x∈DataW.weightsAll P e l,x<=B
theorem uQ.head{P:fL}{B:Nat}{t:fN}{ts:List TypeId}{H:Type}{d:DataW H}{l:List (DataW H)}(c:uQ P B (t::ts) (d::l)):Sw P B t d:=by
 rcases c with c|c|c
 .exact Or.inl c
 .rw[Rows.uptoBulkAll]at c;exact Or.inr (Or.inl y9)
 .exact Or.inr (Or.inr λx e=>c x (by rw[DataW.weightsEach];exact y6 _ e))
theorem uQ.tail{P:fL}{B:Nat}{t:fN}{ts:List TypeId}{H:Type}{d:DataW H}{l:List (DataW H)}(c:uQ P B (t::ts) (d::l)):uQ P B ts l:=by
 rcases c with c|c|c
 .exact Or.inl c
 .rw[Rows.uptoBulkAll]at c;exact Or.inr (Or.inl y9)
 .exact Or.inr (Or.inr λx e=>c x (by rw[DataW.weightsEach];exact cQ _ e))
theorem vy{P:fL}{e:fN}{H:Type}{d:DataW H}:∀{l:List (DataW H)},d∈l->∀x∈d.weights P e,x∈DataW.weightsAll P e l
 |y::l,h,x,c=>by
  rw[DataW.weightsAll];rcases ar.1 h with rfl|h
  .exact y6 _ c
  .exact cQ _ (vy h x c)
theorem R7.part{P:fL}{B:Nat}{e:fN}{H:Type}{d:DataW H}{l:List (DataW H)}(h:d∈l)(c:R7 P B e l):Sw P B e d:=by
 rcases c with c|c|c
 .exact Or.inl c
 .exact Or.inr (Or.inl (by have:=Kh h;omega))
 .exact Or.inr (Or.inr λx f=>c x (vy h x f))
theorem xN{a:Addr}{n:Nat}{cs:List Value}(h:w.cells? 0 a n=O cs):I cs=n/\∀i v,cs[i]?=O v->w.cell? (a.add i)=O v:=by
 unfold World.cells? at h;rw[aj (zQ _)]at h;obtain⟨c,e⟩:=CS h;rw[List.length_range]at c;refine⟨c,λi v d=>?_⟩;have hi:i<n:=by have:=(af.1 d).1;omega
 exact e i i v (by simp[hi]) d
theorem yk{a:Addr}{v:fP}(h:w.cell? a=O v):a.spot=Z/\a.block<w.heap.size:=by
 unfold World.cell? at h;split at h
 .rename_i c _ _ d;split at h
  .cases h
  .rename_i e;refine⟨by simpa using e,?_⟩;exact(aA.1 d).1
 .cases h
theorem Ib{d:Type}{p:Nat->d->Prop}:∀n,(∀i,i<n->∃x,p i x)->∃L:List d,I L=n/\∀i x,L[i]?=O x->p i x
 |0,_=>⟨[],rfl,λi x h=>by simp at h⟩
 |n+1,h=>by
  obtain⟨L,e,f⟩:=Ib n (λi hi=>h i y9);obtain⟨x,g⟩:=h n (du n);refine⟨L++[x],by simp[e],λi y c=>?_⟩;by_cases hi:i<I L
  .rw[zP hi]at c;exact f i y c
  .rw[zO y9]at c
   have:i=n:=by have:=(af.1 c).1;simp at this;omega
   subst this;rw[e,cH]at c;simp at c;subst c;exact g
theorem OA{a:Addr}(h:a.spot=Z)(m n:Nat):(a.add m).add n=⟨a.block,a.off+m+n,Z⟩:=by obtain⟨b,o,s⟩:=a;simp only at h;subst h;unfold Addr.add;by_cases c:m=0<;>by_cases d:n=0<;>simp[c,d]
theorem vg{T:List TypeId}(c:mq P T=J){t:fN}(d:T.contains t=J):(match P.underlying t with
  |some .bool|some (.int _)|some .string=>P.cellsOf t==1
  |some (.slice e)=>T.contains e &&P.cellsOf t==1 &&P.cellsOf e !=0 &&decide (1<=P.bytesOf e)
  |some (.struct fs)=>fs.toList.all (λf=>T.contains f.type) &&uW P 0 fs.toList==O (P.cellsOf t)
  |_=>U)=J:=by
 simp only[mq,j8]at c;exact c t (by simpa using d)
theorem F1{T:List TypeId}(d:mq P T=J){t:fN}(e:T.contains t=J)(h:tU P t=U):P.cellsOf t=1:=by
 have:=vg d e;revert this h;unfold tU;split
 .intro h;cases h
 .rename_i c;intro _;split
  .intro h;simpa using h
  .intro h;simpa using h
  .intro h;simpa using h
  .intro h;simp at h;exact h.1.1.2
  .rename_i f;exact absurd f (c _)
  .intro h;cases h
theorem Lf{d:fS}(h:d.ez=J):d.num=1/\d.cells=[d]:=by
 cases d with
 |agg cs=>cases h
 |_=>exact⟨rfl,rfl⟩
theorem D5{e:fN}{ds:List fS}(c:tU P e=U->I ds=1)(hc:∀d∈ds,d.ez=J):(mS P e ds).cells=ds/\(mS P e ds).num=I ds:=by
 unfold mS;cases h:tU P e with
 |true=>exact⟨rfl,rfl⟩
 |false=>
  have f:=c h
  match ds,f,hc with
  |[d],_,hc=>
   have:=Lf (hc d yB);exact⟨by simpa using this.2,by simpa using this.1⟩
variable{H:Type}{enc:TypeId×Value->H}{T:List TypeId}{B:Nat}{spare:Nat->Bool}{held:Bool}
theorem yw{c:Nat}{cs:List Value}(k:∀(t:fN) (cs:List Value) (d:DataW H) (l:List MemPlace),T.contains t=J->Sw P B t d->DataW.trod enc P w 0 spare held c t cs=O (d,l)->∃ds,wb w cs ds/\tW P B c t ds/\(I cs)=P.cellsOf t):
  ∀(fs:List Field) (o:Nat) (xs:List (DataW H×List MemPlace)),fs.all (λf=>T.contains f.type)=J->uW P o fs=O (I cs)->uQ P B (fs.map (·.type)) (xs.map (·.1))->I xs=I fs->
   (∀(i:Nat) (f:Field),fs[i]?=O f->DataW.trod enc P w 0 spare held c f.type ((cs.drop f.offset).take (P.cellsOf f.type))=xs[i]?)->
   ∃ds,wb w (cs.drop o) ds/\fs.foldr (λf K ds=>∃a b,ds=a++b/\tW P B c f.type a/\K b) (λds=>ds=[]) ds
 |[],o,xs,_,hc,_,_,_=>by simp only[uW,j9]at hc;refine⟨[],?_,rfl⟩;rw[hc,eL];exact .nil
 |f::fs,o,[],_,_,_,hl,_=>by simp at hl
 |f::fs,o,(d,l)::ys,e,hc,m,hl,V=>by
  simp only[uW]at hc;split at hc
  .rename_i p;subst p;have n:=V 0 f rfl;rw[cg]at n;simp only[bH,jE]at e;have g:Sw P B f.type d:=uQ.head m;have j:uQ P B (fs.map (·.type)) (ys.map (·.1)):=uQ.tail m;obtain⟨a,q,r,y⟩:=k _ _ _ _ e.1 g n;obtain⟨b,s,u⟩:=yw k fs _ ys e.2 hc j (by simpa using hl) (λi v x=>by have:=V (i+1) v (by simpa using x);simpa using this);refine⟨a++b,?_,a,b,rfl,r,u⟩;have:=q.append s
   rwa [<-cV,y8]at this
  .cases hc
theorem yP(hT:mq P T=J):∀(A:Nat) (t:fN) (cs:List Value) (d:DataW H) (ps:List MemPlace),T.contains t=J->Sw P B t d->DataW.trod enc P w 0 spare held A t cs=O (d,ps)->
  ∃ds,wb w cs ds/\tW P B A t ds/\(I cs)=P.cellsOf t
 |0,t,cs,d,ps,_,_,h=>by simp[DataW.trod]at h
 |A+1,t,cs,d,ps,ht,m,h=>by
  have c:=vg hT ht;cases D:P.underlying t with
  |none=>rw[D]at c;cases c
  |some u=>
   simp only[D]at c;cases u with
   |bool=>
    obtain⟨b,rfl,C⟩:=DataW.trod_bool D h;exact⟨[.raw (.bool b)],.one (.raw _ rfl) rfl,by simp only[tW,D];exact⟨b,rfl⟩,by simp at c;simp[c]⟩
   |int k=>
    obtain⟨n,rfl,C,hw⟩:=DataW.trod_int D h;exact⟨[.raw (.int k n)],.one (.raw _ rfl) rfl,by simp only[tW,D];exact⟨n,rfl,hw⟩,by simp at c;simp[c]⟩
   |string=>
    obtain⟨s,rfl,C,hs⟩:=DataW.trod_string D h;refine⟨[.raw (.string s)],.one (.raw _ rfl) rfl,?_,by simp at c;simp[c]⟩;simp only[tW,D];refine⟨s,rfl,?_⟩;have h9:I s.data.toList=s.size:=by rw[bj];rfl
    simp only[jI]at C;rcases m with m|m|m
    .omega
    .rw[C.1,Rows.uptoBulk]at m;omega
    .rw[C.1,DataW.weights]at m;have:=m _ (cu.2 rfl);omega
   |struct fs=>
    obtain⟨xs,n,hn,C,hl,hxl,hg⟩:=DataW.trod_struct D h;cases hn;simp only[jE,bE]at c;simp only[jI]at C
    obtain⟨ds,E,G⟩:=yw (cs:=cs) (λt cs d ps=>yP hT A t cs d ps) fs.toList 0 xs c.1 (by rw[c.2,hl]) (by
     rcases m with m|m|m
     .exact Or.inl m
     .rw[C.1,Rows.uptoBulk]at m;exact Or.inr (Or.inl y9)
     .rw[C.1,DataW.weights,D]at m;exact Or.inr (Or.inr m)) (by simpa using hxl) (λi f hf=>hg i f (by simpa using hf))
    rw[bP]at E;exact⟨ds,E,by simp only[tW,D];exact G,hl⟩
   |slice e=>
    simp only[jE,bE,bne_iff_ne]at c;obtain⟨⟨⟨hce,hc1⟩,hk0⟩,Q⟩:=c;replace Q:1<=P.bytesOf e:=of_decide_eq_true Q;rcases DataW.trod_slice D h with⟨rfl,C⟩|⟨a,len,cap,g,rest,n,hn,rfl,C,_,hlc,hcm,hel,hg,_⟩
    .exact⟨[.ew []],.one .nil rfl,by simp only[tW,D];exact⟨[],rfl,zQ _,λx C=>by cases C⟩,by simp[hc1]⟩
    .cases hn;simp only[jI]at C
     have hlB:len<=B:=by
      rcases m with m|m|m
      .omega
      .rw[C.1,Rows.uptoBulk]at m;have:=K4 (g.map (·.1));rw[jZ]at this;omega
      .rw[C.1,DataW.weights,D]at m;have h8:=m _ (jM ..);rw[jZ,jZ]at h8;have h9:len*1<=(I g+I rest)*P.bytesOf e:=dL y9 Q;omega
     have hbe:∀x∈g,Sw P B e x.1:=λx r=>R7.part (l:=g.map (·.1)) (List.mem_map_of_mem r) (by
      rcases m with m|m|m
      .exact Or.inl m
      .rw[C.1,Rows.uptoBulk]at m;exact Or.inr (Or.inl y9)
      .rw[C.1,DataW.weights,D]at m;exact Or.inr (Or.inr λy hy=>m y (jG _ (y6 _ hy))))
     obtain⟨L,R,S⟩:=Ib (p:=λi (ds:List fS)=>∃z,w.cells? 0 (a.add (i*P.cellsOf e)) (P.cellsOf e)=O z/\wb w z ds/\tW P B A e ds/\(I z)=P.cellsOf e) len (λi hi=>by
      have he:=hg i hi;have hi':i<I g:=by omega
      rw[jC hi',jK]at he;obtain⟨z,E,G⟩:=he;obtain⟨ds,M,W,h5⟩:=yP hT A e z g[i].1 g[i].2 hce (hbe _ (zD hi')) G;exact⟨ds,z,E,M,W,h5⟩)
     have K:∀x∈L,tW P B A e x/\(I x)=P.cellsOf e/\∀d∈x,d.ez=J:=λx r=>by
      obtain⟨i,hi,rfl⟩:=bD r;obtain⟨z,E,G,M,W⟩:=S i _ (jC hi);refine⟨M,by rw[G.1,W],λd N=>?_⟩;obtain⟨j,hj,rfl⟩:=bD N;have hj':j<I z:=by rw[<-G.1];exact hj
      exact(G.2 j _ _ (jC hj') (jC hj)).2
     have hec:∀x∈L,(mS P e x).cells=x/\(mS P e x).num=P.cellsOf e:=λx r=>by obtain⟨E,G,M⟩:=K x r;have:=D5 (P:=P) (e:=e) (ds:=x) (λh=>by rw[G];exact F1 hT hce h) M;exact⟨this.1,by rw[this.2,G]⟩
     refine⟨[.ew (L.map (mS P e))],.one ?_ rfl,by simp only[tW,D];exact⟨L,rfl,by omega,λx r=>(K x r).1⟩,by simp[hc1]⟩;cases len with
     |zero=>
      have:L=[]:=aw R
      subst this;exact .empty a cap
     |succ len=>
      have X:a.spot=Z:=by
       have h0:0<I L:=by omega
       obtain⟨z,E,_⟩:=S 0 _ (jC h0);obtain⟨M,W⟩:=xN E;have h5:0<I z:=by omega
       have:=(yk (W 0 _ (jC h5))).1
       simpa[Addr.add]using this
      have F:∀i j,i<I L->j<P.cellsOf e->∃v,w.cell? ⟨a.block,a.off+(i*P.cellsOf e+j),Z⟩=O v/\a.block<w.heap.size/\∀ds d,L[i]?=O ds->ds[j]?=O d->gL w (λb _=>b<w.heap.size) v d:=λi j hi hj=>by
       obtain⟨z,E,G,_,_⟩:=S i _ (jC hi);obtain⟨M,W⟩:=xN E;have h5:j<I z:=by omega
       have h6:=W j _ (jC h5);rw[OA X,bO]at h6;refine⟨_,h6,(yk h6).2,λds d hds N=>?_⟩;rw[jC hi]at hds;cases hds;exact(G.2 j _ d (jC h5) N).1
      have e7:0<P.cellsOf e:=Nat.pos_of_ne_zero hk0;obtain⟨ab,ao,as'⟩:=a;simp only at X F;subst X;refine .ew ab ao (len+1) cap (P.cellsOf e) _ (λq=>(w.cell? ⟨ab,ao+q,Z⟩).getD default) (by rw[jZ,R]) hlc (λd N=>?_) (λq hq=>?_) (λi j d u N Y=>?_)
      .obtain⟨x,r,rfl⟩:=aq.1 N;exact(hec x r).2
      .have hi:q/P.cellsOf e<I L:=by rw[R];exact fm (by rw[bK];exact hq)
       obtain⟨v,E,G,_⟩:=F (q/P.cellsOf e) (q%P.cellsOf e) hi (br _ e7);rw[bK,cz]at E;exact⟨by rw[E];rfl,G⟩
      .rw[jD,j5]at N;obtain⟨x,r,rfl⟩:=N;have hi:=(af.1 r).1;have hxm:=jF r;rw[(hec x hxm).1]at Y;have hj:j<P.cellsOf e:=by have:=(af.1 Y).1;have:=(K x hxm).2.1;omega
       obtain⟨v,E,_,M⟩:=F i j hi hj;have:=M x u r Y;simp only[E,aE];exact this
   |_=>cases c
end
def RV(P:fL)(B:Nat)(t:fN)(d:fS):Prop:=∃n cs,tW P B n t cs/\d=mS P t cs
def Ce(P:fL)(B:Nat):List TypeId->List fS->Prop
 |[],[]=>True
 |t::ts,d::ds=>RV P B t d/\Ce P B ts ds
 |_,_=>False
theorem NX{P:fL}{B:Nat}:∀{c:List fS},Ce P B [] c->c=[]
 |[],_=>rfl
 |_::_,h=>h.elim
theorem Bc{P:fL}{B:Nat}{t:fN}{ts:List TypeId}:∀{c:List fS},Ce P B (t::ts) c->∃d ds,c=d::ds/\RV P B t d/\Ce P B ts ds
 |[],h=>h.elim
 |d::ds,h=>⟨d,ds,rfl,h.1,h.2⟩
theorem Ml{P:fL}{B:Nat}{t:fN}{c:List fS}(h:Ce P B [t] c):∃d,c=[d]/\RV P B t d:=by obtain⟨d,ds,rfl,e,f⟩:=Bc h;obtain rfl:=NX f;exact⟨d,rfl,e⟩
theorem Mk{P:fL}{B:Nat}{t f:fN}{c:List fS}(h:Ce P B [t,f] c):∃d e,c=[d,e]/\RV P B t d/\RV P B f e:=by obtain⟨d,ds,rfl,g,j⟩:=Bc h;obtain⟨e,rfl,k⟩:=Ml j;exact⟨d,e,rfl,g,k⟩
section
variable{P:fL}{w:fK}{H:Type}{enc:TypeId×Value->H}{T:List TypeId}{B:Nat}
theorem Om{t:fN}{v:fP}(f:mq P T=J)(g:T.contains t=J)(j:tU P t=U){r:Reach}{b:Nat}(h:Value.okWide P w r b t v):v.cells.toList=[v]:=by
 have c:=vg f g;cases v with
 |agg cs=>
  exfalso
  revert c j h;unfold tU Value.okWide;split
  .intro h;cases h
  .rename_i e;intro _ c;cases d:P.underlying t with
   |none=>rw[d]at c;cases c
   |some u=>rw[d]at c;cases u<;>first|(cases c;done)|(simp[Cell.okWide,Cell.ok,d];done)|(rename_i fs;exact absurd d (e fs))
 |_=>rfl
theorem PZ{t:fN}{v:fP}{d:DataW H}{n:List MemPlace}{g:Nat->Bool}{held:Bool}(p:mq P T=J)(q:T.contains t=J)(s:Sw P B t d){r:Reach}{b:Nat}(e:Value.okWide P w r b t v)(h:DataW.Trod enc P w 0 g held t v d n):
  ∃x,gL w (λb _=>b<w.heap.size) v x/\RV P B t x:=by
 obtain⟨f,u⟩:=h;obtain⟨ds,k,y,z⟩:=yP p f t _ d n q s u;refine⟨mS P t ds,?_,f,ds,y,rfl⟩;unfold mS;cases l:tU P t with
 |true=>
  have:∃vs,v=.agg vs:=by
   unfold tU at l;split at l
   .rename_i A;unfold Value.okWide at e;rw[A]at e;obtain⟨cs,rfl,_⟩:=e;exact⟨cs,rfl⟩
   .cases l
  obtain⟨vs,rfl⟩:=this;refine .agg vs ds (by have:=k.1;simp[Value.cells]at this;omega) λj v c m hc=>(k.2 j v c (by simpa[Value.cells]using m) hc).1
 |false=>
  have m:=Om p q l e;rw[m]at k z
  match ds,k with
  |[c],k=>exact(k.2 0 v c rfl rfl).1
theorem D2(n:mq P T=J){e:Nat->Bool}{held:Bool}{r:Reach}{b:Nat}:∀{ts:List TypeId} {vs:List Value} {ds:List (DataW H)} {m:List MemPlace},ts.all (λt=>T.contains t)=J->
  (∀(j:Nat) t v,ts[j]?=O t->vs[j]?=O v->Value.okWide P w r b t v)->uQ P B ts ds->DataW.TrodAll enc P w 0 e held ts vs ds m->
  ∃f:List fS,I f=I vs/\(∀(j:Nat) v d,vs[j]?=O v->f[j]?=O d->gL w (λb _=>b<w.heap.size) v d)/\Ce P B ts f
 |[],vs,ds,m,_,_,_,h=>by obtain⟨rfl,rfl,rfl⟩:=trodAll_nil h;exact⟨[],rfl,λj v d h=>by simp at h,trivial⟩
 |t::ts,vs,ds,m,c,g,s,h=>by
  obtain⟨v,u,d,ds',p,q,rfl,rfl,rfl,k,y⟩:=trodAll_cons h;simp only[bH,jE]at c;obtain⟨x,z,A⟩:=PZ n c.1 (uQ.head s) (g 0 t v rfl rfl) k;obtain⟨xs,C,D,E⟩:=D2 n c.2 (λj t v F l=>g (j+1) t v (by simpa using F) (by simpa using l)) (uQ.tail s) y;refine⟨x::xs,by simp[C],λj v d l k=>?_,A,E⟩;cases j with
  |zero=>simp at l k;subst l;subst k;exact z
  |succ j=>exact D j v d (by simpa using l) (by simpa using k)
theorem Ao(hl:laidOutB P=J){w':fK}(k:Below w.heap.size w w'){sp:Nat->Bool}:∀{ts:List TypeId} {vs:List Value} {ds:List (DataW H)} {f:List MemPlace},ts.all (λt=>P.readableRec t &&decide (t<P.types.size))=J->
  (∀p∈f,p.block<w.heap.size)->(∀p∈f,sp p.block=J)->DataW.TrodAll enc P w 0 (λ_=>J) J ts vs ds f->DataW.TrodAll enc P w' 0 sp J ts vs ds f
 |[],vs,ds,f,_,_,_,h=>by obtain⟨rfl,rfl,rfl⟩:=trodAll_nil h;exact rfl
 |t::ts,vs,ds,f,c,g,j,h=>by
  obtain⟨v,l,d,ds',p,q,rfl,rfl,rfl,m,n⟩:=trodAll_cons h;simp only[bH,jE,zE]at c
  exact⟨p,q,WideElems.Trod_stays hl c.1.1 c.1.2 m (λx e=>k.same (g x (by simp[e]))) (λx e=>j x (by simp[e])),
   Ao hl k (by simpa using c.2) (λx e=>g x (by simp[e])) (λx e=>j x (by simp[e])) n,rfl⟩
theorem Ky{f:fM}{fn:Func}{s:ChangeSpec}{bt:fN}(S:mq P T=J)(hl:laidOutB P=J)(u:fn.params.toList.all (λt=>T.contains t)=J)(E:fn.params.toList.all (λt=>P.readableRec t &&decide (t<P.types.size))=J)(w:fn.resultTypes=#[bt])(F:P.underlying bt=O .bool)(c:s.vars=[])(G:∀ds:List (DataW H),I ds=fn.params.size->s.fn H ds={results:=[.lit (.bool J)],args:=ds})(K:∀l:List fS,Ce P B fn.params.toList l->od P f l (Qp J))(W:fK)(base:Nat)(args:Array Value)(ds gs:List (DataW H))(k:List MemPlace)(y:∀(j:Nat) t v,fn.params[j]?=O t->args[j]?=O v->Value.okWide P W .any base t v)(N:DataW.Whole enc P fn.params.toList s.vars U W args.toList ds gs k)(X:uQ P B fn.params.toList ds)(Y:iU (gS λb _=>b<W.heap.size) W:=by intro gl cs hc;cases hc):
  Calls P f args W λe Q=>∃v,e=.returned v/\s.post enc P fn U J U U W args v Q:=by
 have z:=N;obtain⟨p,q,L,hV,rfl,hfz,hnd⟩:=N;have A:=hV;rw[c]at A;obtain⟨rfl,rfl⟩:=trodVars_none A;obtain⟨l,h1,h2,h3⟩:=D2 S u (λj t v ht C=>y j t v (by simpa using ht) (by simpa using C)) X L;have n:∀x∈p++[],x.block<W.heap.size:=λx r=>z.lt x r
 simp only[jV]at n
 have g:I ds=fn.params.size:=by
  have:∀{ts:List TypeId} {vs:List Value} {ds:List (DataW H)} {M:List MemPlace},DataW.TrodAll enc P W 0 (λ_=>J) J ts vs ds M->I ds=I ts:=by
   intro ts;induction ts with
   |nil=>intro vs ds M h;obtain⟨rfl,rfl,rfl⟩:=trodAll_nil h;rfl
   |cons t ts ih=>intro vs ds M h;obtain⟨v,vs',d,ds',p,q,rfl,rfl,rfl,R,hr⟩:=trodAll_cons h;simp[ih hr]
  rw[this L];simp
 refine(K l h3 W (λb _=>b<W.heap.size) args (λb o h=>h) (by rw[h1];simp) (λj v d C R=>h2 j v d (by simpa using C) R) Y).mono λe Q he=>?_
 obtain⟨v,rfl,m,D⟩:=he
 have C:v=.bool J:=by
  cases D with
  |b7 _ _ h=>cases h with
   |raw _ h=>rfl
 subst C;refine⟨_,rfl,ds,[],p++[],[],p,[],z,?_,?_,?_,?_,λh=>by cases h⟩
 .rw[jV,G ds g,w];exact trodAll_mk1 (shut_bool F J)
 .rw[jV,G ds g];exact Ao hl m E n (λx r=>by simpa using n x r) L
 .rw[c,jV,G ds g];rfl
 .exact World.keptBut_mono (λx r=>⟨by simpa using r,Or.inr (Or.inl (by simpa using r))⟩) (m.frame (·∈p))
end
section
variable(P:fL)(E:Env)
def PC(f:fM)(args:List PV)(H:List fU)(p:PV)(H':List fU):Prop:=∃N,∀k,N<=k->kI P E k f args H=O (p,H')
def R(hn:Hint)(rg:Bool)(c:Code)(st:St)(Q:Ex->St->Prop):Prop:=
 ∃e st',(∃N,∀k n,N<=k->N<=n->gC P (kI P E k) E.pf E.hint hn rg n c st=O (e,st'))/\Q e st'
def RL(hn:Hint)(rg:Bool)(b:Code)(h0:Nat)(st:St)(Q:Ex->St->Prop):Prop:=
 ∃e st',(∃N,∀k n,N<=k->N<=n->gC.ploop P (kI P E k) E.pf E.hint hn rg b h0 n st=O (e,st'))/\Q e st'
def WB(hn:Hint)(r:Nat)(ops:Array Oper)(i:Nat)(os:List Oper)(st:St)(Q:St->Prop):Prop:=
 ∃st',(∃N,∀k,N<=k->lR P (kI P E k) hn r ops i os st=O st')/\Q st'
def jt(ow:List (Nat×TypeId))(o:Oper)(D:fO->PV)(H:List fU)(Q:PV->List fU->Prop):Prop:=
 ∃v H',(∃N,∀k,N<=k->gU P (kI P E k) ow o D H=O (v,H'))/\Q v H'
def IC(hn:Hint)(r:Nat)(ops:Array Oper)(i:Nat)(os:List Oper)(st:St)(fl:List Nat)(Q:List Nat->St->Prop):Prop:=
 ∃st' c,(∃N,∀k,N<=k->ib P (kI P E k) E.pf hn r ops i os st=O (st',c))/\Q (fl++c) st'
end
section
variable{P:fL}{E:Env}{hn:Hint}{rg:Bool}{c a b:Code}{st:St}{Q Q':Ex->St->Prop}
theorem R.mono(h:R P E hn rg c st Q)(d:∀e s,Q e s->Q' e s):R P E hn rg c st Q':=let ⟨e,s,f,g⟩:=h;⟨e,s,f,d e s g⟩
theorem RL.mono{h0:Nat}(h:RL P E hn rg b h0 st Q)(c:∀e s,Q e s->Q' e s):RL P E hn rg b h0 st Q':=let ⟨e,s,d,f⟩:=h;⟨e,s,d,c e s f⟩
theorem Qm(h:Q .normal st):R P E hn rg .skip st Q:=⟨_,_,⟨1,λk n c hn=>by cases n with|zero=>omega|succ n=>rfl⟩,h⟩
theorem QD{id:Nat}(h:Q (.exit id) st):R P E hn rg (.exit id) st Q:=⟨_,_,⟨1,λk n c hn=>by cases n with|zero=>omega|succ n=>rfl⟩,h⟩
theorem Qn(h:Q .ret st):R P E hn rg .ret st Q:=⟨_,_,⟨1,λk n c hn=>by cases n with|zero=>omega|succ n=>rfl⟩,h⟩
theorem Qh(h:R P E hn rg a st λe s=>match e with|.normal=>R P E hn rg b s Q|e=>Q e s):R P E hn rg (.seq a b) st Q:=by
 obtain⟨e,s,⟨N,c⟩,d⟩:=h;cases e with
 |normal=>
  obtain⟨e',s',⟨N',g⟩,j⟩:=d;refine⟨e',s',⟨max N N'+1,λk n f hn=>?_⟩,j⟩;cases n with
  |zero=>omega
  |succ n=>simp only[gC];rw[c k n y9 y9];exact g k n y9 y9
 |exit id=>
  refine⟨_,s,⟨N+1,λk n f hn=>?_⟩,d⟩;cases n with
  |zero=>omega
  |succ n=>simp only[gC];rw[c k n y9 y9]
 |ret=>
  refine⟨_,s,⟨N+1,λk n f hn=>?_⟩,d⟩;cases n with
  |zero=>omega
  |succ n=>simp only[gC];rw[c k n y9 y9]
theorem L9{x:fO}(c:ev st.b6 x=Qp J)(h:R P E hn rg a st Q):R P E hn rg (.cond x a b) st Q:=by
 obtain⟨e,s,⟨N,d⟩,f⟩:=h;refine⟨e,s,⟨N+1,λk n g hn=>?_⟩,f⟩;cases n with
 |zero=>omega
 |succ n=>simp only[gC,c,Qp,pv];exact d k n y9 y9
theorem E3{x:fO}(c:ev st.b6 x=Qp U)(h:R P E hn rg b st Q):R P E hn rg (.cond x a b) st Q:=by
 obtain⟨e,s,⟨N,d⟩,f⟩:=h;refine⟨e,s,⟨N+1,λk n g hn=>?_⟩,f⟩;cases n with
 |zero=>omega
 |succ n=>simp only[gC,c,Qp,pv];exact d k n y9 y9
theorem QiU{x:fO}{t:Bool}(c:ev st.b6 x=Qp t)(d:t=J->R P E hn rg a st Q)(e:t=U->R P E hn rg b st Q):R P E hn rg (.cond x a b) st Q:=by
 cases t with
 |true=>exact L9 c (d rfl)
 |false=>exact E3 c (e rfl)
theorem Qi1{x:fO}{p:Prop}[Decidable p](c:ev st.b6 x=Qp (decide p))(d:p->R P E hn rg a st Q)(e:¬p->R P E hn rg b st Q):R P E hn rg (.cond x a b) st Q:=
 QiU c (λh=>d (of_decide_eq_true h)) (λh=>e (of_decide_eq_false h))
theorem Ql{id:Nat}(h:R P E hn rg b st λe s=>match e with|.exit c=>if c=id then Q .normal s else Q (.exit c) s|e=>Q e s):R P E hn rg (.block id b) st Q:=by
 obtain⟨e,s,⟨N,g⟩,f⟩:=h;cases e with
 |exit c=>
  by_cases d:c=id
  .simp only[d,ak]at f;refine⟨_,s,⟨N+1,λk n j hn=>?_⟩,f⟩;cases n with
   |zero=>omega
   |succ n=>simp only[gC];rw[g k n y9 y9];simp[d]
  .simp only[d,ai]at f;refine⟨_,s,⟨N+1,λk n j hn=>?_⟩,f⟩;cases n with
   |zero=>omega
   |succ n=>simp only[gC];rw[g k n y9 y9];simp[d]
 |normal=>
  refine⟨_,s,⟨N+1,λk n j hn=>?_⟩,f⟩;cases n with
  |zero=>omega
  |succ n=>simp only[gC];rw[g k n y9 y9]
 |ret=>
  refine⟨_,s,⟨N+1,λk n j hn=>?_⟩,f⟩;cases n with
  |zero=>omega
  |succ n=>simp only[gC];rw[g k n y9 y9]
theorem QiM{l:Nat}(h:Q .normal st):R P E hn rg (.label l) st Q:=by
 refine⟨.normal,st,⟨1,λk n c hn=>?_⟩,h⟩;cases n with
 |zero=>omega
 |succ n=>simp only[gC]
theorem QiO(h:R P E hn rg b st Q):R P E hn rg (.scope b) st Q:=by
 obtain⟨e,s,⟨N,c⟩,d⟩:=h;refine⟨e,s,⟨N+1,λk n f hn=>?_⟩,d⟩;cases n with
 |zero=>omega
 |succ n=>simp only[gC];exact c k n y9 y9
theorem SF(h:RL P E hn rg b (I st.heap) st Q):R P E hn rg (.loop b) st Q:=by
 obtain⟨e,s,⟨N,c⟩,d⟩:=h;refine⟨e,s,⟨N+1,λk n f hn=>?_⟩,d⟩;cases n with
 |zero=>omega
 |succ n=>simp only[gC];exact c k n y9 y9
theorem OU{h0:Nat}(h:R P E hn rg b (jz h0 ((Zc b).bind hn.i7) st) λe s=>match e with|.normal=>RL P E hn rg b h0 s Q|e=>Q e s):RL P E hn rg b h0 st Q:=by
 obtain⟨e,s,⟨N,c⟩,d⟩:=h;cases e with
 |normal=>
  obtain⟨e',s',⟨N',g⟩,j⟩:=d;refine⟨e',s',⟨max N N'+1,λk n f hn=>?_⟩,j⟩;cases n with
  |zero=>omega
  |succ n=>simp only[gC.ploop];rw[c k n y9 y9];exact g k n y9 y9
 |exit id=>
  refine⟨_,s,⟨N+1,λk n f hn=>?_⟩,d⟩;cases n with
  |zero=>omega
  |succ n=>simp only[gC.ploop];rw[c k n y9 y9]
 |ret=>
  refine⟨_,s,⟨N+1,λk n f hn=>?_⟩,d⟩;cases n with
  |zero=>omega
  |succ n=>simp only[gC.ploop];rw[c k n y9 y9]
theorem Qiv{r:Nat}{ops:Array Oper}(h:WB P E hn r ops 0 ops.toList st λs=>Q .normal s)(c:hn.ph r=Z:=by kernel_rfl):R P E hn rg (.region r ops U) st Q:=by
 obtain⟨s,⟨N,d⟩,e⟩:=h;refine⟨_,s,⟨N+1,λk n f hn=>?_⟩,e⟩;cases n with
 |zero=>omega
 |succ n=>simp only[gC,c,d k y9,jN]
theorem QiV{r:Nat}{ops:Array Oper}(h:IC P E hn r ops 0 ops.toList st [] λfl s=>lS (I st.heap) ops fl=J/\Q .normal s):R P E hn rg (.region r ops J) st Q:=by
 obtain⟨s,fl,⟨N,d⟩,c,e⟩:=h;refine⟨_,s,⟨N+1,λk n f hn=>?_⟩,e⟩;cases n with
 |zero=>omega
 |succ n=>
  simp only[jQ]at c;simp only[gC,d k y9,c,ak]
theorem yn{r i:Nat}{ops:Array Oper}{o:Oper}{os:List Oper}{fl:List Nat}{Q:List Nat->St->Prop}(hw:gI ops st.b6 o=O J)(h:jt P E (hn.gz r i) o (ev st.b6) st.heap λv H=>IC P E hn r ops (i+1) os ⟨mH st.b6 o.dst v,H⟩ (fl++[lI E.pf hn r i o (ev st.b6)]) Q):
  IC P E hn r ops i (o::os) st fl Q:=by
 obtain⟨v,H,⟨N,d⟩,s,c,⟨N',e⟩,f⟩:=h;refine⟨s,lI E.pf hn r i o (ev st.b6)::c,⟨max N N',λk g=>?_⟩,by simpa using f⟩;simp only[ib,iW,hw,d k y9,e k y9,ak]
section
variable{ow:List (Nat×TypeId)}{o:Oper}{D:fO->PV}{H:List fU}{K:PV->List fU->Prop}
theorem iJ{v:PV}{H':List fU}(h:∀call,gU P call ow o D H=O (v,H'))(c:K v H'):jt P E ow o D H K:=⟨v,H',⟨0,λk _=>h _⟩,c⟩
theorem Qie{f:fM}{x:fO}{args:Array Operand}{ts:Array TypeId}{first cap:Array Value}{ow':List (Nat×TypeId)}{j:Nat×TypeId}{ds:List fS}{t g len cp e:Nat}{cs:List PV}{H1:List fU}(l:o.op=.call {callee:=.value x,args,argTypes:=ts})(m:D x=.b7 (.raw (.func (.func f) first cap)))(hw:ow=j::ow')(hl:(!((args.toList.map D).any PV.fx)||(cs.take len).all PV.plainCell)=J)(n:gR H (args.toList.map D)=O ds)(hc:PC P E f (ds.map .b7) [] (.ms t g 0 len cp) H1)(V:ga H1 t=O (e,g,cs))(c:len<=I cs)(p:(iG (cs.take len)).isSome=J)(d:K (.ms (I H) 1 0 len len) (H++[.mt e 1 (cs.take len)]))(q:¬2000<=j.1:=by decide):jt P E ow o D H K:=by obtain⟨N,h⟩:=hc;subst hw;exact⟨_,_,⟨N,λk d=>by rw[gU];simp only[l,m,ae q,ae (show¬13000<=j.1 by omega),ae (show¬12000<=j.1 by omega),ae (show¬j.1=7000 by omega),ae (show¬6000<=j.1 by omega),ae (show¬j.1=5000 by omega),kW,hl,n,h k d,V,c,p,and_self,ak]⟩,d⟩
theorem QhY{f:fM}{x:fO}{args:Array Operand}{ts:Array TypeId}{caps:List PV}{j:Nat}{e:Nat}{ow':List (Nat×TypeId)}{p:PV}(g:o.op=.call {callee:=.value x,args,argTypes:=ts})(l:D x=.fn f caps)(hw:ow=(j,e)::ow')(hc:PC P E f (args.toList.map D++caps) H p H)(d:K p H)(c:(decide (6000<=j) && !decide (j=7000) && !decide (12000<=j))=J:=by decide):jt P E ow o D H K:=by obtain⟨N,h⟩:=hc;subst hw;simp only[jE,zE,cB,decide_eq_false_iff_not]at c;exact⟨p,H,⟨N,λk d=>by rw[gU];simp only[g,ae (show¬13000<=j by omega),ae c.2,ae c.1.2,aj c.1.1,rN,l,mz,h k d,or_true,ak]⟩,d⟩
theorem Rz{f:fM}{x:fO}{args:Array Operand}{ts:Array TypeId}{first cap:Array Value}{ow':List (Nat×TypeId)}{e:Nat}{ds:List fS}{p:PV}{H1:List fU}{d:fS}(g:o.op=.call {callee:=.value x,args,argTypes:=ts})(j:D x=.b7 (.raw (.func (.func f) first cap)))(hw:ow=(7000,e)::ow')(hl:(args.toList.map D).any PV.fx=U)(l:gR H (args.toList.map D)=O ds)(hc:PC P E f (ds.map .b7) [] p H1)(m:ja H1 p=O d)(c:K (.b7 d) H):jt P E ow o D H K:=by obtain⟨N,h⟩:=hc;subst hw;exact⟨_,_,⟨N,λk c=>by rw[gU];simp only[g,j,ae (show¬13000<=7000 by decide),ae (show¬12000<=7000 by decide),ak,p6,hl,j6,ai,l,h k c,m,jN]⟩,c⟩
theorem Qif{f:fM}{x:fO}{args:Array Operand}{ts:Array TypeId}{cap:List PV}{ow':List (Nat×TypeId)}{b n j e:Nat}{p:PV}{H1 W:List fU}{A:List PV}(l:o.op=.call {callee:=.value x,args,argTypes:=ts})(m:Nt (D x)=O (f,cap))(hw:ow=(j,e)::ow')(hn:u7 (args.toList.map D++cap)+e=n)(q:(args.toList.map D++cap).map (PV.eR (si b n))=A)(r:((H.take n).drop b).map (fU.eR (si b n))=W)(hc:PC P E f A W p H1)(hi:(decide (b<=n) &&decide (n<=I H) &&decide (I W=n - b) &&decide (b<I H) &&(mc (n - b) A &&W.all (fU.under (n - b))))=J)(d:(p.under (n - b) &&(H1.take (n - b)).all (fU.under (n - b)))=J)(c:K (p.eR (wG b n)) (H.take b++(H1.take (n - b)).map (fU.eR (wG b n))++H.drop n))(s:j=12500+b/\b<500):jt P E ow o D H K:=by
 obtain⟨N,h⟩:=hc;subst hw;subst hn;subst q;simp only[jE,zE]at hi d;obtain⟨⟨⟨⟨t,u⟩,g⟩,z⟩,v⟩:=hi;obtain⟨rfl,B⟩:=s;have w:W.take (u7 (args.toList.map D++cap)+e - b)=W:=by rw[<-g];exact cG
 have y:W.drop (u7 (args.toList.map D++cap)+e - b)=[]:=by rw[<-g];exact eL
 refine⟨_,_,⟨N,λk c=>?_⟩,c⟩;rw[gU];simp only[l,ae (show¬13000<=12500+b by omega),aj (show 12000<=12500+b by omega),aj (show 12500<=12500+b by omega),show 12500+b - 12500=b by omega,sf,FA m,FD,ae (show¬I H<=b by omega),u4];rw[aj ⟨t,u⟩,r];unfold jn;rw[w,y,aj ⟨by omega,v⟩,h k c];simp only[aj d,jV]
end
theorem OQ{f:fM}{fn:Func}{args:List PV}{ds:List fS}{H:List fU}{p:PV}(g:ox P f=J)(q:E.pa f=Z)(r:E.pure f=J)(t:P.funcs[f]?=O fn)(u:fn.body=O c)(j:gR H args=O ds)(hR:R P E (E.hint f) J c ⟨ds.map .b7++Nab (fn.ntmps - I (ds.map PV.b7)) (.fz []),[]⟩ λe s=>(match e with|.exit _=>False|_=>True)/\∃vs,iX P s.b6 s.heap fn.results.toList=O vs/\iq s.heap (kf vs)=O p)(hl:args.any PV.fx=J->lX p=J)(l:(E.split f &&(oH (ds.map .b7) &&J))=U:=by rfl):PC P E f args H p H:=by
 obtain⟨e,s,⟨N,v⟩,w,vs,n,x⟩:=hR;refine⟨N+1,λk y=>?_⟩;cases k with
 |zero=>omega
 |succ k=>
  have m:lT P E (kI P E k) k f (ds.map .b7) []=O (kf vs,s.heap):=by
   unfold lT;rw[ae (by rw[show(E.split f &&(oH (ds.map PV.b7) &&([]:List fU).isEmpty))=U from l];decide)];unfold rG;simp only[t,u,v k k y9 y9];cases e with
   |exit id=>exact w.elim
   |normal=>simp[n]
   |ret=>simp[n]
  simp only[kI,g,q,r,j,m,x];by_cases d:args.any PV.fx=J
  .simp[d,hl d]
  .simp[d]
theorem Pf{f:fM}{fn:Func}{args:List PV}{H H':List fU}{p:PV}(d:ox P f=J)(m:E.pa f=Z)(n:E.pure f=U)(q:P.funcs[f]?=O fn)(r:fn.body=O c)(hR:R P E (E.hint f) J c ⟨args++Nab (fn.ntmps - I args) (.fz []),H⟩ λe s=>(match e with|.exit _=>False|_=>True)/\∃vs,iX P s.b6 s.heap fn.results.toList=O vs/\p=kf vs/\H'=s.heap)(g:(E.split f &&(oH args &&H.isEmpty))=U:=by rfl):PC P E f args H p H':=by
 obtain⟨e,s,⟨N,t⟩,u,vs,l,rfl,rfl⟩:=hR;refine⟨N+1,λk v=>?_⟩;cases k with
 |zero=>omega
 |succ k=>
  have j:lT P E (kI P E k) k f args H=O (kf vs,s.heap):=by
   unfold lT;rw[ae (by rw[g];decide)];unfold rG;simp only[q,r,t k k y9 y9];cases e with
   |exit id=>exact u.elim
   |normal=>simp[l]
   |ret=>simp[l]
  simp[kI,d,m,n,j]
end
section
variable{P:fL}{E:Env}{ow:List (Nat×TypeId)}{o:Oper}{D:fO->PV}{H:List fU}{K:PV->List fU->Prop}
theorem Gx{cs:List PV}{off:Nat}{v:PV}(h:cs[off]?=O v):cut cs off 1=O [v]:=by obtain⟨c,rfl⟩:=af.1 h;unfold cut;rw[aj y9,bd c];rfl
theorem Qin{x:fO}(c:o.op=.move x)(d:K (D x) H)(e:kq ow=U:=by kernel_rfl):jt P E ow o D H K:=iJ (λcall=>by simp only[gU,c,e,j6,ai]) d
theorem LF{lo hi:Option Operand}{tt g c len cap l h:Nat}(hl:jc D 0 lo=O l)(d:jc D len hi=O h)(e:l<=h)(f:h<=max len cap)(j:l=0\/l<h):tj D lo hi tt g c len cap=O (.ms tt g (c+l) (h - l) (max len cap - l)):=by simp only[tj,hl,d];rw[aj ⟨e,f⟩,aj j]
theorem QR{t e:fN}{x c:fO}{n:Int}{j tt g lo len cap:Nat}{k:IntKind}(d:fV P t=O e)(f:gq P e=O 1)(l:o.op=.indexAddr t x c)(hi:D c=.b7 (.raw (.int k n)))(m:D x=.ms tt g lo len cap)(hn:n=(j:Int))(p:j<len)(q:K (.mp tt g (lo+j)) H):jt P E ow o D H K:=by subst hn;have h0:(0:Int)<=(j:Int):=Int.natCast_nonneg j;exact iJ (λcall=>by simp[gU,l,hi,d,f,h0,m,p,mO]) q
theorem Ye{t e:fN}{x:fO}{tt g j:Nat}{cs:List PV}{v:PV}(f:qh P t=O U)(hn:gq P t=O 1)(k:o.op=.load t x)(l:D x=.mp tt g j)(m:ga H tt=O (e,g,cs))(d:cs[j]?=O v)(n:K v H)(hw:ow=[]:=by kernel_rfl)(c:v.flat=J:=by rfl):jt P E ow o D H K:=
 iJ (λcall=>by simp[gU,kR,hw,k,f,hn,l,m,Gx d,je,d,c]) n
theorem Qih{t e:fN}{x y:fO}{tt g j:Nat}{cs:List PV}{v:PV}(hn:gq P t=O 1)(d:o.op=.store t x y)(f:D x=.mp tt g j)(k:ga H tt=O (e,g,cs))(l:D y=v)(hc:v.cell=J)(hl:j<I cs)(hw:ow=[])(m:K (.fz []) (H.set tt (.mt e g (cs.set j v))))(c:cs.all PV.flat=J):jt P E ow o D H K:=
 iJ (λcall=>by simp[gU,nw,hw,d,hn,f,k,l,hc,hl,an.1 c _ (zD hl)]) m
theorem QgP{ts e:fN}{x s:fO}{bytes tt g lo len cap:Nat}{es:List PV}{v:PV}{H':List fU}(j:fV P ts=O e)(k:gq P e=O 1)(l:bytesOf P e=O bytes)(m:(gB P e).map fS.num=O 1)(h0:0<bytes)(p:o.op=.call {callee:=.builtin .append,args:=#[s,x],argTypes:=#[ts,ts]})(f:D s=.ms tt g lo len cap)(c:kC H (D x)=O es)(n:ly H e bytes tt g lo len cap es=O (v,H'))(q:K v H'):jt P E ow o D H K:=
 iJ (λcall=>by
  have:gF P .append #[ts,ts] [D s,D x] H=O (v,H'):=by
   rw[f];cases M:D x with
   |b7 d=>cases d with
    |raw u=>rw[M]at c;cases u<;>simp[kC,kb]at c
    |_=>rw[M]at c;simp[gF,j,l,c,k,h0,m,n]
   |_=>rw[M]at c;simp[gF,j,l,c,k,h0,m,n]
  simp only[gU,p,zV,aH,this]) q
theorem Qim{t e:fN}{m k:fO}{ok:Bool}{i j:Nat}{es:List (Value×PV)}{c:fP}{v:PV}(d:o.op=.lookup t m k ok)(V:D m=.hC i)(f:mapOf H i=O es)(g:oh P D k t es=O (c,e,O (j,v)))(l:K (if ok then .fz [v,Qp J]else v) H):jt P E ow o D H K:=
 iJ (λcall=>by simp only[gU,d,V,f,g]) l
theorem zg{e bytes tt g len cap:Nat}{es cs:List PV}(V:ga H tt=O (e,g,cs))(hc:es.all PV.cell=J)(h0:0<I es)(hl:len=I cs)(h:(len+I es)*bytes<=jd):
  ly H e bytes tt g 0 len cap es=O (.ms tt (g+1) 0 (len+I es) (len+I es),H.set tt (.mt e (g+1) (cs++es))):=by
 have hn:es.isEmpty=U:=by cases es with|nil=>simp at h0|cons=>rfl
 subst hl;have c:¬(I cs+I es<=I cs):=by omega
 simp only[ly,V,hc,hn,and_self,ak,j6,ai,ae c,true_and,aj h]
theorem TY{p:PV}(c:∀call,gU P call ow o D H=gZ P o D H)(d:gZ P o D H=O (p,H))(e:K p H):jt P E ow o D H K:=
 iJ (λcall=>(c call).trans d) e
theorem jk{P:fL}{α β:Type}:∀(s:Sem α) (f:α->Sem β),jg P (s>>=f)=(jg P s).bind λa=>jg P (f a)
 |.pure a,f=>rfl
 |.program k,f=>jk (k P) f
 |.load ..,f=>rfl
 |.store ..,f=>rfl
 |.new ..,f=>rfl
 |.shape ..,f=>rfl
 |.freeze ..,f=>rfl
 |.frozen ..,f=>rfl
 |.getObj ..,f=>rfl
 |.setObj ..,f=>rfl
 |.choose ..,f=>rfl
 |.sys ..,f=>rfl
 |.mark ..,f=>rfl
 |.halt ..,f=>rfl
def xV(op:BinOp)(k:IntKind)(a b:Int):Option Value:=
 match op with
 |.add=>O (.int k (k.wrap (a+b)))
 |.sub=>O (.int k (k.wrap (a - b)))
 |.mul=>O (.int k (k.wrap (a*b)))
 |.quo=>if b=0 then Z else O (.int k (k.wrap (a.tdiv b)))
 |.rem=>if b=0 then Z else O (.int k (a.tmod b))
 |.eql=>O (.bool (a==b))
 |.neq=>O (.bool (a !=b))
 |.lss=>O (.bool (decide (a<b)))
 |.leq=>O (.bool (decide (a<=b)))
 |.gtr=>O (.bool (decide (a>b)))
 |.geq=>O (.bool (decide (a>=b)))
 |_=>Z
theorem LU{op:BinOp}{t d:fN}{x y:fO}{k:IntKind}{a b:Int}{r:fP}{ρ':fO->fP}(e:o.op=.binOp op t x y d)(f:ρ' x=.int k a)(g:ρ' y=.int k b)(c:xV op k a b=O r):
  jg P (execOp ρ' o)=O (.value r)/\kd r=J/\sU r=O (.b7 (.raw r)):=by
 simp only[execOp,e,f,g];cases op<;>simp only[xV,j9,reduceCtorEq]at c<;>try (subst c;cases k<;>exact⟨rfl,rfl,rfl⟩)
 all_goals
  split at c
  .cases c
  .rename_i j;cases c;cases k<;>simp[eqGuard,binOp,Op.intDiv,j,jg,Pure.pure,Bind.bind,Sem.bind,kd,sU,vL]
theorem Eo{op:BinOp}{k:IntKind}{a b:Int}{r:fP}(c:xV op k a b=O r):sU r=O (.b7 (.raw r)):=by
 cases op<;>simp only[xV,j9,reduceCtorEq]at c<;>try (subst c;rfl)
 all_goals
  split at c
  .cases c
  .cases c;rfl
theorem u6{op:BinOp}{t e:fN}{x y:fO}{u v r:fP}(f:o.op=.binOp op t x y e)(c:(D x).e6=O u)(d:(D y).e6=O v){p:PV}(g:∀ρ':fO->Value,ρ' x=u->ρ' y=v->jg P (execOp ρ' o)=O (.value r))(j:sU r=O p):gZ P o D H=O (p,H):=by have:=g (λz=>((D z).e6).getD undef) (by simp[c]) (by simp[d]);simp only[gZ,f,Op.operands];simp[c,d,this,j]
theorem rI{op:BinOp}{t:fN}{p q:PV}{u:fP}(h:p.e6=O u):Dp P op t p q=Z:=by cases p<;>first|rfl|(simp[PV.e6]at h)
theorem qI{op:BinOp}{t:fN}{p:PV}{y:fO}{u:fP}(h:p.e6=O u):ux P op t p y=Z:=by
 unfold ux;split
 .cases p with
  |b7 d=>cases d with
   |ew es=>simp[PV.e6]at h
   |raw v=>rfl
   |agg cs=>rfl
  |_=>simp[PV.e6]at h
 .rfl
theorem QiP{op:BinOp}{t g:fN}{x y:fO}{k:IntKind}{a b:Int}{r:fP}(d:o.op=.binOp op t x y g)(j:D x=.b7 (.raw (.int k a)))(l:D y=.b7 (.raw (.int k b)))(f:xV op k a b=O r)(m:K (.b7 (.raw r)) H):jt P E ow o D H K:=by
 have c:(D x).e6=O (.int k a):=by rw[j];rfl
 have e:(D y).e6=O (.int k b):=by rw[l];rfl
 exact TY (λcall=>by simp only[gU,d,rI c,qI c]) (u6 d c e (λρ' n p=>(LU d n p f).1) (Eo f)) m
theorem QiQ{t:fN}{x:fO}{b:Bool}(c:o.op=.unOp .not t x)(d:D x=.b7 (.raw (.bool b)))(e:K (.b7 (.raw (.bool !b))) H):jt P E ow o D H K:=by refine TY (λcall=>by simp only[gU,c]) ?_ e;simp only[gZ,c,Op.operands];simp[d,PV.e6,execOp,c];rfl
theorem QhK{op:BinOp}{t c:fN}{x y:fO}{p:PV}{b:Bool}(d:o.op=.binOp op t x y c)(e:D x=p)(f:Dp P op t p (D y)=Z)(g:ux P op t p y=O b)(j:K (Qp b) H):jt P E ow o D H K:=
 iJ (λcall=>by simp only[gU,d,e,f,g]) j
section
variable{α β:Type}
theorem n0(s:List PV)(d:Nat)(v:PV):mH s (O d) v=s.set d v:=rfl
theorem n1(s:List PV)(v:PV):mH s Z v=s:=rfl
theorem n2(a:α)(s:List α)(v:α):(a::s).set 0 v=v::s:=rfl
theorem n3(a:α)(s:List α)(n:Nat)(v:α):(a::s).set (n+1) v=a::s.set n v:=rfl
theorem n4(a:PV)(s:List PV):ev (a::s) (.tmp 0)=a:=rfl
theorem n5(a:PV)(s:List PV)(n:Nat):ev (a::s) (.tmp (n+1))=ev s (.tmp n):=rfl
theorem n6(s:List PV)(v:fP):ev s (.const v)=su v:=rfl
theorem n7(s:List PV)(f:fM):ev s (.func f)=.b7 (.raw (.func (.func f) #[] #[])):=rfl
theorem m0:su (.slice Z 0 0)=.b7 (.ew []):=rfl
theorem m1:su .nilFunc=.b7 (.raw .nilFunc):=rfl
theorem m2:I ([]:List α)=0:=rfl
theorem m3(a:α)(s:List α):I (a::s)=I s+1:=rfl
theorem m4(s:List α):[]++s=s:=rfl
theorem m5(a:α)(s t:List α):(a::s)++t=a::(s++t):=rfl
theorem m6(f:α->β)(a:α)(s:List α):(a::s).map f=f a::s.map f:=rfl
theorem m7(f:α->β):([]:List α).map f=[]:=rfl
theorem o0(s:List α):s.take 0=[]:=rfl
theorem o1(a:α)(s:List α)(n:Nat):(a::s).take (n+1)=a::s.take n:=rfl
theorem o2(n:Nat):n+0=n:=rfl
theorem o3:(U=J)=False:=j6
end
end
section
variable{σ:Type}(P:fL)(E:Env)(Y:Nat->Nat->List fS->σ->Option (Bool×σ))
def YE(ds:List fS)(s:σ)(b:Bool)(s':σ):Prop:=∃N,∀k n,N<=k->N<=n->Y k n ds s=O (b,s')
def IR(hn:Hint)(c:Code)(is:pZ σ)(Q:Ex->pZ σ->Prop):Prop:=
 ∃e is',(∃N,∀k n n',N<=k->N<=n->N<=n'->ic P (kI P E k) hn (Y k n) n' c is=O (e,is'))/\Q e is'
def Vy(hn:Hint)(b:Code)(h0:Nat)(is:pZ σ)(Q:Ex->pZ σ->Prop):Prop:=
 ∃e is',(∃N,∀k n n',N<=k->N<=n->N<=n'->ic.iloop P (kI P E k) hn (Y k n) b h0 n' is=O (e,is'))/\Q e is'
def Dx(hn:Hint)(r:Nat)(ops:Array Oper)(i:Nat)(os:List Oper)(is:pZ σ)(Q:pZ σ->Prop):Prop:=
 ∃is',(∃N,∀k n,N<=k->N<=n->kM P (kI P E k) hn (Y k n) r ops i os is=O is')/\Q is'
end
section
variable{σ:Type}{P:fL}{E:Env}{Y:Nat->Nat->List fS->σ->Option (Bool×σ)}{hn:Hint}{c a b:Code}{is:pZ σ}{Q Q':Ex->pZ σ->Prop}
theorem IR.mono(h:IR P E Y hn c is Q)(d:∀e s,Q e s->Q' e s):IR P E Y hn c is Q':=let ⟨e,s,f,g⟩:=h;⟨e,s,f,d e s g⟩
theorem Vg{is':pZ σ}(h:is=is')(k:IR P E Y hn c is' Q):IR P E Y hn c is Q:=h ▸ k
theorem Ir(h:Q .normal is):IR P E Y hn .skip is Q:=⟨_,_,⟨1,λk n n' _ _ hn=>by cases n' with|zero=>omega|succ n'=>rfl⟩,h⟩
theorem Oz{id:Nat}(h:Q (.exit id) is):IR P E Y hn (.exit id) is Q:=⟨_,_,⟨1,λk n n' _ _ hn=>by cases n' with|zero=>omega|succ n'=>rfl⟩,h⟩
theorem S8(h:Q .ret is):IR P E Y hn .ret is Q:=⟨_,_,⟨1,λk n n' _ _ hn=>by cases n' with|zero=>omega|succ n'=>rfl⟩,h⟩
theorem rJ(h:IR P E Y hn a is λe s=>match e with|.normal=>IR P E Y hn b s Q|e=>Q e s):IR P E Y hn (.seq a b) is Q:=by
 obtain⟨e,s,⟨N,d⟩,f⟩:=h;cases e with
 |normal=>
  obtain⟨e',s',⟨N',j⟩,l⟩:=f;refine⟨e',s',⟨max N N'+1,λk n n' g hn c=>?_⟩,l⟩;cases n' with
  |zero=>omega
  |succ n'=>simp only[ic];rw[d k n n' y9 y9 y9];exact j k n n' y9 y9 y9
 |exit id=>
  refine⟨_,s,⟨N+1,λk n n' g hn c=>?_⟩,f⟩;cases n' with
  |zero=>omega
  |succ n'=>simp only[ic];rw[d k n n' y9 y9 y9]
 |ret=>
  refine⟨_,s,⟨N+1,λk n n' g hn c=>?_⟩,f⟩;cases n' with
  |zero=>omega
  |succ n'=>simp only[ic];rw[d k n n' y9 y9 y9]
theorem HD{x:fO}{t:Bool}(g:ev is.st.b6 x=Qp t)(c:t=J->IR P E Y hn a is Q)(d:t=U->IR P E Y hn b is Q):IR P E Y hn (.cond x a b) is Q:=by
 cases t with
 |true=>
  obtain⟨e,s,⟨N,c⟩,d⟩:=c rfl;refine⟨e,s,⟨N+1,λk n n' j hn f=>?_⟩,d⟩;cases n' with
  |zero=>omega
  |succ n'=>simp only[ic,g,Qp,pv];exact c k n n' y9 y9 y9
 |false=>
  obtain⟨e,s,⟨N,c⟩,d⟩:=d rfl;refine⟨e,s,⟨N+1,λk n n' j hn f=>?_⟩,d⟩;cases n' with
  |zero=>omega
  |succ n'=>simp only[ic,g,Qp,pv];exact c k n n' y9 y9 y9
theorem H8{x:fO}(c:ev is.st.b6 x=Qp J)(h:IR P E Y hn a is Q):IR P E Y hn (.cond x a b) is Q:=HD c (λ_=>h) (λh=>by cases h)
theorem Ez{x:fO}(c:ev is.st.b6 x=Qp U)(h:IR P E Y hn b is Q):IR P E Y hn (.cond x a b) is Q:=HD c (λh=>by cases h) (λ_=>h)
theorem yO{id:Nat}(h:IR P E Y hn b is λe s=>match e with|.exit c=>if c=id then Q .normal s else Q (.exit c) s|e=>Q e s):IR P E Y hn (.block id b) is Q:=by
 obtain⟨e,s,⟨N,j⟩,g⟩:=h;cases e with
 |exit c=>
  by_cases d:c=id
  .simp only[d,ak]at g;refine⟨_,s,⟨N+1,λk n n' l hn f=>?_⟩,g⟩;cases n' with
   |zero=>omega
   |succ n'=>simp only[ic];rw[j k n n' y9 y9 y9];simp[d]
  .simp only[d,ai]at g;refine⟨_,s,⟨N+1,λk n n' l hn f=>?_⟩,g⟩;cases n' with
   |zero=>omega
   |succ n'=>simp only[ic];rw[j k n n' y9 y9 y9];simp[d]
 |normal=>
  refine⟨_,s,⟨N+1,λk n n' l hn f=>?_⟩,g⟩;cases n' with
  |zero=>omega
  |succ n'=>simp only[ic];rw[j k n n' y9 y9 y9]
 |ret=>
  refine⟨_,s,⟨N+1,λk n n' l hn f=>?_⟩,g⟩;cases n' with
  |zero=>omega
  |succ n'=>simp only[ic];rw[j k n n' y9 y9 y9]
theorem OR(h:Vy P E Y hn b (I is.st.heap) is Q):IR P E Y hn (.loop b) is Q:=by
 obtain⟨e,s,⟨N,c⟩,d⟩:=h;refine⟨e,s,⟨N+1,λk n n' g hn f=>?_⟩,d⟩;cases n' with
 |zero=>omega
 |succ n'=>simp only[ic];exact c k n n' y9 y9 y9
theorem KW{h0:Nat}(h:IR P E Y hn b ⟨jz h0 ((Zc b).bind hn.i7) is.st,AD ((Zc b).bind hn.i7) is.ys,is.out⟩ λe s=>match e with|.normal=>Vy P E Y hn b h0 s Q|e=>Q e s):Vy P E Y hn b h0 is Q:=by
 obtain⟨e,s,⟨N,d⟩,f⟩:=h;cases e with
 |normal=>
  obtain⟨e',s',⟨N',j⟩,l⟩:=f;refine⟨e',s',⟨max N N'+1,λk n n' g hn c=>?_⟩,l⟩;cases n' with
  |zero=>omega
  |succ n'=>simp only[ic.iloop];rw[d k n n' y9 y9 y9];exact j k n n' y9 y9 y9
 |exit id=>
  refine⟨_,s,⟨N+1,λk n n' g hn c=>?_⟩,f⟩;cases n' with
  |zero=>omega
  |succ n'=>simp only[ic.iloop];rw[d k n n' y9 y9 y9]
 |ret=>
  refine⟨_,s,⟨N+1,λk n n' g hn c=>?_⟩,f⟩;cases n' with
  |zero=>omega
  |succ n'=>simp only[ic.iloop];rw[d k n n' y9 y9 y9]
theorem uy{r:Nat}{ops:Array Oper}(h:Dx P E Y hn r ops 0 ops.toList is λs=>Q .normal s):IR P E Y hn (.region r ops U) is Q:=by
 obtain⟨s,⟨N,c⟩,d⟩:=h;refine⟨_,s,⟨N+1,λk n n' f hn e=>?_⟩,d⟩;cases n' with
 |zero=>omega
 |succ n'=>simp only[ic,c k n y9 y9,jN]
theorem Er{r i:Nat}{ops:Array Oper}{Q:pZ σ->Prop}(h:Q is):Dx P E Y hn r ops i [] is Q:=⟨is,⟨0,λk n _ _=>rfl⟩,h⟩
theorem r8{r i:Nat}{ops:Array Oper}{o:Oper}{os:List Oper}{Q:pZ σ->Prop}(c:∀(call:gO) (Y:List fS->σ->Option (Bool×σ)),mr P call hn Y r ops i o is=(iW P call hn r ops i o is.st).map λst=>⟨st,sO is.ys o.dst,is.out⟩)(hw:gI ops is.st.b6 o=O J)(h:jt P E (hn.gz r i) o (ev is.st.b6) is.st.heap λv H=>Dx P E Y hn r ops (i+1) os ⟨⟨mH is.st.b6 o.dst v,H⟩,sO is.ys o.dst,is.out⟩ Q):Dx P E Y hn r ops i (o::os) is Q:=by obtain⟨v,H,⟨N,d⟩,s,⟨N',e⟩,f⟩:=h;refine⟨s,⟨max N N',λk n g hn=>?_⟩,f⟩;simp only[kM,c,iW,hw,d k y9,jN];exact e k n y9 y9
theorem GW{r i:Nat}{ops:Array Oper}{o:Oper}{os:List Oper}{Q:pZ σ->Prop}{t d:Tmp}(e:o.op=.move (.tmp t))(c:o.guard=Z)(hc:is.ys.contains t=J)(f:o.dst=O d)(hl:d<I is.st.b6)(h:Dx P E Y hn r ops (i+1) os ⟨⟨is.st.b6.set d .undef,is.st.heap⟩,d::is.ys,is.out⟩ Q):Dx P E Y hn r ops i (o::os) is Q:=by obtain⟨s,⟨N',g⟩,j⟩:=h;refine⟨s,⟨N',λk n l hn=>?_⟩,j⟩;simp only[kM,mr,e,c,hc,f,hl,ak];exact g k n y9 y9
theorem wM{r i:Nat}{ops:Array Oper}{o:Oper}{os:List Oper}{Q:pZ σ->Prop}{t:Tmp}{args:Array Operand}{ts:Array TypeId}{ds:List fS}{b:Bool}{out:σ}(f:o.op=.call {callee:=.value (.tmp t),args,argTypes:=ts})(c:o.guard=Z)(hc:is.ys.contains t=J)(g:gR is.st.heap (args.toList.map (ev is.st.b6))=O ds)(d:(args.toList.map (ev is.st.b6)).any PV.fx=U)(e:YE Y ds is.out b out)(h:Dx P E Y hn r ops (i+1) os ⟨⟨mH is.st.b6 o.dst (Qp b),is.st.heap⟩,sO is.ys o.dst,out⟩ Q):Dx P E Y hn r ops i (o::os) is Q:=by obtain⟨s,⟨N',j⟩,l⟩:=h;obtain⟨N,e⟩:=e;refine⟨s,⟨max N N',λk n m hn=>?_⟩,l⟩;simp only[kM,mr,f,c,hc,g,d,e k n y9 y9,ak,j6,ai];exact j k n y9 y9
theorem OW{fn:Func}(h:fn.body=O c)(k:IR P E Y hn c is Q):∀d,fn.body=O d->IR P E Y hn d is Q:=λd e=>by rw[h]at e;cases e;exact k
inductive Rp (Y:Nat->Nat->List fS->σ->Option (Bool×σ)) (fin:σ):List fS->σ->Prop
 |done:Rp Y fin [] fin
 |go {d:fS} {ds:List fS} {s s':σ}:YE Y [d] s J s'->Rp Y fin ds s'->Rp Y fin (d::ds) s
 |stop {d:fS} {ds:List fS} {s:σ}:YE Y [d] s U fin->Rp Y fin (d::ds) s
theorem Hl{d:Type}{h0:Nat}(C:d->pZ σ)(c:d->Prop)(f:d->Nat)(j:∀x,c x->IR P E Y hn b (C x) λe s=>match e with|.normal=>∃y,(⟨jz h0 ((Zc b).bind hn.i7) s.st,AD ((Zc b).bind hn.i7) s.ys,s.out⟩:pZ σ)=C y/\f y<f x/\c y|e=>Q e s):
  ∀(n:Nat) (x:d) (is:pZ σ),f x<n->c x->(⟨jz h0 ((Zc b).bind hn.i7) is.st,AD ((Zc b).bind hn.i7) is.ys,is.out⟩:pZ σ)=C x->Vy P E Y hn b h0 is Q
 |0,x,is,hn,k,l=>by omega
 |n+1,x,is,m,k,l=>by
  refine KW ?_;rw[l];refine(j x k).mono λe s g=>?_
  cases e with
  |normal=>
   obtain⟨y,p,r,q⟩:=g;exact Hl C c f j n y s y9 q p
  |exit id=>exact g
  |ret=>exact g
theorem QiN{hint:Hint}{f:fO}{g:Array Tmp}{assign body:Code}{st:St}{K:Ex->St->Prop}{gf:fM}{caps:List PV}{fn:Func}{c:Code}(j:ev st.b6 f=.fn gf caps)(l:P.funcs[gf]?=O fn)(d:(fn.name== "runtime.NumGoroutine")=U)(m:fn.body=O c)(hst:(caps.all PV.still &&fn.results.isEmpty)=J)(p:IR P E (λk n=>mA (gC P (kI P E k) E.pf E.hint hint U n assign) (gC P (kI P E k) E.pf E.hint hint U n body) (I st.heap) st.b6 g.toList) (E.hint gf) c
   ⟨⟨.undef::caps++Nab (fn.ntmps - (I caps+1)) (.fz []),[]⟩,[0],⟨st.heap,Z⟩⟩ λe is=>(match e with|.exit _=>False|_=>True)/\K (is.out.ub.getD .normal) ⟨st.b6,is.out.heap⟩):
  R P E hint J (.rangeFunc f g assign body) st K:=by
 obtain⟨e,is,⟨N,q⟩,r,s⟩:=p;refine⟨_,_,⟨N+1,λk n t hn=>?_⟩,s⟩;cases n with
 |zero=>omega
 |succ n=>
  simp only[gC,ak,j,oI,l,d,LG,m,hst,j6,ai,q k n n y9 y9 y9];cases e with
  |exit id=>exact r.elim
  |normal=>rfl
  |ret=>rfl
theorem Mf{hint:Hint}{assign body:Code}{h0:Nat}{b6 sl:List PV}{f:List Tmp}{ds:List fS}{H:List fU}{b:Bool}{x:Bg}(g:tM b6 f ds=O sl)(h:R P E hint U assign ⟨sl,H⟩ λe s=>e=.normal/\R P E hint U body s λe c=>match e with
   |.normal=>b=J/\x=⟨(jz h0 (O []) c).heap,Z⟩
   |e=>b=U/\x=⟨(jz h0 (O []) c).heap,O e⟩):
  YE (λk n=>mA (gC P (kI P E k) E.pf E.hint hint U n assign) (gC P (kI P E k) E.pf E.hint hint U n body) h0 b6 f) ds ⟨H,Z⟩ b x:=by
 obtain⟨e,s,⟨N,j⟩,rfl,l,c,⟨m,p⟩,d⟩:=h;refine⟨max N m,λk n q hn=>?_⟩;simp only[mA,g,j k n y9 y9,p k n y9 y9];cases l with
 |normal=>obtain⟨rfl,rfl⟩:=d;rfl
 |exit id=>obtain⟨rfl,rfl⟩:=d;rfl
 |ret=>obtain⟨rfl,rfl⟩:=d;rfl
end
section
variable{σ:Type}{P:fL}{E:Env}{Y:Nat->Nat->List fS->σ->Option (Bool×σ)}
end
theorem mY{P:fL}{c:Type}(a:c):jg P (pure a:Sem c)=O a:=rfl
theorem po{P:fL}:jg P program=O P:=rfl
theorem kN{P:fL}{t:fN}{u:TypeDesc}(h:P.underlying t=O u):jg P (underlying t)=O u:=by unfold underlying;rw[jk,po];simp only[zX,h];rfl
def ml(P:fL)(t:fN)(x y:fP):Option Bool:=
 match P.underlying t,x,y with
 |some .bool,.bool a,.bool b=>O (a==b)
 |some (.int _),.int k a,.int c b=>if k=c then O (a==b)else Z
 |some .string,.string a,.string b=>O (a==b)
 |_,_,_=>Z
theorem vr{P:fL}{t:fN}{x y:fP}{b:Bool}(d:Nat)(h:ml P t x y=O b):jg P (Op.equalIn (d+1) t x y)=O b:=by
 unfold ml at h;split at h
 .rename_i c;cases h;simp only[Op.equalIn,jk,kN c,zX];rfl
 .rename_i c;split at h
  .rename_i e;subst e;cases h;simp only[Op.equalIn,jk,kN c,zX,ak];rfl
  .cases h
 .rename_i c;cases h;simp only[Op.equalIn,jk,kN c,zX];rfl
 .cases h
theorem sH{P:fL}{t:fN}{x y:fP}{b:Bool}(h:ml P t x y=O b):jg P (isAgg t)=O U:=by unfold ml at h;unfold isAgg;split at h<;>first|(rename_i c;rw[jk,kN c];rfl)|cases h
theorem wB{P:fL}{t:fN}{xs:Array Value}{off:Nat}{v:fP}(c:jg P (isAgg t)=O U)(d:xs[off]?=O v):jg P (part t xs off)=O v:=by unfold part;rw[jk,c];simp only[zX,j6,ai,d];rfl
def oq(P:fL)(xs ys:Array Value):List Field->Option Bool
 |[]=>O J
 |f::fs=>if f.name= "_" then oq P xs ys fs else
  match xs[f.offset]?,ys[f.offset]?,oq P xs ys fs with
  |some x,O y,O r=>(ml P f.type x y).map λb=>b &&r
  |_,_,_=>Z
theorem xQ{P:fL}{t:fN}{xs ys:Array Value}{fs:Array Field}{b:Bool}(d:Nat)(m:∀(t:fN) (x y:fP) (b:Bool),ml P t x y=O b->jg P (Op.equalIn d t x y)=O b)(j:P.underlying t=O (.struct fs))(n:P.stoodInHeld t=U)(e:oq P xs ys fs.toList=O b):
  jg P (Op.equalIn (d+1) t (.agg xs) (.agg ys))=O b:=by
 simp only[Op.equalIn,jk,kN j,po,n,zX,j6,ai];rw[<-Array.forIn_toList];generalize fs.toList=l at e |-;clear j;induction l generalizing b with
 |nil=>simp only[oq,j9]at e;subst e;simp only[List.forIn_nil];rfl
 |cons f l k=>
  simp only[List.forIn_cons]
  by_cases g:f.name= "_"
  .simp only[oq,g,ak]at e;simp only[g,ne_eq,not_true_eq_false,ai,jk,mY,zX];exact k e
  .simp only[oq,g,ai]at e;split at e
   .rename_i x y r p q s;cases hc:ml P f.type x y with
    |none=>rw[hc]at e;cases e
    |some c=>
     rw[hc]at e;simp only[jN,j9]at e;simp only[ne_eq,g,not_false_eq_true,ak,jk,wB (sH hc) p,wB (sH hc) q,m _ _ _ _ hc,zX];cases c with
     |false=>subst e;rfl
     |true=>
      subst e
      simpa[mY]using k s
   .cases e
structure SEq (P:fL) (t:fN) (xs ys:Array Value) (b:Bool):Prop where
 eq:jg P (Op.equal t (.agg xs) (.agg ys))=O b
 guard:P.eqGuardType P.depth t=U
theorem MJ{P:fL}{t:fN}{xs ys:Array Value}{fs:Array Field}{b:Bool}(c:P.underlying t=O (.struct fs))(d:P.stoodInHeld t=U)(e:P.eqGuardType P.depth t=U)(f:oq P xs ys fs.toList=O b):SEq P t xs ys b:=
 ⟨xQ 9999 (λ_ _ _ _ h=>vr 9998 h) c d f,e⟩
section
variable{P:fL}{E:Env}{ow:List (Nat×TypeId)}{o:Oper}{D:fO->PV}{H:List fU}{K:PV->List fU->Prop}
theorem FU{op:BinOp}{t:fN}{x y:fO}{xs ys:Array Value}(h:P.eqGuardType P.depth t=U):jg P (eqGuard op t x y (.agg xs) (.agg ys))=O ():=by unfold eqGuard;cases op<;>first|rfl|(simp only[aF,j6,ai,jk,po,zX,h];rfl)
theorem Qip{t f:fN}{x y:fO}{xs ys:Array Value}{b:Bool}(c:o.op=.binOp .neq t x y f)(d:(D x).e6=O (.agg xs))(g:(D y).e6=O (.agg ys))(e:SEq P t xs ys b)(j:K (.b7 (.raw (.bool !b))) H):jt P E ow o D H K:=
 TY (λcall=>by simp only[gU,c,rI d,qI d]) (u6 c (r:=.bool !b) d g (λρ' k l=>by simp only[execOp,c,k,l,jk,FU e.guard,zX,binOp,e.eq,mY]) rfl) j
theorem Hf{x y:fO}{ts:Array TypeId}{k:IntKind}{m n:Int}(c:o.op=.call {callee:=.builtin .min,args:=#[x,y],argTypes:=ts})(f:D x=.b7 (.raw (.int k m)))(g:D y=.b7 (.raw (.int k n)))(j:K (.b7 (.raw (.int k (if n<m then n else m)))) H):jt P E ow o D H K:=by
 refine TY (λcall=>by simp only[gU,c];rfl) ?_ j;have e:(D x).e6=O (.int k m):=by rw[f];rfl
 have hw:(D y).e6=O (.int k n):=by rw[g];rfl
 have l:jg P (execOp (λz=>((D z).e6).getD undef) o)=O (.value (.int k (if n<m then n else m))):=by simp only[execOp,c,resolve,invoke,builtin,Builtin.min_];simp[e,hw,Builtin.min2,mY]
 have d:(Op.call {callee:=.builtin .min,args:=#[x,y],argTypes:=ts}).operands.toList=[x,y]:=by simp[Op.operands,Call.operands]
 simp only[gZ,c,d];simp[e,hw,l];rfl
theorem Ki{x y:fO}{ts:Array TypeId}{k:IntKind}{m n:Int}(c:o.op=.call {callee:=.builtin .max,args:=#[x,y],argTypes:=ts})(f:D x=.b7 (.raw (.int k m)))(g:D y=.b7 (.raw (.int k n)))(j:K (.b7 (.raw (.int k (if m<n then n else m)))) H):jt P E ow o D H K:=by
 refine TY (λcall=>by simp only[gU,c];rfl) ?_ j;have e:(D x).e6=O (.int k m):=by rw[f];rfl
 have hw:(D y).e6=O (.int k n):=by rw[g];rfl
 have l:jg P (execOp (λz=>((D z).e6).getD undef) o)=O (.value (.int k (if m<n then n else m))):=by simp only[execOp,c,resolve,invoke,builtin,Builtin.max_];simp[e,hw,Builtin.max2,mY]
 have d:(Op.call {callee:=.builtin .max,args:=#[x,y],argTypes:=ts}).operands.toList=[x,y]:=by simp[Op.operands,Call.operands]
 simp only[gZ,c,d];simp[e,hw,l];rfl
theorem qC(H:List fU):∀ds:List fS,gR H (ds.map .b7)=O ds
 |[]=>rfl
 |d::ds=>by simp only[zV,gR,ja,gH,qC H ds]
theorem Iz{f:fM}{args:List PV}{ds:List fS}{H H0 c:List fU}{p:PV}(e:E.pa f=Z)(g:E.pure f=J)(h:PC P E f (ds.map .b7) H0 p c)(d:gR H args=O ds)(hl:args.any PV.fx=J->lX p=J):PC P E f args H p H:=by
 obtain⟨N,h⟩:=h;refine⟨N,λk j=>?_⟩;have:=h k j;cases k with
 |zero=>simp[kI]at this
 |succ k=>
  unfold kI at this |-;simp only[e,g,ak,qC,d]at this |-;split at this
  .cases this
  .rename_i l;rw[ae l];split at this
   .rename_i r H' m;split at this
    .rename_i v n;split at this
     .cases this
     .simp only[j9,jI]at this;obtain⟨rfl,_⟩:=this;rw[ae];intro hc;simp only[jE,cB]at hc;rw[hl hc.1]at hc;exact Bool.noConfusion hc.2
    .cases this
   .cases this
theorem QiT{t e:fN}{x y:fO}{a b:Bool}(f:P.underlying t=O .bool)(c:o.op=.binOp .neq t x y e)(g:D x=.b7 (.raw (.bool a)))(j:D y=.b7 (.raw (.bool b)))(k:K (.b7 (.raw (.bool (a !=b)))) H):jt P E ow o D H K:=by
 have d:(D x).e6=O (.bool a):=by rw[g];rfl
 have hw:(D y).e6=O (.bool b):=by rw[j];rfl
 exact TY (λcall=>by simp only[gU,c,rI d,qI d]) (u6 c (r:=.bool (a !=b)) d hw (λρ' l m=>by
  have n:ml P t (.bool a) (.bool b)=O (a==b):=by simp only[ml,f]
  have p:jg P (Op.equal t (.bool a) (.bool b))=O (a==b):=vr 9999 n;have q:jg P (eqGuard .neq t x y (.bool a) (.bool b))=O ():=rfl;simp only[execOp,c,l,m,jk,q,zX,binOp,p,mY];rfl) rfl) k
theorem Kl{fl:Bool}{c:Type}(f:c->fS)(H:List fU)(h0:Nat)(l:List c):gv fl H h0 (.box (l.map λm=>.b7 (f m)))=.box (l.map λm=>.b7 (f m)):=by simp only[gv,zG];rfl
theorem all_map{c:Type}(f:c->fS)(l:List c):iG (l.map λm=>.b7 (f m))=O (l.map f):=by
 induction l with
 |nil=>rfl
 |cons a l d=>simp only[zV,iG,d,jN]
theorem Nd{c:Type}(f:c->fS)(d:∀a,(f a).ez=J){H:List fU}{i:Nat}{l:List c}{cap:Nat}(h:H[i]?=O (.box (l.map λm=>.b7 (f m))))(hc:I l<=cap:=by first|exact j7 _|assumption|omega):ja H (.arr i 0 (I l) cap)=O (.ew (l.map f)):=by
 have e:cut (l.map λm=>PV.b7 (f m)) 0 (I l)=O (l.map λm=>PV.b7 (f m)):=by rw[cut,aj yB,bP,bk yB]
 have g:(l.map f).all fS.ez=J:=by simp only[aV,j8];intro x _;exact d x
 have j:¬((0:Nat)=0/\0<cap/\2*cap<=I (l.map λm=>PV.b7 (f m))):=by rw[jZ];omega
 have k:xT (l.map λm=>PV.b7 (f m)) 0 (I l) cap=O (l.map f):=by unfold xT;rw[ae j,e];simp only[zX,all_map,g,ak]
 simp only[ja,gH,h,k,jN]
end
section
variable{P:fL}{E:Env}{ow:List (Nat×TypeId)}{o:Oper}{D:fO->PV}{H:List fU}{K:PV->List fU->Prop}
def cellsOf{c:Type}(f:c->fS)(l:List c):List PV:=l.map λm=>.b7 (f m)
theorem iL{c:Type}(f:c->fS)(l:List c):I (cellsOf f l)=I l:=by simp[cellsOf]
theorem xM{c:Type}(f:c->fS)(a b:List c):cellsOf f a++cellsOf f b=cellsOf f (a++b):=by simp[cellsOf]
theorem BH{c:Type}(f:c->fS)(l:List c)(n:Nat):(cellsOf f l).take n=cellsOf f (l.take n):=by simp[cellsOf]
theorem rB{c:Type}(f:c->fS)(l:List c)(n:Nat)(v:c):(cellsOf f l).set n (.b7 (f v))=cellsOf f (l.set n v):=by simp[cellsOf,fG]
theorem BD{c:Type}(f:c->fS)(d:∀a,(f a).ez=J)(l:List c):(cellsOf f l).all PV.flat=J:=by simp only[cellsOf,aV,j8];intro x _;have:=d x;simp only[Function.comp];cases h:f x<;>first|rfl|(rw[h]at this;simp[fS.ez]at this)
theorem DW{c:Type}{f:c->fS}(d:∀a,(f a).ez=J)(l:List c):(cellsOf f l).all PV.cell=J:=by
 simp only[cellsOf,aV,j8];intro x _;have:=d x;show(PV.b7 (f x)).cell=J
 cases h:f x with
 |agg cs=>rw[h]at this;cases this
 |_=>rfl
theorem me{c:Type}(f:c->fS)(l:List c):iG (cellsOf f l)=O (l.map f):=all_map f l
theorem za{c:Type}(f:c->fS)(l:List c):(iG (cellsOf f l)).isSome=J:=by rw[me];rfl
theorem gj{fl:Bool}{c:Type}(f:c->fS)(H:List fU)(h0:Nat)(e g:Nat)(l:List c):gv fl H h0 (.mt e g (cellsOf f l))=.mt e g (cellsOf f l):=by simp only[gv,cellsOf,zG];rfl
theorem Zt{t:Nat}{e g:Nat}{cs:List PV}(h:H[t]?=O (.mt e g cs)):ga H t=O (e,g,cs):=by simp[ga,h,fU.ga]
theorem M9{lo:fO}{t g len cap l:Nat}(hl:rv (D lo)=O l)(c:l<len)(d:len<=cap):tj D (O lo) Z t g 0 len cap=O (.ms t g l (len - l) (cap - l)):=by rw[LF (lo:=O lo) (hi:=Z) (l:=l) (h:=len) hl rfl y9 y9 (Or.inr c)];simp only[zZ,Nat.max_eq_right d]
theorem sX{c:Type}{f:c->fS}(d:∀a,(f a).ez=J){l:List c}:kC H (.b7 (.ew (l.map f)))=O (cellsOf f l):=by
 have h:(l.map f).all fS.ez=J:=by simp only[aV,j8];intro x _;exact d x
 simp only[kC,kb,h,ak,cellsOf,zG];rfl
theorem yd{c:Type}{f:c->fS}(d:∀a,(f a).ez=J){e bytes t g len cap:Nat}{l es:List c}(V:ga H t=O (e,g,cellsOf f l))(h0:0<I es)(hl:len=I l)(h:(len+I es)*bytes<=jd):
  ly H e bytes t g 0 len cap (cellsOf f es)=O (.ms t (g+1) 0 (len+I es) (len+I es),H.set t (.mt e (g+1) (cellsOf f (l++es)))):=by
 rw[zg V (DW d es) (by rw[iL];exact h0) (by rw[iL];exact hl) (by rw[iL];exact h)];simp only[iL,xM]
theorem PQ{c:Type}{f:c->fS}(d:∀a,(f a).ez=J){t g len cap e:Nat}{l:List c}(V:ga H t=O (e,g,cellsOf f l))(h:len<=I l):gH H (.ms t g 0 len cap)=O (.ew ((l.take len).map f)):=by
 have j:cut (cellsOf f l) 0 len=O (cellsOf f (l.take len)):=by rw[cut,aj (by rw[iL];omega),bP,BH]
 have k:((l.take len).map f).all fS.ez=J:=by simp only[aV,j8];intro x _;exact d x
 simp only[gH,V,ak,j,zX,me,xW,k,Bool.true_or]
theorem pF{c:Type}{f:c->fS}(d:∀a,(f a).scalar=J)(l:List c):(cellsOf f l).all PV.plainCell=J:=by simp only[cellsOf,aV,j8];intro x _;exact d x
theorem Qik{k:Type}{c:k->fS}{l:List k}{f:fM}{x:fO}{args:Array Operand}{ts:Array TypeId}{first cap:Array Value}{ow':List (Nat×TypeId)}{j:Nat×TypeId}{ds:List fS}{t g cp e:Nat}{H1:List fU}(m:o.op=.call {callee:=.value x,args,argTypes:=ts})(n:D x=.b7 (.raw (.func (.func f) first cap)))(hw:ow=j::ow')(hl:(!((args.toList.map D).any PV.fx)||(cellsOf c l).all PV.plainCell)=J)(p:gR H (args.toList.map D)=O ds)(hc:PC P E f (ds.map .b7) [] (.ms t g 0 (I l) cp) H1)(V:ga H1 t=O (e,g,cellsOf c l))(q:K (.ms (I H) 1 0 (I l) (I l)) (H++[.mt e 1 (cellsOf c l)]))(r:¬2000<=j.1:=by decide):jt P E ow o D H K:=by have d:(cellsOf c l).take (I l)=cellsOf c l:=bk (by rw[iL];exact j7 _);refine Qie m n hw (by rw[d];exact hl) p hc V (by rw[iL];exact j7 _) (by rw[d];exact za c l) ?_ r;rw[d];exact q
theorem Gk{h0:Nat}{ey:Option (List Nat)}{ks:List Nat}{st:St}(h:ey=O ks):jz h0 ey st=⟨sG (Ob ks) st.heap h0 ks 0 st.b6,(st.heap.take h0).map (gv (Ob ks) st.heap h0)⟩:=by subst h;rfl
end
def pg{c:Type}(a b:Option c):Prop:=∀r,a=O r->b=O r
theorem pg.refl{c:Type}(a:Option c):pg a a:=λ_ h=>h
section
variable{P:fL}{call call':gO}{pf:fM->Bool}{h:Hint}{hint:fM->Hint}
theorem zd(hc:∀f args H,pg (call f args H) (call' f args H))(f:fM)(args:List PV)(n:Nat)(H:List fU):pg (jn call f args n H) (jn call' f args n H):=by
 intro r c;unfold jn at c |-;split at c
 .rename_i d;rw[aj d];split at c
  .rename_i e;simp only[hc _ _ _ _ e];exact c
  .cases c
 .cases c
theorem AO(hc:∀f args H,pg (call f args H) (call' f args H))(b d:Nat)(f:fM)(args:List PV)(H:List fU):pg (FD call b d f args H) (FD call' b d f args H):=by
 intro r c;unfold FD at c |-;by_cases j:I H<=b
 .rw[aj j]at c |-;unfold yN at c |-;split at c
  .rename_i e;rw[aj e];split at c
   .rename_i g;simp only[hc _ _ _ _ g];exact c
   .cases c
  .cases c
 .rw[ae j]at c |-;unfold u4 at c |-;split at c
  .rename_i e;rw[aj e];split at c
   .rename_i g;simp only[zd hc _ _ _ _ _ g];exact c
   .cases c
  .cases c
theorem BY(hc:∀f args H,pg (call f args H) (call' f args H)){e:PV}{args:List PV}{b d:Nat}{H:List fU}{r:PV×List fU}(c:sf call e args b d H=O r):sf call' e args b d H=O r:=by
 unfold sf mz at c |-;split at c
 .exact AO hc _ _ _ _ _ _ c
 .exact AO hc _ _ _ _ _ _ c
 .cases c
theorem C5(hc:∀f args H,pg (call f args H) (call' f args H))(y:List (Nat×TypeId))(o:Oper)(D:fO->PV)(H:List fU):pg (gU P call y o D H) (gU P call' y o D H):=by
 intro r d;cases l:o.op with
 |call c=>
  obtain⟨callee,args,ts⟩:=c;rw[gU]at d |-;simp only[l]at d |-;cases callee with
  |value f=>
   cases y with
   |nil=>
    simp only at d |-;split at d
    .exact hc _ _ _ r d
    .exact hc _ _ _ r d
    .cases d
   |cons x xs=>
    simp only at d |-;by_cases p:13000<=x.1
    .rw[aj p]at d |-;unfold p5 at d |-;split at d
     .rename_i g;unfold lB jn at g |-;split at g
      .split at g
       .rename_i k;rw[aj k];split at g
        .rename_i e;simp only[hc _ _ _ _ e];rw[g];exact d
        .cases g
       .cases g
      .cases g
     .cases d
    rw[ae p]at d |-;by_cases q:12000<=x.1
    .rw[aj q]at d |-;by_cases j:12500<=x.1
     .rw[aj j]at d |-;exact BY hc d
     rw[ae j]at d |-;unfold lB jn at d |-;split at d
     .split at d
      .rename_i k;rw[aj k];split at d
       .rename_i e;simp only[hc _ _ _ _ e];exact d
       .cases d
      .cases d
     .cases d
    rw[ae q]at d |-;by_cases s:x.1=7000
    .rw[aj s]at d |-;unfold p6 at d |-;split at d
     .split at d
      .cases d
      .rename_i hl;rw[ae hl];split at d
       .split at d
        .rename_i e;simp only[hc _ _ _ _ e];exact d
        .cases d
       .cases d
     .cases d
    rw[ae s]at d |-;by_cases u:6000<=x.1
    .rw[aj u]at d |-;unfold rN mz at d |-;split at d
     .rename_i e;split at e
      .simp only[hc _ _ _ _ e];exact d
      .simp only[hc _ _ _ _ e];exact d
      .cases e
     .cases d
    rw[ae u]at d |-;split at d
    .by_cases v:x.1=5000
     .rw[aj v]at d |-;unfold tm at d |-;split at d
      .rename_i e;unfold kW at e |-;split at e
       .split at e
        .rename_i z;simp only[hc _ _ _ _ z];rw[e];exact d
        .rename_i z;simp only[hc _ _ _ _ z];rw[e];exact d
        .cases e
       .cases e
      .cases d
     rw[ae v]at d |-;by_cases w:2000<=x.1
     .rw[aj w]at d |-;unfold wx at d |-;split at d
      .exact hc _ _ _ r d
      .cases d
     .rw[ae w]at d |-;unfold kW at d |-;split at d
      .rename_i A;split at d
       .rename_i e;rw[hc _ _ _ _ e];exact d
       .rename_i e;rw[hc _ _ _ _ e];exact d
       .cases d
      .cases d
    .cases d
  |builtin b=>exact d
  |invoke x n=>exact d
 |makeMap t m=>cases m<;>(rw[gU]at d |-;simp only[l]at d |-;exact d)
 |next x b=>cases b<;>(rw[gU]at d |-;(simp only[l]at d |-)<;>exact d)
 |makeFunc f a b=>cases f<;>(rw[gU]at d |-;simp only[l]at d |-;exact d)
 |slice t x lo hi m=>cases m<;>cases hi<;>(rw[gU]at d |-;simp only[l]at d |-;exact d)
 |_=>rw[gU]at d |-;simp only[l]at d |-;exact d
theorem pj(hc:∀f args H,pg (call f args H) (call' f args H))(r:Nat)(ops:Array Oper)(i:Nat)(o:Oper)(st:St):pg (iW P call h r ops i o st) (iW P call' h r ops i o st):=by
 intro x c;unfold iW at c |-;split at c
 .split at c
  .rename_i v H d;rw[C5 hc _ _ _ _ _ d];exact c
  .cases c
 .exact c
 .cases c
theorem tn(hc:∀f args H,pg (call f args H) (call' f args H))(r:Nat)(ops:Array Oper):∀(os:List Oper) (i:Nat) (st:St),pg (lR P call h r ops i os st) (lR P call' h r ops i os st)
 |[],i,st=>pg.refl _
 |o::os,i,st=>λx c=>by
  simp only[lR]at c |-;split at c
  .rename_i d e;rw[pj hc _ _ _ _ _ _ e];exact tn hc r ops os _ _ x c
  .cases c
theorem tV(hc:∀f args H,pg (call f args H) (call' f args H))(r:Nat)(ops:Array Oper)(fl:List (Nat×List Nat)):∀(os:List Oper) (i:Nat) (st:St),pg (lQ P call h r ops fl i os st) (lQ P call' h r ops fl i os st)
 |[],i,st=>pg.refl _
 |o::os,i,st=>λx c=>by
  simp only[lQ]at c |-;split at c
  .rename_i e d
   have:pQ P call' h r ops fl i o st=O e:=by
    unfold pQ at d |-;split at d
    .exact pj hc _ _ _ _ _ _ d
    .exact d
   rw[this];exact tV hc r ops fl os _ _ x c
  .cases c
theorem qy(hc:∀f args H,pg (call f args H) (call' f args H))(r:Nat)(ops:Array Oper):∀(os:List Oper) (i:Nat) (st:St),pg (ib P call pf h r ops i os st) (ib P call' pf h r ops i os st)
 |[],i,st=>pg.refl _
 |o::os,i,st=>λx c=>by
  simp only[ib]at c |-;split at c
  .rename_i d e;rw[pj hc _ _ _ _ _ _ e];split at c
   .rename_i g fl j;simp only;rw[qy hc r ops os _ _ _ j];exact c
   .cases c
  .cases c
theorem sK{σ:Type}{Y k:List fS->σ->Option (Bool×σ)}(hc:∀f args H,pg (call f args H) (call' f args H))(m:∀ds s,pg (Y ds s) (k ds s))(r:Nat)(ops:Array Oper):∀(os:List Oper) (i:Nat) (is:pZ σ),pg (kM P call h Y r ops i os is) (kM P call' h k r ops i os is)
 |[],i,is=>pg.refl _
 |o::os,i,is=>λx j=>by
  simp only[kM]at j |-
  have e:pg (mr P call h Y r ops i o is) (mr P call' h k r ops i o is):=by
   intro y c
   have g:((iW P call h r ops i o is.st).map λst=>(⟨st,sO is.ys o.dst,is.out⟩:pZ σ))=O y->((iW P call' h r ops i o is.st).map λst=>(⟨st,sO is.ys o.dst,is.out⟩:pZ σ))=O y:=λc=>by simp only[j5]at c |-;obtain⟨st,d,l⟩:=c;exact⟨st,pj hc _ _ _ _ _ _ d,l⟩
   unfold mr at c |-;split at c
   .split at c
    .rename_i d;rw[aj d];exact c
    .rename_i d;rw[ae d];exact g c
   .split at c
    .rename_i d;rw[aj d];split at c
     .split at c
      .cases c
      .rename_i l;rw[ae l];split at c
       .rename_i n;rw[m _ _ _ n];exact c
       .cases c
     .cases c
    .rename_i d;rw[ae d];exact g c
   .exact g c
  split at j
  .rename_i p d;rw[e _ d];exact sK hc m r ops os _ _ x j
  .cases j
theorem FM{σ:Type}{Y q:List fS->σ->Option (Bool×σ)}(hc:∀f args H,pg (call f args H) (call' f args H))(t:∀ds s,pg (Y ds s) (q ds s)):∀n,(∀c is n',n<=n'->pg (ic P call h Y n c is) (ic P call' h q n' c is))/\
  (∀b h0 is n',n<=n'->pg (ic.iloop P call h Y b h0 n is) (ic.iloop P call' h q b h0 n' is)):=by
 intro n;induction n with
 |zero=>exact⟨λc is n' _ x g=>by simp[ic]at g,λb h0 is n' _ x g=>by simp[ic.iloop]at g⟩
 |succ n u=>
  obtain⟨j,m⟩:=u;refine⟨λc is n' hn x g=>?_,λb h0 is n' hn x g=>?_⟩
  .cases n' with
   |zero=>omega
   |succ n'=>
    have hn:n<=n':=by omega
    cases c with
    |region r ops d=>
     cases d
     .simp only[ic,j5]at g |-;obtain⟨y,l,v⟩:=g;exact⟨y,sK hc t _ _ _ _ _ _ l,v⟩
     .simp[ic]at g
    |seq a b=>
     simp only[ic]at g |-;split at g
     .rename_i w l;rw[j _ _ _ hn _ l];exact j _ _ _ hn _ g
     .rename_i k;rw[j _ _ _ hn _ g];obtain⟨e,s⟩:=x;cases e with
      |normal=>exact absurd g (k s)
      |exit id=>rfl
      |ret=>rfl
    |cond y a b=>
     simp only[ic]at g |-;split at g
     .exact j _ _ _ hn _ g
     .exact j _ _ _ hn _ g
     .cases g
    |block id b=>
     simp only[ic]at g |-;split at g
     .rename_i p s l;rw[j _ _ _ hn _ l];exact g
     .rename_i k;rw[j _ _ _ hn _ g];obtain⟨e,s⟩:=x;cases e with
      |exit p=>exact absurd g (k p s)
      |normal=>rfl
      |ret=>rfl
    |loop b=>simp only[ic]at g |-;exact m _ _ _ _ hn _ g
    |skip=>exact g
    |exit id=>exact g
    |ret=>exact g
    |_=>simp[ic]at g
  .cases n' with
   |zero=>omega
   |succ n'=>
    have hn:n<=n':=by omega
    simp only[ic.iloop]at g |-;split at g
    .rename_i s l;rw[j _ _ _ hn _ l];exact m _ _ _ _ hn _ g
    .rename_i k;rw[j _ _ _ hn _ g];obtain⟨e,s⟩:=x;cases e with
     |normal=>exact absurd g (k s)
     |exit id=>rfl
     |ret=>rfl
theorem tY{g d j f:St->Option (Ex×St)}(p:∀s,pg (g s) (d s))(m:∀s,pg (j s) (f s))(h0:Nat)(b6:List PV)(n:List Tmp)(ds:List fS)(x:Bg):pg (mA g j h0 b6 n ds x) (mA d f h0 b6 n ds x):=by
 intro r c;unfold mA at c |-;split at c
 .cases c
 .split at c
  .split at c
   .rename_i q;rw[p _ _ q];simp only;split at c
    .rename_i k;rw[m _ _ k];exact c
    .rename_i e t l k;rw[m _ _ k];cases e with
     |normal=>exact(l rfl).elim
     |exit id=>exact c
     |ret=>exact c
    .cases c
   .cases c
  .cases c
theorem tA{Y g:List fS->Bg->Option (Bool×Bg)}(hc:∀f args H,pg (call f args H) (call' f args H))(k:∀ds s,pg (Y ds s) (g ds s)){n n':Nat}(hn:n<=n')(st:St)(gf:fM)(caps:List PV):pg (oI P call hint Y n st gf caps) (oI P call' hint g n' st gf caps):=by
 intro r d;unfold oI at d |-;split at d
 .rename_i fn l;split at d
  .cases d
  .rename_i m;rw[ae m];split at d
   .rename_i x c
    have:LG P call' (hint gf) g fn caps n' ⟨st.heap,Z⟩=O x:=by
     unfold LG at c |-;split at c
     .split at c
      .rename_i p;rw[aj p];split at c
       .cases c
       .rename_i e is j q;rw[(FM hc k n).1 _ _ _ hn _ q];cases e with
        |exit id=>exact(j id rfl).elim
        |normal=>exact c
        |ret=>exact c
       .cases c
      .cases c
     .cases c
    rw[this];exact d
   .cases d
 .cases d
theorem FK(hc:∀f args H,pg (call f args H) (call' f args H)):∀n,(∀p c st n',n<=n'->pg (gC P call pf hint h p n c st) (gC P call' pf hint h p n' c st))/\
  (∀p b h0 st n',n<=n'->pg (gC.ploop P call pf hint h p b h0 n st) (gC.ploop P call' pf hint h p b h0 n' st)):=by
 intro n;induction n with
 |zero=>exact⟨λp c st n' _ x g=>by simp[gC]at g,λp b h0 st n' _ x g=>by simp[gC.ploop]at g⟩
 |succ n w=>
  obtain⟨j,q⟩:=w;refine⟨λp c st n' hn x g=>?_,λp b h0 st n' hn x g=>?_⟩
  .cases n' with
   |zero=>omega
   |succ n'=>
    have hn:n<=n':=by omega
    cases c with
    |region r ops d=>
     cases d
     .simp only[gC]at g |-;split at g
      .rw[j5]at g |-;obtain⟨y,k,u⟩:=g;exact⟨y,tV hc _ _ _ _ _ _ _ k,u⟩
      .rw[j5]at g |-;obtain⟨y,k,u⟩:=g;exact⟨y,tn hc _ _ _ _ _ _ k,u⟩
     .simp only[gC]at g |-;split at g
      .rename_i k;rw[qy hc _ _ _ _ _ _ k];exact g
      .cases g
    |seq a b=>
     simp only[gC]at g |-;split at g
     .rename_i z k;rw[j _ _ _ _ hn _ k];exact j _ _ _ _ hn _ g
     .rename_i m;rw[j _ _ _ _ hn _ g];obtain⟨e,s⟩:=x;cases e with
      |normal=>exact absurd g (m s)
      |exit id=>rfl
      |ret=>rfl
    |cond y a b=>
     simp only[gC]at g |-;split at g
     .exact j _ _ _ _ hn _ g
     .exact j _ _ _ _ hn _ g
     .cases g
    |block id b=>
     simp only[gC]at g |-;split at g
     .rename_i t s k;rw[j _ _ _ _ hn _ k];exact g
     .rename_i m;rw[j _ _ _ _ hn _ g];obtain⟨e,s⟩:=x;cases e with
      |exit t=>exact absurd g (m t s)
      |normal=>rfl
      |ret=>rfl
    |label l=>exact g
    |scope b=>simp only[gC]at g |-;exact j _ _ _ _ hn _ g
    |loop b=>simp only[gC]at g |-;exact q _ _ _ _ _ hn _ g
    |skip=>exact g
    |exit id=>exact g
    |ret=>exact g
    |rangeFunc f A assign body=>
     simp only[gC]at g |-;split at g
     .rename_i v;rw[aj v];split at g
      .exact tA hc (λds s=>tY (λs=>j _ _ _ _ hn) (λs=>j _ _ _ _ hn) _ _ _ _ _) hn _ _ _ _ g
      .exact tA hc (λds s=>tY (λs=>j _ _ _ _ hn) (λs=>j _ _ _ _ hn) _ _ _ _ _) hn _ _ _ _ g
      .cases g
     .cases g
    |_=>simp[gC]at g
  .cases n' with
   |zero=>omega
   |succ n'=>
    have hn:n<=n':=by omega
    simp only[gC.ploop]at g |-;split at g
    .rename_i s k;rw[j _ _ _ _ hn _ k];exact q _ _ _ _ _ hn _ g
    .rename_i m;rw[j _ _ _ _ hn _ g];obtain⟨e,s⟩:=x;cases e with
     |normal=>exact absurd g (m s)
     |exit id=>rfl
     |ret=>rfl
theorem s6{E:Env}(hc:∀f args H,pg (call f args H) (call' f args H)){n n':Nat}(hn:n<=n')(f:fM)(args:List PV)(H:List fU):pg (rG P E call n f args H) (rG P E call' n' f args H):=by
 intro r c;unfold rG at c |-;split at c
 .split at c
  .split at c
   .cases c
   .rename_i e st d g;rw[(FK hc n).1 _ _ _ _ hn _ g];cases e with
    |exit id=>exact(d id rfl).elim
    |normal=>exact c
    |ret=>exact c
   .cases c
  .cases c
 .cases c
theorem zx{e f c d:Option (PV×List fU)}(j:∀r,e=O r->c=O r)(k:∀r,f=O r->d=O r){r:PV×List fU}(g:nW e f=O r):nW c d=O r:=by
 cases e with
 |none=>simp[nW]at g
 |some q1=>cases f with
  |none=>simp[nW]at g
  |some q2=>rw[j _ rfl,k _ rfl];exact g
theorem vu{E:Env}(hc:∀f args H,pg (call f args H) (call' f args H)){n n':Nat}(hn:n<=n')(f:fM)(args:List PV)(H:List fU):pg (lT P E call n f args H) (lT P E call' n' f args H):=by
 intro r c;unfold lT at c |-;split at c
 .rename_i d;rw[aj d];exact zx (s6 hc hn f _ _) (s6 hc hn f _ _) c
 .rename_i d;rw[ae d];exact s6 hc hn f _ _ _ c
theorem AF{E:Env}:∀n n',n<=n'->∀f args H,pg (kI P E n f args H) (kI P E n' f args H)
 |0,n',hn,f,args,H=>λr c=>by simp[kI]at c
 |n+1,0,hn,f,args,H=>by omega
 |n+1,n'+1,hn,f,args,H=>λr c=>by
  have hn:n<=n':=by omega
  have e:=AF (E:=E) n n' hn;simp only[kI]at c |-;split at c
  .cases c
  .rename_i g;rw[ae g];split at c
   .exact c
   .split at c
    .rename_i d;rw[aj d];split at c
     .split at c
      .rename_i j;rw[vu e hn _ _ _ _ j];exact c
      .cases c
     .cases c
    .rename_i d;rw[ae d];exact vu e hn _ _ _ _ c
theorem Mn{E:Env}{n:Nat}{f:fM}{args:List PV}{H H':List fU}{p:PV}(h:kI P E n f args H=O (p,H')):PC P E f args H p H':=⟨n,λk c=>AF n k c f args H _ h⟩
end
def Qg(n:Int):fS:=.raw (.int .i64 n)
def UN(b:Bool):fS:=.raw (.bool b)
abbrev W(n:Int):Int:=IntKind.i64.wrap n
abbrev Ea:PV:=.b7 (.ew ((Naa Qg) []))
abbrev Eb:fS:=.ew ((Naa Qg) [])
abbrev La(l:fJ):PV:=.b7 (.ew ((Naa Qg) l))
abbrev Lb(l:fJ):fS:=.ew ((Naa Qg) l)
def idx{c:Type}(l:List c)(i:Int):Option c:=if 0<=i then l[i.toNat]? else Z
def zl(a b:Int):Option Int:=if b=0 then Z else O (W (a.tdiv b))
def pz(a b:Int):Option Int:=if b=0 then Z else O (a.tmod b)
def app{c:Type}(bytes:Nat)(l es:List c):Option (List c):=if(I l+I es)*bytes<=jd then O (l++es)else Z
def sub{c:Type}(l:List c)(lo hi:Int):Option (List c):=if 0<=lo/\lo<=hi/\hi<=(I l:Int)then O ((l.take hi.toNat).drop lo.toNat)else Z
theorem Yf{c d:Type}{x:Option c}{f:c->Option d}{r:d}(h:(x>>=f)=O r):∃a,x=O a/\f a=O r:=by
 cases x with
 |none=>cases h
 |some a=>exact⟨a,rfl,h⟩
theorem Qic{p:Prop}[Decidable p]{c:Type}{a b:Option c}{r:c}(d:p)(h:(if p then a else b)=O r):a=O r:=(aj d).symm.trans h
theorem Qib{p:Prop}[Decidable p]{c:Type}{a b:Option c}{r:c}(d:¬p)(h:(if p then a else b)=O r):b=O r:=(ae d).symm.trans h
theorem QiE{c:Type}{r:c}(h:(Z:Option c)=O r):False:=by cases h
def QN(p:Prop)[Decidable p]:Option Unit:=if p then O ()else Z
theorem Qhu{p:Prop}[Decidable p]{u:Unit}(h:QN p=O u):p:=by
 unfold QN at h;split at h
 .assumption
 .cases h
theorem QhN(b:Bool):b=decide (b=J):=by cases b<;>rfl
theorem Qhx(b:Bool):(!b)=decide (b=U):=by cases b<;>rfl
theorem Qiw{c:Type}[DecidableEq c](a b:c):(a==b)=decide (a=b):=rfl
theorem NO{c:Type}[DecidableEq c](a b:c):(a !=b)=decide (a≠b):=by
 show(!(decide (a=b)))=_
 by_cases h:a=b<;>simp[h]
theorem vz{c:Type}{a b:c}(h:O a=O b):a=b:=jS h
theorem Qi2{c d:Type}{e f:c}{g b1:d}(h:O (e,g)=O (f,b1)):e=f/\g=b1:=by
 have h:=jS h
 simpa only[jI]using h
theorem To{c d e:Type}{f g:c}{j b1:d}{k b2:e}(h:O (f,j,k)=O (g,b1,b2)):f=g/\j=b1/\k=b2:=by
 have h:=jS h
 simpa only[jI]using h
theorem Qi3{c d e f:Type}{g j:c}{k b1:d}{l b2:e}{m n:f}(h:O (g,k,l,m)=O (j,b1,b2,n)):g=j/\k=b1/\l=b2/\m=n:=by
 have h:=jS h
 simpa only[jI]using h
theorem Qi4{c d e f g j:Type}{k l:c}{m b1:d}{n b2:e}{p q:f}{r s:g}{t u:j}(h:O (k,m,n,p,r,t)=O (l,b1,b2,q,s,u)):k=l/\m=b1/\n=b2/\p=q/\r=s/\t=u:=by
 have h:=jS h
 simpa only[jI]using h
def sl(d:List PV)(n:Nat)(l:List (Nat×PV)):List PV:=(Nad n).map λi=>match l.find? λx=>x.1==i with|some x=>x.2|none=>d.getD i (.fz [])
def kp(n:Nat)(l:List (Nat×PV)):List PV:=(Nad n).map λi=>match l.find? λx=>x.1==i with|some x=>x.2|none=>.undef
def en(n:Nat)(l:List PV):List PV:=l++Nab (n - I l) (.fz [])
def noC:gO:=λ_ _ _=>Z
theorem MS(call:gO):∀f args H,pg (noC f args H) (call f args H):=λ_ _ _ _ h=>by cases h
section
variable{P:fL}{E:Env}{hn:Hint}{rg:Bool}{r i:Nat}{ops:Array Oper}
abbrev Cf:=St×List Nat
variable{c:Cf}{Q:Cf->Prop}
def G(P:fL)(E:Env)(hn:Hint)(r:Nat)(ops:Array Oper)(i:Nat)(c:Cf)(Q:Cf->Prop):Prop:=IC P E hn r ops i (ops.toList.drop i) c.1 c.2 (λfl s=>Q (s,fl))
theorem rD(call:gO)(pf:fM->Bool)(h:Hint)(r:Nat)(ops:Array Oper):∀(a b:List Oper) (i:Nat) (st d:St) (e:List Nat),ib P call pf h r ops i a st=O (d,e)->
  ib P call pf h r ops i (a++b) st=(ib P call pf h r ops (i+I a) b d).map λx=>(x.1,e++x.2)
 |[],b,i,st,d,e,c=>by simp only[ib,j9,jI]at c;obtain⟨rfl,rfl⟩:=c;simp only[jQ,jL,zY];cases ib P call pf h r ops i b st<;>rfl
 |o::a,b,i,st,d,e,c=>by
  simp only[ib]at c;simp only[aN,ib];cases l:iW P call h r ops i o st with
  |none=>rw[l]at c;cases c
  |some f=>
   rw[l]at c;simp only at c |-;cases j:ib P call pf h r ops (i+1) a f with
   |none=>rw[j]at c;cases c
   |some x=>
    obtain⟨g,k⟩:=x;rw[j]at c;simp only[j9,jI]at c;obtain⟨rfl,rfl⟩:=c;rw[rD call pf h r ops a b (i+1) f g k j,show i+1+I a=i+I (o::a) by simp;omega];cases ib P call pf h r ops (i+I (o::a)) b g<;>rfl
noncomputable def KO(P:fL)(E:Env)(hn:Hint)(r:Nat)(ops:Array Oper)(i k:Nat)(st:St):Option (St×List Nat):=ib P noC E.pf hn r ops i ((ops.toList.drop i).take k) st
noncomputable def NJ(P:fL)(E:Env)(hn:Hint)(r:Nat)(ops:Array Oper)(i k:Nat)(c:Cf):Cf:=match KO P E hn r ops i k c.1 with|some x=>(x.1,c.2++x.2)|none=>(⟨[],[]⟩,[])
theorem Qe(k:Nat)(l:G P E hn r ops (i+k) (NJ P E hn r ops i k c) Q)(h:(KO P E hn r ops i k c.1).isSome=J:=by kernel_rfl)(hl:decide (i+k<=ops.size)=J:=by kernel_rfl):G P E hn r ops i c Q:=by
 have hl:=of_decide_eq_true hl;cases d:KO P E hn r ops i k c.1 with
 |none=>rw[d]at h;cases h
 |some x=>
  obtain⟨p,e⟩:=x;simp only[NJ,d]at l;obtain⟨f,g,⟨N,q⟩,s⟩:=l;refine⟨f,e++g,⟨N,λn j=>?_⟩,by rw[<-ay];exact s⟩;have t:ops.toList.drop i=(ops.toList.drop i).take k++ops.toList.drop (i+k):=by rw[<-cV,y8]
  have u:=qy (MS (kI P E n)) r ops ((ops.toList.drop i).take k) i c.1 _ d;have v:I ((ops.toList.drop i).take k)=k:=by simp;omega
  have m:=q n j;simp only at m;rw[t,rD _ _ _ _ _ _ _ _ _ _ _ u,v,m];rfl
noncomputable def vC(P:fL)(hn:Hint)(r:Nat)(ops:Array Oper)(i:Nat)(st:St):Option (PV×List fU):=
 match ops[i]? with
 |some o=>if gI ops st.b6 o=O J then gU P noC (hn.gz r i) o (ev st.b6) st.heap else Z
 |none=>Z
def BQ(E:Env)(hn:Hint)(r:Nat)(ops:Array Oper)(i:Nat)(st:St):Nat:=match ops[i]? with|some o=>lI E.pf hn r i o (ev st.b6)|none=>0
def nL(E:Env)(hn:Hint)(r:Nat)(ops:Array Oper)(i:Nat)(c:Cf)(v:PV)(g:List fU->List fU):Cf:=(⟨mH c.1.b6 ((ops[i]?).bind (·.dst)) v,g c.1.heap⟩,c.2++[BQ E hn r ops i c.1])
theorem tr{o:Oper}(h:ops[i]?=O o):ops.toList.drop i=o::ops.toList.drop (i+1):=by
 have c:ops.toList[i]?=O o:=by simpa using h
 obtain⟨hi,d⟩:=af.1 c;rw[bd hi,d]
theorem V3{v:PV}{g:List fU->List fU}(h:vC P hn r ops i c.1=O (v,g c.1.heap))(e:G P E hn r ops (i+1) (nL E hn r ops i c v g) Q):G P E hn r ops i c Q:=by
 simp only[vC]at h;cases d:ops[i]? with
 |none=>rw[d]at h;cases h
 |some o=>
  rw[d]at h;simp only at h;by_cases hw:gI ops c.1.b6 o=O J
  .rw[aj hw]at h;unfold G;rw[tr d];refine yn hw ⟨v,_,⟨0,λk _=>C5 (MS (kI P E k)) _ _ _ _ _ h⟩,?_⟩;simp only[G,nL,BQ,d,zX]at e;exact e
  .rw[ae hw]at h;cases h
theorem Qit{o:Oper}(d:ops[i]?=O o)(hw:gI ops c.1.b6 o=O J)(h:jt P E (hn.gz r i) o (ev c.1.b6) c.1.heap λv H=>G P E hn r ops (i+1) (nL E hn r ops i c v λ_=>H) Q):G P E hn r ops i c Q:=by unfold G;rw[tr d];refine yn hw ?_;simp only[G,nL,BQ,d,zX]at h;exact h
theorem QA{o:Oper}{v:PV}(d:ops[i]?=O o)(h:∀K:PV->List fU->Prop,K v c.1.heap->jt P E (hn.gz r i) o (ev c.1.b6) c.1.heap K)(e:G P E hn r ops (i+1) (nL E hn r ops i c v id) Q)(hw:gI ops c.1.b6 o=O J:=by kernel_rfl):G P E hn r ops i c Q:=
 Qit d hw (h _ e)
theorem Zb{o:Oper}{v:PV}(g:List fU->List fU)(d:ops[i]?=O o)(hw:gI ops c.1.b6 o=O J)(h:∀K:PV->List fU->Prop,K v (g c.1.heap)->jt P E (hn.gz r i) o (ev c.1.b6) c.1.heap K)(e:G P E hn r ops (i+1) (nL E hn r ops i c v g) Q):G P E hn r ops i c Q:=
 Qit d hw (h _ e)
def s9(hn:Hint)(r:Nat)(ops:Array Oper)(i:Nat)(st:St):Option (FuncId×List PV):=
 match ops[i]? with
 |some o=>if gI ops st.b6 o=O J then
   (match o.op with
    |.call c=>match c.callee,hn.gz r i with
     |.value x,[]=>match ev st.b6 x with
      |.b7 (.raw (.func (.func f) _ _))=>O (f,c.args.toList.map (ev st.b6))
      |.fn f cap=>O (f,c.args.toList.map (ev st.b6)++cap)
      |_=>Z
     |_,_=>Z
    |_=>Z)else Z
 |none=>Z
theorem Wl{f:fM}{args:List PV}{p:PV}{g:List fU->List fU}(hc:PC P E f args c.1.heap p (g c.1.heap))(h:s9 hn r ops i c.1=O (f,args))(q:G P E hn r ops (i+1) (nL E hn r ops i c p g) Q):G P E hn r ops i c Q:=by
 obtain⟨N,s⟩:=hc;simp only[s9]at h;cases m:ops[i]? with
 |none=>rw[m]at h;cases h
 |some o=>
  rw[m]at h;simp only at h;by_cases hw:gI ops c.1.b6 o=O J
  .rw[aj hw]at h;unfold G;rw[tr m];simp only[G,nL,BQ,m,zX]at q;refine yn hw ⟨p,_,⟨N,λk e=>?_⟩,q⟩;split at h
   .rename_i t j;split at h
    .rename_i x d l;split at h
     .rename_i g a b n;cases h;rw[gU];simp only[j,d,l,n];exact s k e
     .rename_i g cap n;cases h;rw[gU];simp only[j,d,l,n];exact s k e
     .cases h
    .cases h
   .cases h
  .rw[ae hw]at h;cases h
theorem Zg{f:fM}{args:List PV}{p:PV}{H H':List fU}(hc:PC P E f args H p H')(d:G P E hn r ops (i+1) (nL E hn r ops i c p λ_=>H') Q)(e:c.1.heap=H:=by kernel_rfl)(h:s9 hn r ops i c.1=O (f,args):=by kernel_rfl):G P E hn r ops i c Q:=by subst e;exact Wl (g:=λ_=>H') hc h d
theorem Qis{o:Oper}{f:fM}{x:fO}{args:Array Operand}{ts:Array TypeId}{caps A:List PV}{j e:Nat}{ow':List (Nat×TypeId)}{p:PV}{H:List fU}(hc:PC P E f A H p H)(k:G P E hn r ops (i+1) (nL E hn r ops i c p id) Q)(l:ops[i]?=O o)(d:o.op=.call {callee:=.value x,args,argTypes:=ts})(hw:gI ops c.1.b6 o=O J)(m:ev c.1.b6 x=.fn f caps)(n:args.toList.map (ev c.1.b6)++caps=A)(q:c.1.heap=H)(g:hn.gz r i=(j,e)::ow')(s:(decide (6000<=j) && !decide (j=7000) && !decide (12000<=j))=J:=by decide):G P E hn r ops i c Q:=
 QA (v:=p) l (λK t=>QhY d m g (by rw[n,q];exact hc) t s) k hw
def PCX(P:fL)(E:Env)(f:fM)(args:List PV)(H:List fU)(p:PV)(c:List fU):Prop:=∃X,PC P E f args H p (c++X)
def K5(hn:Hint)(r:Nat)(ops:Array Oper)(i:Nat)(st:St):Option (FuncId×List PV×Nat×Nat):=
 match ops[i]? with
 |some o=>if gI ops st.b6 o=O J then
   (match o.op with
    |.call c=>match c.callee,hn.gz r i with
     |.value x,(j,e)::_=>if 12500<=j/\j<13000 then(match Nt (ev st.b6 x)with
      |some (f,cap)=>O (f,c.args.toList.map (ev st.b6)++cap,j,u7 (c.args.toList.map (ev st.b6)++cap)+e)
      |none=>Z)else Z
     |_,_=>Z
    |_=>Z)else Z
 |none=>Z
theorem BT{f:Nat->Nat}:([]:List fU).map (fU.eR f)=[]:=rfl
theorem lP{f:Nat->Nat}{x y:fU}{l m:List fU}(h:x.eR f=y)(c:l.map (fU.eR f)=m):(x::l).map (fU.eR f)=y::m:=by rw[zV,h,c]
theorem Fq{st:St}{f:fM}{A:List PV}{j n:Nat}(h:K5 hn r ops i st=O (f,A,j,n)):∃o x args ts cap e ow',ops[i]?=O o/\gI ops st.b6 o=O J/\o.op=.call {callee:=.value x,args:=args,argTypes:=ts}/\Nt (ev st.b6 x)=O (f,cap)/\
  hn.gz r i=(j,e)::ow'/\args.toList.map (ev st.b6)++cap=A/\u7 (args.toList.map (ev st.b6)++cap)+e=n/\12500<=j/\j<13000:=by
 simp only[K5]at h;split at h
 case h_2=>cases h
 rename_i o l;by_cases hw:gI ops st.b6 o=O J
 case neg=>rw[ae hw]at h;cases h
 rw[aj hw]at h;split at h
 case h_2=>cases h
 rename_i p g;obtain⟨callee,args,ts⟩:=p;cases callee with
 |builtin b=>cases h
 |invoke x m=>cases h
 |value x=>
  cases c:hn.gz r i with
  |nil=>simp only[c]at h;cases h
  |cons q ow'=>
   obtain⟨k,e⟩:=q;simp only[c]at h;by_cases d:12500<=k/\k<13000
   case neg=>rw[ae d]at h;cases h
   rw[aj d]at h;split at h
   case h_2=>cases h
   rename_i v cap s;simp only[j9,jI]at h;obtain⟨rfl,t,rfl,u⟩:=h;exact⟨o,x,args,ts,cap,e,ow',l,hw,g,s,rfl,t,u,d.1,d.2⟩
theorem Qia{f:fM}{A0 A:List PV}{p q:PV}{H0 W d g:List fU}{b n:Nat}(hc:PCX P E f A W p d)(s:H0.map (fU.eR (si b n))=W)(t:d.map (fU.eR (wG b n))=g)(u:G P E hn r ops (i+1) (nL E hn r ops i c q λH=>H.take b++g++H.drop n) Q)(h:K5 hn r ops i c.1=O (f,A0,12500+b,n):=by kernel_rfl)(v:A0.map (PV.eR (si b n))=A:=by kernel_rfl)(w:(c.1.heap.take n).drop b=H0:=by kernel_rfl)(hi:(decide (b<=n) &&decide (n<=I c.1.heap) &&decide (I W=n - b) &&decide (b<I c.1.heap) &&(mc (n - b) A &&W.all (fU.under (n - b))))=J:=by kernel_rfl)(y:(p.under (n - b) &&d.all (fU.under (n - b)))=J:=by kernel_rfl)(hl:I d=n - b:=by kernel_rfl)(z:p.eR (wG b n)=q:=by kernel_rfl)(j:decide (b<499)=J:=by kernel_rfl):G P E hn r ops i c Q:=by
 obtain⟨X,hc⟩:=hc;obtain⟨o,x,args,ts,cap,e,ow',B,hw,k,C,l,D,F,M,N⟩:=Fq h;have m:(d++X).take (n - b)=d:=by rw[<-hl];exact dN
 refine Zb (λH=>H.take b++g++H.drop n) B hw (λK L=>?_) u;exact Qif (cap:=cap) k C l F (by rw[D];exact v) (by rw[w];exact s) hc hi (by rw[m];exact y) (by rw[m,t,z];exact L) ⟨rfl,by have:=of_decide_eq_true j;omega⟩
def rp(args:List PV)(p:PV):Bool:=!args.any PV.fx||lX p
def B2(hn:Hint)(r:Nat)(ops:Array Oper)(i:Nat)(st:St)(p:PV):Option (FuncId×List fS):=match s9 hn r ops i st with|some (f,args)=>if rp args p then(gR st.heap args).map λds=>(f,ds)else Z|none=>Z
theorem XF{f:fM}{ds:List fS}{p:PV}{H0 j:List fU}(hc:PC P E f (ds.map .b7) H0 p j)(l:G P E hn r ops (i+1) (nL E hn r ops i c p id) Q)(k:(E.pure f &&(E.pa f).isNone)=J:=by kernel_rfl)(h:B2 hn r ops i c.1 p=O (f,ds):=by kernel_rfl):G P E hn r ops i c Q:=by
 simp only[jE,bW]at k;simp only[B2]at h;cases d:s9 hn r ops i c.1 with
 |none=>rw[d]at h;cases h
 |some m=>
  obtain⟨g,args⟩:=m;rw[d]at h;simp only at h;by_cases hl:rp args p=J
  .rw[aj hl]at h;cases e:gR c.1.heap args with
   |none=>rw[e]at h;cases h
   |some ds'=>
    rw[e]at h;cases h;refine Wl (g:=id) (Iz k.2 k.1 hc e (λn=>?_)) d l;simp only[rp,n,aF,cL]at hl;exact hl
  .rw[ae hl]at h;cases h
def sy(c:Cf)(j:Nat)(b:Bool):Cf:=(⟨c.1.b6.set j (Qp b),c.1.heap⟩,c.2)
theorem QiL{b:Bool}{p:Prop}[Decidable p](j:Nat)(g:b=decide p)(k:p->G P E hn r ops i (sy c j J) Q)(l:¬p->G P E hn r ops i (sy c j U) Q)(m:c.1.b6[j]?=O (Qp b):=by kernel_rfl):G P E hn r ops i c Q:=by
 obtain⟨q,f⟩:=af.1 m
 have e:∀t,c.1.b6[j]=Qp t->sy c j t=c:=λt n=>by
  have:c.1.b6.set j (Qp t)=c.1.b6:=by rw[<-n,cA]
  simp only[sy,this]
 subst g;by_cases d:p
 .have:=k d;rw[e J (by rw[f,decide_eq_true d])]at this;exact this
 .have:=l d;rw[e U (by rw[f,y3 d])]at this;exact this
theorem UX{b:Bool}{p:Prop}[Decidable p]{e:Type}{f g:Option e}{d:e}(j:Nat)(V:(if p then f else g)=O d)(k:b=decide p)(l:f=O d->G P E hn r ops i (sy c j J) Q)(m:g=O d->G P E hn r ops i (sy c j U) Q)(n:c.1.b6[j]?=O (Qp b):=by kernel_rfl):G P E hn r ops i c Q:=
 QiL j k (λhc=>l (Qic hc V)) (λhc=>m (Qib hc V)) n
theorem Q6(d:Q c)(h:decide (i=ops.size)=J:=by kernel_rfl):G P E hn r ops i c Q:=by have:=of_decide_eq_true h;subst this;exact⟨c.1,[],⟨0,λk _=>by rw[show ops.toList.drop ops.size=[] by simp];rfl⟩,by rw[jV];exact d⟩
theorem rF(call:gO)(pf:fM->Bool)(h:Hint)(r:Nat)(ops:Array Oper):∀(os:List Oper) (i:Nat) (st d:St) (fl:List Nat),ib P call pf h r ops i os st=O (d,fl)->lR P call h r ops i os st=O d
 |[],i,st,d,fl,c=>by simp only[ib,j9,jI]at c;obtain⟨rfl,rfl⟩:=c;rfl
 |o::os,i,st,d,fl,c=>by
  simp only[ib]at c;simp only[lR];cases k:iW P call h r ops i o st with
  |none=>rw[k]at c;cases c
  |some e=>
   rw[k]at c;simp only at c |-;cases f:ib P call pf h r ops (i+1) os e with
   |none=>rw[f]at c;cases c
   |some x=>
    obtain⟨g,j⟩:=x;rw[f]at c;simp only[j9,jI]at c;obtain⟨rfl,rfl⟩:=c;exact rF call pf h r ops os (i+1) e g j f
theorem gp{st:St}{e:Ex->St->Prop}(h:G P E hn r ops 0 (st,[]) (λc=>e .normal c.1))(d:hn.ph r=Z:=by kernel_rfl):R P E hn rg (.region r ops U) st e:=by obtain⟨s,fl,⟨N,f⟩,g⟩:=h;exact Qiv ⟨s,⟨N,λk j=>rF _ _ _ _ _ _ _ _ _ _ (f k j)⟩,g⟩ d
theorem Zd{st:St}{d:Ex->St->Prop}(h:G P E hn r ops 0 (st,[]) (λc=>lS (I st.heap) ops c.2=J/\d .normal c.1)):R P E hn rg (.region r ops J) st d:=by refine QiV ?_;exact h
def rA:List Nat->List Nat->Bool
 |[],_=>J
 |a::fl,b::w=>decide (a<=b) &&rA fl w
 |_::_,[]=>U
theorem tv:∀{fl w:List Nat},rA fl w=J->∀i,fl.getD i 0<=w.getD i 0
 |[],_,_,i=>by simp
 |a::fl,b::w,h,i=>by
  simp only[rA,jE,zE]at h;cases i with
  |zero=>simpa using h.1
  |succ i=>simpa using tv h.2 i
theorem Ew:∀{a b w:List Nat},rA a w=J->rA b (w.drop (I a))=J->rA (a++b) w=J
 |[],_,_,_,h=>by simpa using h
 |x::a,b,y::w,h,c=>by simp only[rA,jE,aN]at h |-;exact⟨h.1,Ew h.2 (by simpa using c)⟩
theorem Me:∀a b a' b':Fin 4,AZ a.val b.val=J->a'<=a->b'<=b->AZ a'.val b'.val=J:=by decide
theorem Kd{a b a' b':Nat}(h:AZ a b=J)(c:a'<=a)(d:b'<=b)(e:a<=3)(f:b<=3):AZ a' b'=J:=
 Me ⟨a,by omega⟩ ⟨b,by omega⟩ ⟨a',by omega⟩ ⟨b',by omega⟩ h c d
theorem IQ{fl w A:List Nat}(h:rA fl w=J)(hw:w.all (λa=>decide (a<=3))=J){x y:Nat}(c:rC ops w A x y=J):rC ops fl A x y=J:=by
 have f:∀z,w.getD z 0<=3:=λz=>by
  rw[jB];cases e:w[z]? with
  |none=>simp
  |some v=>simpa using an.1 hw v (jF e)
 unfold rC at c |-;split at c
 .simp only[jE,zT]at c |-;refine⟨c.1,?_⟩;rcases c.2 with d|d
  .exact Or.inl d
  .exact Or.inr (Kd d (tv h x) (tv h y) (f x) (f y))
 .rfl
theorem FZ{h0:Nat}{fl w:List Nat}(h:rA fl w=J)(hw:(lS 0 ops w &&w.all (λa=>decide (a<=3)))=J):lS h0 ops fl=J:=by
 simp only[jE]at hw;obtain⟨c,d⟩:=hw;unfold lS at c |-;simp only[jE]at c |-
 have f:∀j,fl.getD j 0<=3:=λj=>by
  have n:=tv h j
  have p:w.getD j 0<=3:=by
   rw[jB];cases e:w[j]? with
   |none=>simp
   |some v=>simpa using an.1 d v (jF e)
  omega
 refine⟨⟨an.2 λj _=>?_,an.2 λa g=>?_⟩,c.2.1,an.2 λx k=>an.2 λy l=>?_⟩
 .have:=f j;rw[decide_eq_true (by omega:fl.getD j 0<16)];rfl
 .obtain⟨j,m,rfl⟩:=bD g;have:=f j;rw[jB,jC m]at this;simp only[aE]at this;rw[decide_eq_true (by omega:fl[j]%16≠9)];rfl
 .exact IQ h d (an.1 (an.1 c.2.2 x k) y l)
def LN(E:Env)(hn:Hint)(r:Nat)(ops:Array Oper):List Nat:=(Nad ops.size).map λi=>match ops[i]? with
 |some o=>lI E.pf hn r i o λ|.func f=>.b7 (.raw (.func (.func f) #[] #[]))|_=>.undef
 |none=>0
@[reducible] def QW(w:List Nat)(i:Nat)(K:St->Prop):Cf->Prop:=λc=>rA c.2 (w.drop i)=J/\K c.1
theorem Pj{st:St}{c:Ex->St->Prop}(h:G P E hn r ops 0 (st,[]) (QW (LN E hn r ops) 0 (c .normal)))(hw:(lS 0 ops (LN E hn r ops) &&(LN E hn r ops).all (λa=>decide (a<=3)))=J:=by kernel_rfl):R P E hn rg (.region r ops J) st c:=
 Zd (by obtain⟨s,fl,d,e,f⟩:=h;exact⟨s,fl,d,FZ e hw,f⟩)
theorem CK{st:St}{d:Ex->St->Prop}(h:G P E hn r ops 0 (st,[]) (QW (Nab ops.size 99) 0 (d .normal)))(c:hn.ph r=Z:=by kernel_rfl):R P E hn rg (.region r ops U) st d:=
 gp (by obtain⟨s,fl,e,g,f⟩:=h;exact⟨s,fl,e,f⟩) c
theorem ZF{w:List Nat}{i j k:Nat}{K:St->Prop}(C:List PV->St)(n:∀d,G P E hn r ops j (C d,[]) (QW w j K))(h:(∀b e,(_:e.1=C e.1.b6:=by kernel_rfl)->(_:(rA e.2 (w.drop b) &&decide (I e.2+b=j))=J:=by kernel_rfl)->G P E hn r ops j e (QW w b K))->G P E hn r ops k c (QW w i K)):G P E hn r ops k c (QW w i K):=
 h λb e p l=>by
  simp only[jE,zE]at l;obtain⟨f,g,m,q,s⟩:=n e.1.b6;rw[<-p]at m;refine⟨f,g,m,Ew l.1 ?_,s⟩;rw[cV,show b+I e.2=j by omega]
  simpa using q
end
section
variable{P:fL}{E:Env}{hn:Hint}{rg:Bool}{c a b:Code}{st:St}{Q Q':Ex->St->Prop}
theorem QiZ{x:fO}{t:Bool}{p:Prop}[Decidable p](c:t=decide p)(d:p->R P E hn rg a st Q)(e:¬p->R P E hn rg b st Q)(f:ev st.b6 x=Qp t:=by kernel_rfl):R P E hn rg (.cond x a b) st Q:=by subst c;exact Qi1 f d e
theorem TI{x:fO}{t:Bool}{p:Prop}[Decidable p]{d:Type}{e f:Option d}{c:d}(V:(if p then e else f)=O c)(g:t=decide p)(j:e=O c->R P E hn rg a st Q)(k:f=O c->R P E hn rg b st Q)(l:ev st.b6 x=Qp t:=by kernel_rfl):R P E hn rg (.cond x a b) st Q:=
 QiZ g (λhc=>j (Qic hc V)) (λhc=>k (Qib hc V)) l
theorem Zm(C:List PV->St)(c:R P E hn rg a st λe s=>match e with|.normal=>∃d,s=C d|e=>Q e s)(f:∀d,Q .normal (C d)):R P E hn rg a st Q:=
 c.mono λe s h=>by
  cases e with
  |normal=>obtain⟨d,rfl⟩:=h;exact f d
  |exit id=>exact h
  |ret=>exact h
theorem QhO{C:List PV->St}(h:st=C st.b6:=by kernel_rfl):∃d,st=C d:=⟨_,h⟩
def BP:List Nat->Code->Code
 |[],c=>c
 |0::p,.seq a _=>BP p a
 |_::p,.seq _ b=>BP p b
 |0::p,.cond _ a _=>BP p a
 |_::p,.cond _ _ b=>BP p b
 |_::p,.block _ b=>BP p b
 |_::p,.loop b=>BP p b
 |_::p,.scope b=>BP p b
 |_,c=>c
def FY(f:Func):Code:=f.body.getD .skip
theorem Tr{b b':Code}{h0 c:Nat}{C:St}{d:Ex->St->Prop}(hR:∀st,jz c ((Zc b').bind hn.i7) st=C->RL P E hn rg b' c st d)(hst:jz c ((Zc b').bind hn.i7) st=C)(after:∀e s,d e s->Q e s)(f:b=b':=by kernel_rfl)(g:h0=c:=by kernel_rfl):RL P E hn rg b h0 st Q:=by subst f;subst g;exact(hR st hst).mono after
theorem oU{h0:Nat}{st':St}(h:jz h0 ((Zc b).bind hn.i7) st=st')(k:R P E hn rg b st' λe s=>match e with|.normal=>RL P E hn rg b h0 s Q|e=>Q e s):RL P E hn rg b h0 st Q:=by subst h;exact OU k
theorem Qix{H:List fU}{b6:List PV}{c:List ResultVar}{p:PV}(h:((iX P b6 H c).bind λvs=>iq H (kf vs))=O p:=by kernel_rfl):∃vs,iX P b6 H c=O vs/\iq H (kf vs)=O p:=by
 cases d:iX P b6 H c with
 |none=>rw[d]at h;cases h
 |some vs=>rw[d]at h;exact⟨vs,rfl,h⟩
theorem sF{f:fM}{fn:Func}{ds:List fS}{H:List fU}{p:PV}(g:fn.body=O c)(hR:R P E (E.hint f) J c ⟨en fn.ntmps (ds.map .b7),[]⟩ λe s=>(match e with|.exit _=>False|_=>True)/\∃vs,iX P s.b6 s.heap fn.results.toList=O vs/\iq s.heap (kf vs)=O p)(d:(ox P f &&((E.pa f).isNone &&E.pure f && !(E.split f &&(oH (ds.map .b7) &&J))))=J:=by kernel_rfl)(j:P.funcs[f]?=O fn:=by kernel_rfl)(hl:rp (ds.map .b7) p=J:=by kernel_rfl):PC P E f (ds.map .b7) H p H:=by simp only[jE,bW]at d;refine OQ d.1 d.2.1.1 d.2.1.2 j g (qC _ _) hR (λk=>?_) (by cases l:E.split f<;>cases hi:oH (ds.map PV.b7)<;>simp_all);simp only[rp,k,aF,cL]at hl;exact hl
theorem gY{f:fM}{fn:Func}{args:List PV}{H H':List fU}{p:PV}(g:fn.body=O c)(hR:R P E (E.hint f) J c ⟨en fn.ntmps args,H⟩ λe s=>(match e with|.exit _=>False|_=>True)/\∃vs,iX P s.b6 s.heap fn.results.toList=O vs/\p=kf vs/\H'=s.heap)(d:(ox P f &&((E.pa f).isNone && !E.pure f && !(E.split f &&(oH args &&H.isEmpty))))=J:=by kernel_rfl)(j:P.funcs[f]?=O fn:=by kernel_rfl):PC P E f args H p H':=by simp only[jE,bW,cB,Bool.and_eq_false_iff]at d;refine Pf d.1 d.2.1.1 d.2.1.2 j g hR ?_;have:=d.2.2;cases k:E.split f<;>cases hi:oH args<;>cases l:H.isEmpty<;>simp_all
theorem PN{f:fM}{fn:Func}{args:List PV}{H d:List fU}{p:PV}(g:fn.body=O c)(hR:R P E (E.hint f) J c ⟨en fn.ntmps args,H⟩ λe s=>(match e with|.exit _=>False|_=>True)/\∃X,∃vs,iX P s.b6 s.heap fn.results.toList=O vs/\p=kf vs/\d++X=s.heap)(j:(ox P f &&((E.pa f).isNone && !E.pure f && !(E.split f &&(oH args &&H.isEmpty))))=J:=by kernel_rfl)(k:P.funcs[f]?=O fn:=by kernel_rfl):PCX P E f args H p d:=by obtain⟨e,s,l,m,X,n⟩:=hR;exact⟨X,gY g ⟨e,s,l,m,n⟩ j k⟩
theorem I5(n:Nat){b6:List PV}{H d:List fU}{c:List ResultVar}{p:PV}(h:(iX P b6 H c).map kf=O p)(f:d++H.drop n=H):∃X,∃vs,iX P b6 H c=O vs/\p=kf vs/\d++X=H:=by
 cases e:iX P b6 H c with
 |none=>rw[e]at h;cases h
 |some vs=>rw[e]at h;exact⟨_,vs,rfl,(jS h).symm,f⟩
theorem RQ{b6:List PV}{H H':List fU}{c:List ResultVar}{p:PV}(h:(iX P b6 H c).map kf=O p)(e:H'=H):∃vs,iX P b6 H c=O vs/\p=kf vs/\H'=H:=by
 cases d:iX P b6 H c with
 |none=>rw[d]at h;cases h
 |some vs=>rw[d]at h;exact⟨vs,rfl,(jS h).symm,e⟩
end
section
variable{P:fL}{E:Env}{hn:Hint}{r i:Nat}{ops:Array Oper}{c:Cf}{Q:Cf->Prop}
def EX(P:fL)(hn:Hint)(r:Nat)(ops:Array Oper)(i:Nat)(st:St):Option (PV×List fU):=
 match ops[i]? with
 |some o=>if gI ops st.b6 o=O J then
   (match o.op with
    |.call c=>match c.callee with
     |.builtin b=>gF P b c.argTypes (c.args.toList.map (ev st.b6)) st.heap
     |_=>Z
    |_=>Z)else Z
 |none=>Z
theorem HZ{x:PV×List fU}(h:EX P hn r ops i c.1=O x):vC P hn r ops i c.1=O x:=by
 simp only[EX]at h;simp only[vC];cases e:ops[i]? with
 |none=>rw[e]at h;cases h
 |some o=>
  rw[e]at h;simp only at h |-;by_cases hw:gI ops c.1.b6 o=O J
  .rw[aj hw]at h |-;split at h
   .rename_i c d;split at h
    .rename_i b f;rw[gU];simp only[d,f,h]
    .cases h
   .cases h
  .rw[ae hw]at h;cases h
def Vb(n:Nat)(H:List fU):Option (PV×List fU):=O (Qd (n:Int),H)
theorem Ff{d:Type}(f:d->fS)(l:List d){es:List fS}(e:es=l.map f)(j:G P E hn r ops (i+1) (nL E hn r ops i c (Qd (I l:Int)) id) Q)(h:EX P hn r ops i c.1=Vb (I es) c.1.heap:=by kernel_rfl):G P E hn r ops i c Q:=by subst e;rw[jZ]at h;exact V3 (g:=id) (HZ h) j
def O1(size:Nat)(es:List fS)(n:Int)(H:List fU):Option (PV×List fU):=if 0<=n then(match es[n.toNat]? with|some d=>if d.num=size then O (.eI d.cells,H)else Z|none=>Z)else Z
theorem oz{c:Type}{l:List c}{n:Int}{x:c}(h:idx l n=O x):0<=n/\l[n.toNat]?=O x:=by
 unfold idx at h;split at h
 .exact⟨by assumption,h⟩
 .cases h
theorem X9{e:Type}(size:Nat)(f:e->fS)(l:List e)(n:Int)(x:e){es:List fS}{d:fS}(j:es=l.map f)(k:idx l n=O x)(m:f x=d)(p:d.num=size)(q:G P E hn r ops (i+1) (nL E hn r ops i c (.eI d.cells) id) Q)(h:vC P hn r ops i c.1=O1 size es n c.1.heap:=by kernel_rfl):G P E hn r ops i c Q:=by subst j;subst m;obtain⟨h0,s⟩:=oz k;refine V3 (g:=id) (h.trans ?_) q;simp only[O1,h0,ak,jD,s,jN,p,id]
theorem Sv{d g:Type}{l:List d}{n:Int}{k:d->Option g}{j:g}(size:Nat)(f:d->fS){es:List fS}(V:(idx l n>>=k)=O j)(m:es=l.map f)(p:∀x,(f x).num=size)(q:∀x,k x=O j->G P E hn r ops (i+1) (nL E hn r ops i c (.eI (f x).cells) id) Q)(h:vC P hn r ops i c.1=O1 size es n c.1.heap:=by kernel_rfl):G P E hn r ops i c Q:=by obtain⟨x,s,e⟩:=Yf V;exact X9 size f l n x m s rfl (p x) (q x e) h
def UK(H:List fU)(e size bytes t n:Nat)(xs es:List fS):Option (PV×List fU):=
 if es.all (fS.fits size)then(if xs.all (fS.fits size)/\e=e/\n=I xs/\(I xs+I es)*bytes<=jd then O (.vec t (xs++es),H.set t (.tok e (I xs+I es)))else Z)else Z
theorem MU{c:Type}{f:c->fS}{k:Nat}(h:∀a,fS.fits k (f a)=J)(l:List c):(l.map f).all (fS.fits k)=J:=by simp only[aV,j8];intro x _;exact h x
theorem qb{c:Type}{bytes:Nat}{l es r:List c}(h:app bytes l es=O r):(I l+I es)*bytes<=jd/\r=l++es:=by
 unfold app at h;split at h
 .exact⟨by assumption,(jS h).symm⟩
 .cases h
theorem YA{d:Type}(e size bytes t:Nat)(f:d->fS)(l ys j:List d){xs es:List fS}{L:List d->List fS}(k:∀l,L l=l.map f)(m:xs=L l)(n:es=L ys)(p:∀a,fS.fits size (f a)=J)(q:app bytes l ys=O j)(s:G P E hn r ops (i+1) (nL E hn r ops i c (.vec t (L j)) λH=>H.set t (.tok e (I j))) Q)(h:EX P hn r ops i c.1=UK c.1.heap e size bytes t (I l) xs es:=by kernel_rfl):G P E hn r ops i c Q:=by subst m;subst n;obtain⟨u,rfl⟩:=qb q;refine V3 (g:=λH=>H.set t (.tok e (I (l++ys)))) (HZ (h.trans ?_)) s;simp only[UK,k,MU p,ak,jZ,true_and,u,zM,jW]
def LV(size:Nat)(es:List fS)(l h:Option Nat)(H:List fU):Option (PV×List fU):=
 match l,h with
 |some l,O h=>if l<=h/\h<=I es/\(l==0||es.all λd=>d.num==size)then O (.b7 (.ew ((es.take h).drop l)),H)else Z
 |_,_=>Z
def vX(n:Int):Option Nat:=if 0<=n then O n.toNat else Z
theorem MZ{c:Type}{l r:List c}{lo hi:Int}(h:sub l lo hi=O r):(0<=lo/\lo<=hi/\hi<=(I l:Int))/\r=(l.take hi.toNat).drop lo.toNat:=by
 unfold sub at h;split at h
 .exact⟨by assumption,(jS h).symm⟩
 .cases h
theorem Uf{j:Type}(size:Nat)(f:j->fS)(l k:List j)(lo hi:Int){es:List fS}{L:List j->List fS}{a b:Option Nat}(m:∀l,L l=l.map f)(n:es=L l)(p:∀a,(f a).num=size)(q:sub l lo hi=O k)(s:a=vX lo)(e:b=vX hi\/(b=O (I es)/\hi=(I l:Int)))(t:G P E hn r ops (i+1) (nL E hn r ops i c (.b7 (.ew (L k))) id) Q)(h:vC P hn r ops i c.1=LV size es a b c.1.heap:=by kernel_rfl):G P E hn r ops i c Q:=by
 subst n;obtain⟨⟨u,z,A⟩,rfl⟩:=MZ q;refine V3 (g:=id) (h.trans ?_) t;have v:a=O lo.toNat:=by rw[s,vX,aj u]
 have w:b=O hi.toNat:=by
  rcases e with e|⟨e,B⟩
  .rw[e,vX,aj y9]
  .rw[e,m,jZ];congr 1;omega
 have y:((l.map f).all λd=>d.num==size)=J:=by simp only[aV,j8];intro x _;simp[p x]
 subst v;subst w;simp only[LV,m,jZ,y,dA,and_true];rw[aj ⟨by omega,by omega⟩,dr,cM];rfl
end
section
variable{P:fL}{E:Env}{ow:List (Nat×TypeId)}{o:Oper}{D:fO->PV}{H:List fU}{K:PV->List fU->Prop}
theorem M8{a b q:Int}(h:zl a b=O q):b≠0/\q=W (a.tdiv b):=by
 unfold zl at h;split at h
 .cases h
 .exact⟨by assumption,(jS h).symm⟩
theorem ND{a b q:Int}(h:pz a b=O q):b≠0/\q=a.tmod b:=by
 unfold pz at h;split at h
 .cases h
 .exact⟨by assumption,(jS h).symm⟩
theorem Qiq{t c:fN}{x y:fO}{a b q:Int}(d:zl a b=O q)(e:o.op=.binOp .quo t x y c)(f:D x=Qd a)(g:D y=Qd b)(j:K (Qd q) H):jt P E ow o D H K:=by obtain⟨h0,rfl⟩:=M8 d;exact QiP e f g (ae h0) j
theorem OH{t c:fN}{x y:fO}{a b q:Int}(d:pz a b=O q)(e:o.op=.binOp .rem t x y c)(f:D x=Qd a)(g:D y=Qd b)(j:K (Qd q) H):jt P E ow o D H K:=by obtain⟨h0,rfl⟩:=ND d;exact QiP e f g (ae h0) j
theorem oy{k:Nat}{d:fS}(h:fS.fits k d=J):d.num=k:=by simp only[fS.fits,jE,bE]at h;exact h.1
end
def iM{c:Type}(l:List c)(n:Int)(y:c):Option (List c):=if 0<=n/\n.toNat<I l then O (l.set n.toNat y)else Z
def kj{c:Type}(bytes:Nat)(n:Int)(z:c):Option (List c):=if 0<=n/\n*(bytes:Int)<=(jd:Int)/\n<=9223372036854775807 then O (Nab n.toNat z)else Z
theorem gw{c:Type}{l:List c}{n:Int}{x:c}(h:idx l n=O x):n=((n.toNat:Nat):Int):=by have:=(oz h).1;omega
theorem gJ{c:Type}{l:List c}{n:Int}{x:c}(h:idx l n=O x):n.toNat<I l:=(af.1 (oz h).2).1
theorem yF{c:Type}{l l2:List c}{n:Int}{y:c}(h:iM l n y=O l2):n.toNat<I l/\l2=l.set n.toNat y:=by
 unfold iM at h;split at h
 .rename_i d;exact⟨d.2,(jS h).symm⟩
 .cases h
theorem gM{c:Type}(f:c->fS){l:List c}{n:Int}{x:c}(h:idx l n=O x):(cellsOf f l)[0+n.toNat]?=O (.b7 (f x)):=by simp only[cellsOf,zZ,jD,(oz h).2,jN]
section
variable{P:fL}{E:Env}{ow:List (Nat×TypeId)}{o:Oper}{D:fO->PV}{H:List fU}{K:PV->List fU->Prop}
theorem CZ{c:Type}{f:c->fS}(d:∀a,(f a).ez=J)(y:c):(PV.b7 (f y)).cell=J:=by
 have:=d y;cases h:f y with
 |agg cs=>rw[h]at this;cases this
 |_=>rfl
theorem Js{c:Type}(f:c->fS){l l2:List c}{n:Int}{y:c}{t e:fN}{x z:fO}{tt g:Nat}(k:iM l n y=O l2)(d:∀a,(f a).ez=J)(hn:gq P t=O 1)(m:o.op=.store t x z)(j:D x=.mp tt g (0+n.toNat))(p:H[tt]?=O (.mt e g (cellsOf f l)))(q:D z=.b7 (f y))(hw:ow=[])(r:K (.fz []) (H.set tt (.mt e g (cellsOf f l2)))):jt P E ow o D H K:=by obtain⟨s,rfl⟩:=yF k;rw[zZ]at j;refine Qih hn m j (Zt p) q (CZ d y) (by rw[iL];exact s) hw ?_ (BD f d l);rw[rB];exact r
def gb(g:Nat)(b:Bool):Nat:=if b then g else g+1
theorem TQ{d:Type}(f:d->fS){l es l2:List d}{ts e:fN}{x s:fO}{bytes tt g m:Nat}(u:app bytes l es=O l2)(w:∀a,(f a).ez=J)(j:fV P ts=O e)(k:gq P e=O 1)(n:bytesOf P e=O bytes)(p:(gB P e).map fS.num=O 1)(h0:decide (0<bytes)=J)(q:o.op=.call {callee:=.builtin .append,args:=#[s,x],argTypes:=#[ts,ts]})(c:D s=.ms tt g 0 m m)(hl:I l=m)(V:H[tt]?=O (.mt e g (cellsOf f l)))(r:kC H (D x)=O (cellsOf f es))(t:K (.ms tt (gb g es.isEmpty) 0 (I l2) (I l2)) (H.set tt (.mt e (gb g es.isEmpty) (cellsOf f l2)))):jt P E ow o D H K:=by
 subst hl;obtain⟨y,rfl⟩:=qb u;cases es with
 |nil=>
  refine QgP j k n p (of_decide_eq_true h0) q c r (v:=.ms tt g 0 (I l) (I l)) (H':=H) (by simp[ly,cellsOf]) ?_
  have z:H.set tt (.mt e g (cellsOf f l))=H:=by obtain⟨B,A⟩:=af.1 V;rw[<-A,cA]
  simpa[gb,z]using t
 |cons a es=>
  refine QgP j k n p (of_decide_eq_true h0) q c r (yd w (Zt V) (dB _) rfl y) ?_
  simpa[gb]using t
theorem QhX{w:Type}(f:w->fS){l es l2:List w}{ts e:fN}{x s:fO}{bytes tt g m size:Nat}(y:app bytes l es=O l2)(q:∀a,(f a).fits size=J)(r:es.isEmpty=U)(z:fV P ts=O e)(A:gq P e=O size)(k:decide (1<size)=J)(B:bytesOf P e=O bytes)(C:(gB P e).map fS.num=O size)(h0:decide (0<bytes)=J)(F:o.op=.call {callee:=.builtin .append,args:=#[s,x],argTypes:=#[ts,ts]})(t:D s=.ms tt g 0 m m)(hl:I l=m)(V:H[tt]?=O (.mt e g (cellsOf f l)))(n:D x=.b7 (.ew (es.map f)))(G:K (.ms tt (g+1) 0 (I l2) (I l2)) (H.set tt (.mt e (g+1) (cellsOf f l2)))):jt P E ow o D H K:=by
 subst hl;obtain⟨c,rfl⟩:=qb y;replace k:=of_decide_eq_true k;cases es with
 |nil=>cases r
 |cons a es=>
  have L:(f a).ez=U:=by have hn:=ia (q a);rw[oE hn k];rfl
  have d:((a::es).map f).all (fS.fits size)=J:=by simp only[aV,j8];intro x _;exact q x
  have j:kC H (.b7 (.ew ((a::es).map f)))=Z:=by simp[kC,kb,L]
  have u:qf H e size bytes tt g 0 (I l) (.b7 (.ew ((a::es).map f)))=O (.ms tt (g+1) 0 (I l+I (a::es)) (I l+I (a::es)),H.set tt (.mt e (g+1) (cellsOf f (l++a::es)))):=by
   simp only[qf,kb,Zt V]
   rw[aj ⟨k,d,trivial,trivial,trivial,by rw[iL],by simp,by simpa using c,by
    simp only[cellsOf,aV,j8];intro x _;have p:=ia (q x);show(!PV.flat (.b7 (f x)))=J
    cases n:f x with
    |agg cs=>rfl
    |raw v=>rw[n]at p;simp[fS.num]at p;omega
    |ew es=>rw[n]at p;simp[fS.num]at p;omega⟩]
   simp[cellsOf];rfl
  refine iJ (λcall=>?_) G
  have:gF P .append #[ts,ts] [D s,D x] H=O (.ms tt (g+1) 0 (I (l++a::es)) (I (l++a::es)),H.set tt (.mt e (g+1) (cellsOf f (l++a::es)))):=by rw[t,n];simp only[gF,z,B,j,A,C,of_decide_eq_true h0,and_self,ak,u,jW]
  simp only[gU,F,zV,aH,this]
theorem T7{t e:fN}{x d:fO}{g:Type}{l:List g}{n:Int}{v:g}{i cap m:Nat}(c:idx l n=O v)(hl:I l=m)(j:fV P t=O e)(k:gq P e=O 1)(p:o.op=.indexAddr t x d)(hi:D d=Qd n)(q:D x=.arr i 0 m cap)(r:K (.ptr i n.toNat) H):jt P E ow o D H K:=by subst hl;have s:=gJ c;have h0:=(oz c).1;have f:D d=.b7 (.raw (.int .i64 n)):=hi;refine iJ (λcall=>?_) r;simp only[gU,p,f,j,k,h0,ak,q,s,aW,zZ]
theorem QiG{c:Type}(f:c->fS){l:List c}{n:Int}{v:c}{t:fN}{x:fO}{i:Nat}(d:idx l n=O v)(e:qh P t=O U)(hn:gq P t=O 1)(g:o.op=.load t x)(j:D x=.ptr i n.toNat)(k:H[i]?=O (.box (cellsOf f l)))(m:K (.b7 (f v)) H)(hw:ow=[]:=by kernel_rfl):jt P E ow o D H K:=by
 have p:(cellsOf f l)[n.toNat]?=O (.b7 (f v)):=by have:=gM f d;rwa [zZ]at this
 refine iJ (λcall=>?_) m;simp[gU,kR,hw,g,e,hn,j,k,Gx p,je]
theorem UT{c:Type}(f:c->fS){l l2:List c}{n:Int}{y:c}{t:fN}{x z:fO}{i:Nat}(e:iM l n y=O l2)(d:∀a,(f a).ez=J)(hn:gq P t=O 1)(g:o.op=.store t x z)(j:D x=.ptr i n.toNat)(k:H[i]?=O (.box (cellsOf f l)))(m:D z=.b7 (f y))(hw:ow=[])(p:K (.fz []) (H.set i (.box (cellsOf f l2)))):jt P E ow o D H K:=by
 obtain⟨q,rfl⟩:=yF e;refine iJ (λcall=>?_) p
 have r:(PV.b7 (f y)).cells=[.b7 (f y)]:=by
  have:=d y;cases h:f y with
  |agg cs=>rw[h]at this;cases this
  |_=>rfl
 have s:rR (cellsOf f l) n.toNat [.b7 (f y)]=O (cellsOf f (l.set n.toNat y)):=by rw[<-rB,rR,aj (by rw[iL];simp;omega)];simp[List.set_eq_take_append_cons_drop,iL,q]
 simp only[gU,nw,hw,g,hn,j,k,m,r,zH,jL,bH,List.all_nil,CZ d y,dX,and_self,ak,s,jN]
theorem QiI{g:Type}(f:g->fS){z:g}{l:List g}{n:Int}{t e:fN}{j k:fO}{bytes:Nat}(d:kj bytes n z=O l)(r:fV P t=O e)(s:gB P e=O (f z))(u:gq P e=O 1)(v:bytesOf P e=O bytes)(m:(f z).ez=J)(w:o.op=.makeSlice t j k)(hl:D j=Qd n)(hc:D k=Qd n)(x:K (.arr (I H) 0 (I l) (I l)) (H++[.box (cellsOf f l)]))(hw:ow=[]:=by kernel_rfl):jt P E ow o D H K:=by
 unfold kj at d;split at d
 .rename_i p;cases d;have q:D j=.b7 (.raw (.int .i64 n)):=hl;have c:D k=.b7 (.raw (.int .i64 n)):=hc;refine iJ (λcall=>?_) x;have y:cellsOf f (Nab n.toNat z)=Nab n.toNat (.b7 (f z)):=by simp[cellsOf]
  simp only[gU,w,hw,r,s,u,v,q,c,y,zK];rw[aj ⟨p.1,aG _,p.2.1,p.2.2,m⟩]
 .cases d
def mg{c:Type}(l:List c):Nat:=if l.isEmpty then 0 else 1
theorem V1(N:Nat){g:Type}(f:g->fS){z:g}{l:List g}{n:Int}{t e:fN}{os:List (Nat×TypeId)}{j k:fO}{bytes:Nat}(d:kj bytes n z=O l)(r:fV P t=O e)(s:gB P e=O (f z))(u:gq P e=O 1)(v:bytesOf P e=O bytes)(m:(f z).ez=J)(h0:decide (0<bytes)=J)(w:o.op=.makeSlice t j k)(hl:D j=Qd n)(hc:D k=Qd n)(hw:ow=(1000,e)::os)(x:K (.ms N (mg l) 0 (I l) (I l)) (H++[.mt e (mg l) (cellsOf f l)]))(y:I H=N:=by kernel_rfl):jt P E ow o D H K:=by
 subst y;unfold kj at d;split at d
 .rename_i p;cases d;have q:D j=.b7 (.raw (.int .i64 n)):=hl;have c:D k=.b7 (.raw (.int .i64 n)):=hc;refine iJ (λcall=>?_) x;simp only[gU,w,hw,show¬8000<=1000 by omega,ai,ak,r,s,u,v,q,c,and_self,qw];rw[aj ⟨p.1,p.2.1,p.2.2,of_decide_eq_true h0,.inl ⟨trivial,m⟩⟩];by_cases hn:n=0
  .subst hn;simp[mg,cellsOf]
  .have:n.toNat≠0:=by omega
   have A:mg (Nab n.toNat z)=1:=by simp[mg,this]
   have B:cellsOf f (Nab n.toNat z)=Nab n.toNat (.b7 (f z)):=by simp[cellsOf]
   rw[ae hn,A,B,zK]
 .cases d
theorem Qh8{g:Type}(f:g->fS){z:g}{l:List g}{n:Int}{t e j e':fN}{os:List (Nat×TypeId)}{k m:fO}{bytes:Nat}(d:kj bytes n z=O l)(s:fV P t=O e)(u:gB P e=O (f z))(v:gq P e=O 1)(w:bytesOf P e=O bytes)(p:(f z).ez=J)(x:o.op=.makeSlice t k m)(hl:D k=Qd n)(hc:D m=Qd n)(hw:ow=(j,e')::os)(y:K (.b7 (.ew (l.map f))) H)(A:8000<=j:=by decide):jt P E ow o D H K:=by
 unfold kj at d;split at d
 .rename_i q;cases d;have r:D k=.b7 (.raw (.int .i64 n)):=hl;have c:D m=.b7 (.raw (.int .i64 n)):=hc;refine iJ (λcall=>?_) y;simp only[gU,x,hw,aj A,s,u,v,w,r,c,List.map_replicate];rw[aj ⟨q.1,trivial,q.2.1,q.2.2,p⟩]
 .cases d
end
section
variable{P:fL}{E:Env}{ow:List (Nat×TypeId)}{o:Oper}{D:fO->PV}{H:List fU}{K:PV->List fU->Prop}
theorem QhZ(N:Nat){d:Type}{c:d->fS}{l:List d}{f:fM}{x:fO}{args:Array Operand}{ts:Array TypeId}{first cap:Array Value}{ow':List (Nat×TypeId)}{j:Nat×TypeId}{ds:List fS}{t g cp e:Nat}{H1:List fU}(k:o.op=.call {callee:=.value x,args,argTypes:=ts})(m:D x=.b7 (.raw (.func (.func f) first cap)))(hw:ow=j::ow')(hl:(!((args.toList.map D).any PV.fx)||(cellsOf c l).all PV.plainCell)=J)(n:gR H (args.toList.map D)=O ds)(hc:PC P E f (ds.map .b7) [] (.ms t g 0 (I l) cp) H1)(V:ga H1 t=O (e,g,cellsOf c l))(p:K (.ms N 1 0 (I l) (I l)) (H++[.mt e 1 (cellsOf c l)]))(q:I H=N:=by kernel_rfl)(r:¬2000<=j.1:=by decide):jt P E ow o D H K:=by subst q;exact Qik k m hw hl n hc V p r
theorem UB(N:Nat){c:Type}(f:c->fS){z:c}{l:List c}{n:Int}{t e:fN}{g j:fO}{bytes:Nat}(k:kj bytes n z=O l)(m:fV P t=O e)(p:gB P e=O (f z))(q:gq P e=O 1)(r:bytesOf P e=O bytes)(d:(f z).ez=J)(s:o.op=.makeSlice t g j)(hl:D g=Qd n)(hc:D j=Qd n)(u:K (.arr N 0 (I l) (I l)) (H++[.box (cellsOf f l)]))(v:I H=N:=by kernel_rfl)(hw:ow=[]:=by kernel_rfl):jt P E ow o D H K:=by subst v;exact QiI f k m p q r d s hl hc u hw
end
theorem uI{H:List fU}{vs:List PV}{ds:List fS}(h:gR H vs=O ds):iq H (.fz vs)=O (.fz (ds.map .b7)):=by simp only[iq,h,jN]
theorem qM{H:List fU}{cs:List PV}{ds:List fS}(h:lz H cs=O ds):iq H (.agg cs)=O (.b7 (.agg ds)):=by simp only[iq,ja,h,jN]
theorem xE{H:List fU}{i o len cap:Nat}{d:fS}(h:gH H (.arr i o len cap)=O d):iq H (.arr i o len cap)=O (.b7 d):=by simp only[iq,ja,h,jN]
theorem Nh{H:List fU}{t g lo len cap:Nat}{d:fS}(h:gH H (.ms t g lo len cap)=O d):iq H (.ms t g lo len cap)=O (.b7 d):=by simp only[iq,ja,h,jN]
theorem ng{H:List fU}:gR H []=O []:=rfl
theorem iu{H:List fU}{v:PV}{vs:List PV}{d:fS}{ds:List fS}(c:ja H v=O d)(e:gR H vs=O ds):gR H (v::vs)=O (d::ds):=by simp only[gR,c,e]
theorem xx{H:List fU}{cs:List PV}{ds:List fS}(h:lz H cs=O ds):ja H (.agg cs)=O (.agg ds):=by simp only[ja,h,jN]
theorem FX{H:List fU}{i o len cap:Nat}{d:fS}(h:gH H (.arr i o len cap)=O d):ja H (.arr i o len cap)=O d:=h
theorem pR{H:List fU}{t g lo len cap:Nat}{d:fS}(h:gH H (.ms t g lo len cap)=O d):ja H (.ms t g lo len cap)=O d:=h
theorem mu{H:List fU}:lz H []=O []:=rfl
theorem gk{H:List fU}{v:PV}{vs:List PV}{d:fS}{ds:List fS}(c:gH H v=O d)(e:lz H vs=O ds):lz H (v::vs)=O (d::ds):=by simp only[lz,c,e]
theorem pq{H:List fU}{c:Type}(f:c->fS)(l:List c){i cap m:Nat}(hl:I l=m)(d:∀a,(f a).ez=J)(e:H[i]?=O (.box (cellsOf f l)))(hc:m<=cap:=by first|exact j7 _|assumption|omega):gH H (.arr i 0 m cap)=O (.ew (l.map f)):=by subst hl;exact Nd (cap:=cap) f d e
theorem Ms{H:List fU}{c:Type}(f:c->fS)(l:List c){t g e cap m:Nat}(hl:I l=m)(j:∀a,(f a).ez=U)(k:H[t]?=O (.mt e g (cellsOf f l))):gH H (.ms t g 0 m cap)=O (.ew (l.map f)):=by
 subst hl
 have n:cut (cellsOf f l) 0 (I l)=O (cellsOf f l):=by rw[cut,aj (by rw[iL];omega),bP,show I l=I (cellsOf f l) by rw[iL],cG]
 have p:((l.map f).all λd=>!d.ez)=J:=by simp only[aV,j8];intro x _;simp[j x]
 simp only[gH,Zt k,ak,n,zX,me,xW,p,beq_self_eq_true,bg,dA]
theorem jx{H:List fU}{c:Type}(f:c->fS)(l:List c){t g e cap m:Nat}(hl:I l=m)(d:∀a,(f a).ez=J)(j:H[t]?=O (.mt e g (cellsOf f l))):gH H (.ms t g 0 m cap)=O (.ew (l.map f)):=by
 subst hl;have:=PQ (g:=g) (t:=t) (cap:=cap) (f:=f) d (Zt j) (j7 _)
 rwa [cG]at this
section
variable{P:fL}{E:Env}{hn:Hint}{rg:Bool}{r i:Nat}{ops:Array Oper}{c:Cf}{Q:Cf->Prop}
theorem Ym{H:List fU}{b6:List PV}{c:List ResultVar}{p:PV}(vs:List PV)(h:iX P b6 H c=O vs)(d:iq H (kf vs)=O p):∃vs,iX P b6 H c=O vs/\iq H (kf vs)=O p:=⟨vs,h,d⟩
theorem KG{H:List fU}{b6:List PV}{c:List ResultVar}{p:PV}(h:((iX P b6 H c).bind λvs=>if lF H (kf vs)=J then iq H (kf vs)else Z)=O p:=by kernel_rfl):∃vs,iX P b6 H c=O vs/\iq H (kf vs)=O p/\lF H (kf vs)=J:=by
 cases d:iX P b6 H c with
 |none=>rw[d]at h;cases h
 |some vs=>
  rw[d,zX]at h;split at h
  .exact⟨vs,rfl,h,by assumption⟩
  .cases h
theorem yZ{H:List fU}{b6:List PV}{c:List ResultVar}{p:PV}(vs:List PV)(h:iX P b6 H c=O vs)(d:iq H (kf vs)=O p)(e:lF H (kf vs)=J):∃vs,iX P b6 H c=O vs/\iq H (kf vs)=O p/\lF H (kf vs)=J:=⟨vs,h,d,e⟩
theorem LH{H:List fU}{cs:List PV}(h:cs.all (mF H)=J):lF H (.agg cs)=J:=h
theorem Mg{H:List fU}:([]:List PV).all (mF H)=J:=rfl
theorem lh{H:List fU}{v:PV}{vs:List PV}(c:mF H v=J)(d:vs.all (mF H)=J):(v::vs).all (mF H)=J:=by rw[bH,c,d];rfl
theorem L7{H:List fU}{c:Type}(f:c->fS)(l:List c){i cap m:Nat}(hl:I l=m)(d:∀a,(f a).ez=J)(e:H[i]?=O (.box (cellsOf f l)))(g:∀a,(f a).kd=J:=by intro _;rfl)(hc:m<=cap:=by first|exact j7 _|assumption|omega):mF H (.arr i 0 m cap)=J:=by simp only[mF,pq f l (cap:=cap) hl d e,yj,aV,j8];intro a _;exact g a
def FF(P:fL)(E:Env)(f:fM)(ds:List fS)(p:PV):Prop:=∀args H,gR H args=O ds->PC P E f args H p H
theorem fpF{f:fM}{fn:Func}{ds:List fS}{p:PV}{c:Code}(q:fn.body=O c)(hR:R P E (E.hint f) J c ⟨en fn.ntmps (ds.map .b7),[]⟩ λe s=>(match e with|.exit _=>False|_=>True)/\∃vs,iX P s.b6 s.heap fn.results.toList=O vs/\iq s.heap (kf vs)=O p/\lF s.heap (kf vs)=J)(d:(ox P f &&((E.pa f).isNone &&E.pure f && !(E.split f &&(oH (ds.map .b7) &&J))))=J:=by kernel_rfl)(r:P.funcs[f]?=O fn:=by kernel_rfl):FF P E f ds p:=by
 intro args H g;simp only[jE,bW]at d;obtain⟨e,s,⟨N,t⟩,u,vs,m,v,w⟩:=hR;refine⟨N+1,λk x=>?_⟩;cases k with
 |zero=>omega
 |succ k=>
  have j:(E.split f &&(oH (ds.map PV.b7) &&([]:List fU).isEmpty))=U:=by cases y:E.split f<;>cases hi:oH (ds.map PV.b7)<;>simp_all
  have l:lT P E (kI P E k) k f (ds.map .b7) []=O (kf vs,s.heap):=by
   unfold lT;rw[j];simp only[j6,ai];have n:=t k k y9 y9;unfold en at n;unfold rG;simp only[r,q,n];cases e with
   |exit id=>exact u.elim
   |normal=>simp[m]
   |ret=>simp[m]
  unfold kI;simp only[d.1,d.2.1.1,d.2.1.2,aF,j6,ai,ak,g,l,v,w,dA,dK]
theorem fpo{f:fM}{ds:List fS}{p:PV}(h:FF P E f ds p)(H:List fU):PC P E f (ds.map .b7) H p H:=h _ H (qC _ _)
theorem Qii{f:fM}{ds:List fS}{args:List PV}{p:PV}(hc:FF P E f ds p)(d:gR c.1.heap args=O ds)(e:G P E hn r ops (i+1) (nL E hn r ops i c p id) Q)(h:s9 hn r ops i c.1=O (f,args):=by kernel_rfl):G P E hn r ops i c Q:=Wl (g:=id) (hc _ _ d) h e
theorem Qh9{f:fM}{ds:List fS}{args:List PV}{p:PV}{H0 d:List fU}(hc:PC P E f (ds.map .b7) H0 p d)(e:gR c.1.heap args=O ds)(k:G P E hn r ops (i+1) (nL E hn r ops i c p id) Q)(j:(E.pure f &&(E.pa f).isNone)=J:=by kernel_rfl)(h:s9 hn r ops i c.1=O (f,args):=by kernel_rfl)(hl:rp args p=J:=by kernel_rfl):G P E hn r ops i c Q:=by simp only[jE,bW]at j;refine Wl (g:=id) (Iz j.2 j.1 hc e (λl=>?_)) h k;simp only[rp,l,aF,cL]at hl;exact hl
theorem kX{fl:Bool}{c:Type}(f:c->fS)(H:List fU)(h0:Nat)(l:List c):gv fl H h0 (.box (cellsOf f l))=.box (cellsOf f l):=Kl f H h0 l
theorem gD{fl:Bool}{H:List fU}{h0:Nat}:([]:List fU).map (gv fl H h0)=[]:=rfl
theorem fR{fl:Bool}{H:List fU}{h0:Nat}{b b':fU}{bs c:List fU}(d:gv fl H h0 b=b')(e:bs.map (gv fl H h0)=c):(b::bs).map (gv fl H h0)=b'::c:=by rw[zV,d,e]
theorem fZ{st:St}{h0:Nat}{ey:Option (List Nat)}{ks:List Nat}{H':List fU}{c:List PV}(bs:List fU)(d:∀H,bs.map (gv (Ob ks) H h0)=H')(e:ey=O ks)(f:st.heap.take h0=bs:=by kernel_rfl)(g:sG (Ob ks) st.heap h0 ks 0 st.b6=c:=by kernel_rfl):jz h0 ey st=⟨c,H'⟩:=by rw[Gk e,f,d,g]
theorem Dt{a b:Bool}(h:b=J):(a||b)=J:=by rw[h,dA]
end
section
variable{P:fL}{E:Env}{hn:Hint}{r i:Nat}{ops:Array Oper}{c:Cf}{Q:Cf->Prop}
end
section
variable{P:fL}{E:Env}{ow:List (Nat×TypeId)}{o:Oper}{D:fO->PV}{H:List fU}{K:PV->List fU->Prop}
theorem uA{H:List fU}:gy H []=O ([],H):=rfl
theorem jr{H H':List fU}{d:fS}{cs:List PV}{ds:List fS}(h:gy H cs=O (ds,H')):gy H (.b7 d::cs)=O (d::ds,H'):=by simp only[gy,iw,h]
theorem sJ{d:Type}(f:d->fS){l:List d}{H H':List fU}{t e g n cap:Nat}{cs:List PV}{ds:List fS}(m:∀a,(f a).ez=J)(j:H[t]?=O (.mt e g (cellsOf f l)))(hl:I l=n)(h:gy (H.set t (.mt e (g+1) [])) cs=O (ds,H')):
  gy H (.ms t g 0 n cap::cs)=O (.ew (l.map f)::ds,H'):=by
 subst hl;have V:ga H t=O (e,g,cellsOf f l):=by simp[ga,j,fU.ga]
 have p:gH H (.ms t g 0 (I l) cap)=O (.ew (l.map f)):=by
  simp only[gH,V,ak]
  have k:cut (cellsOf f l) 0 (I l)=O (cellsOf f l):=by
   have c:I (cellsOf f l)=I l:=by simp[cellsOf]
   simp only[cut,c,zZ,j7,ak,bP];rw[bk (by rw[c];exact j7 _)]
  have q:iG (cellsOf f l)=O (l.map f):=by
   unfold cellsOf;clear k V j h;induction l with
   |nil=>rfl
   |cons a l r=>simp only[zV,iG,r,jN]
  have s:xW 0 (l.map f)=J:=by simp only[xW,zT];left;rw[aV,j8];exact λa _=>m a
  simp only[k,q,zX,s,ak]
 simp only[gy,iw,p,V,h]
theorem SP{H H':List fU}{t:Nat}{es:List fS}{cs:List PV}{ds:List fS}(h:gy H cs=O (ds,H')):gy H (.vec t es::cs)=O (.ew es::ds,H'):=by simp only[gy,iw,h]
theorem T2{t:fN}{x:fO}{n i off:Nat}{j:Nat×TypeId}{ow':List (Nat×TypeId)}{bs cs:List PV}{ds:List fS}{H':List fU}(d:o.op=.load t x)(hw:ow=j::ow')(e:qh P t=O J)(hn:gq P t=O n)(f:D x=.ptr i off)(g:H[i]?=O (.box bs))(hc:cut bs off n=O cs)(V:ls cs=.agg cs)(c:gy H cs=O (ds,H'))(k:K (.b7 (.agg ds)) H'):jt P E ow o D H K:=by
 refine iJ (λcall=>?_) k;have l:kR P t (D x) H=O (.agg cs,H):=by simp only[kR,e,hn,f,g,hc,zX,je,ak,V,jN]
 obtain⟨m,p⟩:=j;simp only[gU,d,hw,l,c,jN]
end
theorem Ko{P:fL}{b6:List PV}{H c:List fU}{d:List ResultVar}{p:PV}(h:(iX P b6 H d).map kf=O p)(e:c++H.drop (I c)=H):∃X,∃vs,iX P b6 H d=O vs/\p=kf vs/\c++X=H:=I5 _ h e
theorem kr{p:Prop}(h:p:=by kernel_rfl):p:=h
theorem zf{p:Prop}(h:p:=by
 first|obtain rfl:=vz V|obtain⟨rfl,rfl⟩:=Qi2 V|obtain⟨rfl,rfl,rfl⟩:=To V|obtain⟨rfl,rfl,rfl,rfl⟩:=Qi3 V|obtain⟨rfl,rfl,rfl,rfl,rfl,rfl⟩:=Qi4 V|obtain⟨rfl,rfl,rfl,rfl,rfl,rfl,rfl,rfl,rfl,rfl,rfl,rfl,rfl,rfl,rfl⟩:=inj15 V|skip
 first|exact⟨trivial,Qix⟩|exact⟨trivial,KG⟩|exact⟨rfl,QhO⟩|exact QhO|exact hJ _ _|exact⟨trivial,RQ (by kernel_rfl) (by kernel_rfl)⟩|exact⟨trivial,Ko (by kernel_rfl) (by kernel_rfl)⟩):p:=h
theorem bi{c e:Type}{x:Option c}{f:c->Option e}{r:e}{P:Prop}(h:(x>>=f)=O r)(k:∀d,x=O d->f d=O r->P):P:=by obtain⟨d,g,j⟩:=Yf h;exact k d g j
theorem sB{c d j:Type}{x:Option (c×d)}{f:(c×d)->Option j}{r:j}{P:Prop}(h:(x>>=f)=O r)(k:∀e g,x=O (e,g)->f (e,g)=O r->P):P:=by obtain⟨⟨e,g⟩,l,m⟩:=Yf h;exact k e g l m
theorem N9{c d e m:Type}{x:Option (c×d×e)}{f:(c×d×e)->Option m}{r:m}{P:Prop}(h:(x>>=f)=O r)(k:∀g j l,x=O (g,j,l)->f (g,j,l)=O r->P):P:=by obtain⟨⟨g,j,l⟩,n,p⟩:=Yf h;exact k g j l n p
theorem bi4{c d e g p:Type}{x:Option (c×d×e×g)}{f:(c×d×e×g)->Option p}{r:p}{P:Prop}(h:(x>>=f)=O r)(k:∀j l m n,x=O (j,l,m,n)->f (j,l,m,n)=O r->P):P:=by obtain⟨⟨j,l,m,n⟩,q,s⟩:=Yf h;exact k j l m n q s
theorem Uo{c d e g j l u:Type}{x:Option (c×d×e×g×j×l)}{f:(c×d×e×g×j×l)->Option u}{r:u}{P:Prop}(h:(x>>=f)=O r)(k:∀m n p q s t,x=O (m,n,p,q,s,t)->f (m,n,p,q,s,t)=O r->P):P:=by obtain⟨⟨m,n,p,q,s,t⟩,v,w⟩:=Yf h;exact k m n p q s t v w
theorem bs{d c e:Type}{x:Option (d⊕ c)}{f:d⊕ c->Option e}{r:e}{P:Prop}(h:(x>>=f)=O r)(k1:∀a,x=O (.inl a)->f (.inl a)=O r->P)(k2:∀a,x=O (.inr a)->f (.inr a)=O r->P):P:=by
 obtain⟨a,g,j⟩:=Yf h;cases a with
 |inl a=>exact k1 a g j
 |inr a=>exact k2 a g j
theorem gi{p:Prop}[Decidable p]{c:Type}{f:Unit->Option c}{r:c}{P:Prop}(h:(QN p>>=f)=O r)(k:p->f ()=O r->P):P:=by obtain⟨_,d,e⟩:=Yf h;exact k (Qhu d) e
def FP(P:fL)(E:Env)(f:fM)(ds:List fS)(p:PV):Prop:=∀H,PC P E f (ds.map .b7) H p H
def P1{A:Type}(c:Ex)(f:A->List PV->St)(a:A)(e:Ex)(s:St):Prop:=e=c/\∃d,s=f a d
def P2{A B:Type}(c:Ex)(d:A->List PV->St)(e:Ex)(f:B->List PV->St):A⊕ B->Ex->St->Prop
 |.inl a=>P1 c d a
 |.inr b=>P1 e f b
def P3{A B C:Type}(c:Ex)(d:A->List PV->St)(e:Ex)(f:B->List PV->St)(g:Ex)(j:C->List PV->St):A⊕ B⊕ C->Ex->St->Prop
 |.inl a=>P1 c d a
 |.inr b=>P2 e f g j b
def LP(P:fL)(E:Env)(f:Func)(n:Nat)(path:List Nat)(h0:Nat)(C:St)(post:Ex->St->Prop):Prop:=
 ∀st,jz h0 ((Zc (BP path (FY f))).bind (E.hint n).i7) st=C->RL P E (E.hint n) J (BP path (FY f)) h0 st post
section
variable{P:fL}{E:Env}{f:Func}{n:Nat}{path:List Nat}{h0:Nat}{C:St}{post Q:Ex->St->Prop}{b:Code}{st:St}
theorem lp(k:R P E (E.hint n) J (BP path (FY f)) C λe s=>match e with|.normal=>RL P E (E.hint n) J (BP path (FY f)) h0 s post|e=>post e s):LP P E f n path h0 C post:=λ_ h=>oU h k
theorem ru{post:Ex->St->Prop}(w:LP P E f n path h0 C post)(after:∀e s,post e s->Q e s)(hst:jz h0 ((Zc (BP path (FY f))).bind (E.hint n).i7) st=C)(c:b=BP path (FY f))(d:I st.heap=h0):R P E (E.hint n) J (.loop b) st Q:=
 SF (Tr w hst after c d)
theorem kY{A c:Type}{m:Option A}{k:A->Option c}{r:c}{g:Ex}{j:A->List PV->St}(V:(m>>=k)=O r)(w:∀o,m=O o->LP P E f n path h0 C (P1 g j o))(k1:∀a d,k a=O r->Q g (j a d))(hst:jz h0 ((Zc (BP path (FY f))).bind (E.hint n).i7) st=C:=by kernel_rfl)(l:b=BP path (FY f):=by kernel_rfl)(p:I st.heap=h0:=by kernel_rfl):R P E (E.hint n) J (.loop b) st Q:=by obtain⟨o,q,t⟩:=Yf V;refine ru (w o q) (λe s h=>?_) hst l p;obtain⟨rfl,d,rfl⟩:=h;exact k1 o d t
theorem pG{A B c:Type}{m:Option (A⊕ B)}{k:A⊕ B->Option c}{r:c}{g j:Ex}{l:A->List PV->St}{p:B->List PV->St}(V:(m>>=k)=O r)(w:∀o,m=O o->LP P E f n path h0 C (P2 g l j p o))(k1:∀a d,k (.inl a)=O r->Q g (l a d))(k2:∀a d,k (.inr a)=O r->Q j (p a d))(hst:jz h0 ((Zc (BP path (FY f))).bind (E.hint n).i7) st=C:=by kernel_rfl)(t:b=BP path (FY f):=by kernel_rfl)(u:I st.heap=h0:=by kernel_rfl):R P E (E.hint n) J (.loop b) st Q:=by
 obtain⟨o,v,q⟩:=Yf V;refine ru (w o v) (λe s h=>?_) hst t u;cases o with
 |inl a=>obtain⟨rfl,d,rfl⟩:=h;exact k1 a d q
 |inr a=>obtain⟨rfl,d,rfl⟩:=h;exact k2 a d q
theorem ru3{A B D g:Type}{m:Option (A⊕ B⊕ D)}{k:A⊕ B⊕ D->Option g}{r:g}{j l p:Ex}{q:A->List PV->St}{t:B->List PV->St}{u:D->List PV->St}(V:(m>>=k)=O r)(w:∀o,m=O o->LP P E f n path h0 C (P3 j q l t p u o))(k1:∀a d,k (.inl a)=O r->Q j (q a d))(k2:∀a d,k (.inr (.inl a))=O r->Q l (t a d))(k3:∀a d,k (.inr (.inr a))=O r->Q p (u a d))(hst:jz h0 ((Zc (BP path (FY f))).bind (E.hint n).i7) st=C:=by kernel_rfl)(v:b=BP path (FY f):=by kernel_rfl)(x:I st.heap=h0:=by kernel_rfl):R P E (E.hint n) J (.loop b) st Q:=by
 obtain⟨o,y,c⟩:=Yf V;refine ru (w o y) (λe s h=>?_) hst v x;rcases o with a|a|a
 .obtain⟨rfl,d,rfl⟩:=h;exact k1 a d c
 .obtain⟨rfl,d,rfl⟩:=h;exact k2 a d c
 .obtain⟨rfl,d,rfl⟩:=h;exact k3 a d c
end
section
variable{P:fL}{E:Env}{hn:Hint}{rg:Bool}{r i:Nat}{ops:Array Oper}{c:Cf}{Q:Cf->Prop}{b:Code}{st:St}{QQ:Ex->St->Prop}
theorem fp{f:fM}{fn:Func}{ds:List fS}{p:PV}{c:Code}(d:fn.body=O c)(hR:R P E (E.hint f) J c ⟨en fn.ntmps (ds.map .b7),[]⟩ λe s=>(match e with|.exit _=>False|_=>True)/\∃vs,iX P s.b6 s.heap fn.results.toList=O vs/\iq s.heap (kf vs)=O p)(g:(ox P f &&((E.pa f).isNone &&E.pure f && !(E.split f &&(oH (ds.map .b7) &&J))))=J:=by kernel_rfl)(j:P.funcs[f]?=O fn:=by kernel_rfl)(hl:rp (ds.map .b7) p=J:=by kernel_rfl):FP P E f ds p:=
 λ_=>sF d hR g j hl
theorem cp{f:fM}{ds:List fS}{p:PV}(hc:FP P E f ds p)(d:G P E hn r ops (i+1) (nL E hn r ops i c p id) Q)(e:(E.pure f &&(E.pa f).isNone)=J:=by kernel_rfl)(h:B2 hn r ops i c.1 p=O (f,ds):=by kernel_rfl):G P E hn r ops i c Q:=XF (hc []) d e h
theorem re(k:Nat)(d:Q (NJ P E hn r ops i k c))(h:(KO P E hn r ops i k c.1).isSome=J:=by kernel_rfl)(hl:decide (i+k<=ops.size)=J:=by kernel_rfl)(e:decide (i+k=ops.size)=J:=by kernel_rfl):G P E hn r ops i c Q:=
 Qe k (Q6 d e) h hl
theorem gr{a:Code}(k:Nat)(e:G P E hn r ops (0+k) (NJ P E hn r ops 0 k (st,[])) (λc=>R P E hn rg a c.1 QQ))(h:(KO P E hn r ops 0 k st).isSome=J:=by kernel_rfl)(hl:decide (0+k<=ops.size)=J:=by kernel_rfl)(d:hn.ph r=Z:=by kernel_rfl):
  R P E hn rg (.seq (.region r ops U) a) st QQ:=Qh (gp (Qe k e h hl) d)
theorem ge{a:Code}(k:Nat)(d:R P E hn rg a (NJ P E hn r ops 0 k (st,[])).1 QQ)(h:(KO P E hn r ops 0 k st).isSome=J:=by kernel_rfl)(hl:decide (0+k<=ops.size)=J:=by kernel_rfl)(e:decide (0+k=ops.size)=J:=by kernel_rfl)(c:hn.ph r=Z:=by kernel_rfl):
  R P E hn rg (.seq (.region r ops U) a) st QQ:=Qh (gp (Qe k (Q6 d e) h hl) c)
def F8(hn:Hint)(r:Nat)(ops:Array Oper)(i:Nat)(st:St):Option (FuncId×List PV):=
 match ops[i]? with
 |some o=>if gI ops st.b6 o=O J then
   (match o.op with
    |.call c=>match c.callee,hn.gz r i with
     |.value x,j::_=>match ev st.b6 x with
      |.b7 (.raw (.func (.func f) _ _))=>if j.1<2000 then O (f,c.args.toList.map (ev st.b6))else Z
      |_=>Z
     |_,_=>Z
    |_=>Z)else Z
 |none=>Z
theorem gol{s:Type}(N e:Nat)(k:s->fS){l:List s}{f:fM}{args:List PV}{ds:List fS}{t g cp:Nat}{H1:List fU}(hc:PC P E f (ds.map .b7) [] (.ms t g 0 (I l) cp) H1)(V:ga H1 t=O (e,g,cellsOf k l))(u:gR c.1.heap args=O ds)(hl:(!(args.any PV.fx)||(cellsOf k l).all PV.plainCell)=J)(v:G P E hn r ops (i+1) (nL E hn r ops i c (.ms N 1 0 (I l) (I l)) (λH=>H++[.mt e 1 (cellsOf k l)])) Q)(h:F8 hn r ops i c.1=O (f,args):=by kernel_rfl)(w:I c.1.heap=N:=by kernel_rfl):G P E hn r ops i c Q:=by
 simp only[F8]at h;cases m:ops[i]? with
 |none=>rw[m]at h;cases h
 |some o=>
  rw[m]at h;simp only at h;by_cases hw:gI ops c.1.b6 o=O J
  .rw[aj hw]at h;split at h
   .rename_i n p;split at h
    .rename_i x j ow' d q;split at h
     .rename_i g' a b y;split at h
      .rename_i z;cases h;refine Qit m hw ?_;rw[q];refine QhZ N (x:=x) (args:=n.args) (ts:=n.argTypes) ?_ y rfl hl u hc V v w y9;rw[p];cases n;simp only at d;rw[d]
      .cases h
     .cases h
    .cases h
   .cases h
  .rw[ae hw]at h;cases h
def N3(hn:Hint)(r:Nat)(ops:Array Oper)(i:Nat)(st:St):Option (FuncId×List fS):=
 match F8 hn r ops i st with
 |some (f,args)=>if args.any PV.fx then Z else(gR st.heap args).map λds=>(f,ds)
 |none=>Z
theorem go{m:Type}(N e:Nat)(j:m->fS){l:List m}{f:fM}{ds:List fS}{t g cp:Nat}{H1:List fU}(hc:PC P E f (ds.map .b7) [] (.ms t g 0 (I l) cp) H1)(n:G P E hn r ops (i+1) (nL E hn r ops i c (.ms N 1 0 (I l) (I l)) (λH=>H++[.mt e 1 (cellsOf j l)])) Q)(V:ga H1 t=O (e,g,cellsOf j l):=by exact Zt (by kernel_rfl))(h:N3 hn r ops i c.1=O (f,ds):=by kernel_rfl)(p:I c.1.heap=N:=by kernel_rfl):G P E hn r ops i c Q:=by
 simp only[N3]at h;split at h
 .rename_i s args q;split at h
  .cases h
  .rename_i hl;cases k:gR c.1.heap args with
   |none=>rw[k]at h;cases h
   |some d=>rw[k]at h;cases h;exact gol N e j hc V k (by simp[hl]) n q p
 .cases h
theorem ri{x:fO}{p:Prop}[Decidable p]{d:Type}{e f:Option d}{c:d}{a b:Code}(V:(if p then e else f)=O c)(g:e=O c->R P E hn rg a st QQ)(j:f=O c->R P E hn rg b st QQ)(k:ev st.b6 x=Qp (decide p):=by kernel_rfl):R P E hn rg (.cond x a b) st QQ:=TI V rfl g j k
theorem gs{p:Prop}[Decidable p]{e:Type}{f g:Option e}{d:e}(j:Nat)(V:(if p then f else g)=O d)(k:f=O d->G P E hn r ops i (sy c j J) Q)(l:g=O d->G P E hn r ops i (sy c j U) Q)(m:c.1.b6[j]?=O (Qp (decide p)):=by kernel_rfl):G P E hn r ops i c Q:=UX j V rfl k l m
theorem lf{x:fO}{q:Bool}{d:Type}{e f:Option d}{c:d}{a b:Code}(V:(if q=J then e else f)=O c)(g:e=O c->R P E hn rg a st QQ)(j:f=O c->R P E hn rg b st QQ)(k:ev st.b6 x=Qp q:=by kernel_rfl):R P E hn rg (.cond x a b) st QQ:=TI V (QhN _) g j k
theorem lJ{q:Bool}{e:Type}{f g:Option e}{d:e}(j:Nat)(V:(if q=J then f else g)=O d)(k:f=O d->G P E hn r ops i (sy c j J) Q)(l:g=O d->G P E hn r ops i (sy c j U) Q)(m:c.1.b6[j]?=O (Qp q):=by kernel_rfl):G P E hn r ops i c Q:=UX j V (QhN _) k l m
theorem zb{x:fO}{q:Bool}{d:Type}{e f:Option d}{c:d}{a b:Code}(V:(if q=U then e else f)=O c)(g:e=O c->R P E hn rg a st QQ)(j:f=O c->R P E hn rg b st QQ)(k:ev st.b6 x=Qp (!q):=by kernel_rfl):R P E hn rg (.cond x a b) st QQ:=TI V (Qhx _) g j k
theorem RH{q:Bool}{e:Type}{f g:Option e}{d:e}(j:Nat)(V:(if q=U then f else g)=O d)(k:f=O d->G P E hn r ops i (sy c j J) Q)(l:g=O d->G P E hn r ops i (sy c j U) Q)(m:c.1.b6[j]?=O (Qp (!q)):=by kernel_rfl):G P E hn r ops i c Q:=UX j V (Qhx _) k l m
theorem mQ{x:fO}{d:Type}[DecidableEq d]{y z:d}{e:Type}{f g:Option e}{c:e}{a b:Code}(V:(if y=z then f else g)=O c)(j:f=O c->R P E hn rg a st QQ)(k:g=O c->R P E hn rg b st QQ)(l:ev st.b6 x=Qp (y==z):=by kernel_rfl):R P E hn rg (.cond x a b) st QQ:=TI V (Qiw _ _) j k l
theorem Ba{e:Type}[DecidableEq e]{y z:e}{f:Type}{g k:Option f}{d:f}(j:Nat)(V:(if y=z then g else k)=O d)(l:g=O d->G P E hn r ops i (sy c j J) Q)(m:k=O d->G P E hn r ops i (sy c j U) Q)(n:c.1.b6[j]?=O (Qp (y==z)):=by kernel_rfl):G P E hn r ops i c Q:=UX j V (Qiw _ _) l m n
theorem zz{x:fO}{d:Type}[DecidableEq d]{y z:d}{e:Type}{f g:Option e}{c:e}{a b:Code}(V:(if y≠z then f else g)=O c)(j:f=O c->R P E hn rg a st QQ)(k:g=O c->R P E hn rg b st QQ)(l:ev st.b6 x=Qp (y !=z):=by kernel_rfl):R P E hn rg (.cond x a b) st QQ:=TI V (NO _ _) j k l
theorem KP{e:Type}[DecidableEq e]{y z:e}{f:Type}{g k:Option f}{d:f}(j:Nat)(V:(if y≠z then g else k)=O d)(l:g=O d->G P E hn r ops i (sy c j J) Q)(m:k=O d->G P E hn r ops i (sy c j U) Q)(n:c.1.b6[j]?=O (Qp (y !=z)):=by kernel_rfl):G P E hn r ops i c Q:=UX j V (NO _ _) l m n
theorem QE{d e:Type}{l:List d}{n:Int}{k:d->Option e}{g:e}(size:Nat)(f:d->fS)(V:(idx l n>>=k)=O g)(j:∀x,k x=O g->G P E hn r ops (i+1) (nL E hn r ops i c (.eI (f x).cells) id) Q)(m:∀x,(f x).num=size:=by intro _;rfl)(h:vC P hn r ops i c.1=O1 size (l.map f) n c.1.heap:=by kernel_rfl):G P E hn r ops i c Q:=Sv size f V rfl m j h
theorem QM{d:Type}(f:d->fS)(l:List d)(e:G P E hn r ops (i+1) (nL E hn r ops i c (Qd (I l:Int)) id) Q)(h:EX P hn r ops i c.1=Vb (I (l.map f)) c.1.heap:=by kernel_rfl):G P E hn r ops i c Q:=Ff f l rfl e h
end
section
variable{P:fL}{E:Env}{hn:Hint}{rg:Bool}{r i:Nat}{ops:Array Oper}{fl:List (Nat×List Nat)}{st:St}{Q:St->Prop}{o:Oper}{D:fO->PV}{H:List fU}{K:PV->List fU->Prop}{ow:List (Nat×TypeId)}
def GF(P:fL)(E:Env)(hn:Hint)(r:Nat)(ops:Array Oper)(fl:List (Nat×List Nat))(i:Nat)(st:St)(Q:St->Prop):Prop:=
 ∃s,(∃N,∀k,N<=k->lQ P (kI P E k) hn r ops fl i (ops.toList.drop i) st=O s)/\Q s
theorem Vj(fl:List (Nat×List Nat)){d:Ex->St->Prop}(h:GF P E hn r ops fl 0 st (d .normal))(c:hn.ph r=O fl:=by kernel_rfl):R P E hn rg (.region r ops U) st d:=by
 obtain⟨s,⟨N,e⟩,f⟩:=h;refine⟨_,s,⟨N+1,λk n g hn=>?_⟩,f⟩;cases n with
 |zero=>omega
 |succ n=>
  have:=e k y9;rw[bP]at this;simp only[gC,c,this,jN]
theorem yG(h:Q st)(c:decide (i=ops.size)=J:=by kernel_rfl):GF P E hn r ops fl i st Q:=by have:=of_decide_eq_true c;subst this;exact⟨st,⟨0,λk _=>by rw[show ops.toList.drop ops.size=[] by simp];rfl⟩,h⟩
theorem vA{o:Oper}{l:List Nat}{v:PV}{H':List fU}(d:ops[i]?=O o)(e:(fl.find? λx=>x.1==i).map (·.2)=O l)(f:o.guard=Z)(g:kJ P l o (ev st.b6) st.heap=O (v,H'))(c:GF P E hn r ops fl (i+1) ⟨mH st.b6 o.dst v,H'⟩ Q):GF P E hn r ops fl i st Q:=by obtain⟨s,⟨N,j⟩,m⟩:=c;refine⟨s,⟨N,λk c=>?_⟩,m⟩;rw[tr d];simp only[lQ,pQ,e,f,g,jN];exact j k c
def Uz(fl:List (Nat×List Nat))(i j:Nat):Bool:=(Nad (j - i)).all λx=>((fl.find? λy=>y.1==i+x).map (·.2)).isNone
theorem O0{j k:Nat}(h:Uz fl i j=J)(c:i<=k)(d:k<j):(fl.find? λy=>y.1==k).map (·.2)=Z:=by
 have:=an.1 h (k - i) (ck.2 y9);rw[show i+(k - i)=k by omega]at this
 simpa using this
theorem E6{call:gO}{ops ops':Array Oper}{k:Nat}{o:Oper}(c:o.guard=Z):iW P call hn r ops k o st=iW P call hn r ops' k o st:=by simp only[iW,gI,c]
theorem vR{call:gO}{pf:fM->Bool}{ops':Array Oper}:∀(a b:List Oper) (i:Nat) (st c:St) (f:List Nat),(∀o∈a,o.guard=Z)->(∀k,i<=k->k<i+I a->(fl.find? λy=>y.1==k).map (·.2)=Z)->
  ib P call pf hn r ops' i a st=O (c,f)->lQ P call hn r ops fl i (a++b) st=lQ P call hn r ops fl (i+I a) b c
 |[],b,i,st,c,f,_,_,h=>by simp only[ib,j9,jI]at h;obtain⟨rfl,rfl⟩:=h;rfl
 |o::a,b,i,st,c,f,l,m,h=>by
  simp only[ib]at h;simp only[aN,lQ,pQ,m i (j7 _) yB];rw[E6 (ops':=ops') (l o yB)];cases e:iW P call hn r ops' i o st with
  |none=>rw[e]at h;cases h
  |some d=>
   rw[e]at h;simp only at h |-;cases g:ib P call pf hn r ops' (i+1) a d with
   |none=>rw[g]at h;cases h
   |some x=>
    obtain⟨j,n⟩:=x;rw[g]at h;simp only[j9,jI]at h;obtain⟨rfl,rfl⟩:=h;rw[vR (ops':=ops') a b (i+1) d j n (λo e=>l o (jG _ e)) (λk p q=>m k y9 yA) g,show i+1+I a=i+I (o::a) by simp;omega]
theorem qL(j:Nat)(h:G P E hn r (ops.toList.take j).toArray i (st,[]) λc=>GF P E hn r ops fl j c.1 Q)(hl:(decide (i<=j) &&decide (j<=ops.size) &&Uz fl i j &&ops.toList.all (λo=>o.guard.isNone))=J:=by kernel_rfl):GF P E hn r ops fl i st Q:=by
 simp only[jE,zE]at hl;obtain⟨⟨⟨h0,u⟩,l⟩,m⟩:=hl;obtain⟨s,f,⟨N,g1⟩,s',⟨N',n⟩,p⟩:=h;refine⟨s',⟨max N N',λk v=>?_⟩,p⟩;have g:=g1 k y9
 change ib _ _ _ _ _ _ i ((ops.toList.take j).drop i) _=_ at g
 have d:I ((ops.toList.take j).drop i)=j - i:=by simp;omega
 have e:ops.toList.drop i=(ops.toList.take j).drop i++ops.toList.drop j:=by
  rw[List.drop_take]
  have:ops.toList.drop j=(ops.toList.drop i).drop (j - i):=by rw[cV];congr 1;omega
  rw[this,y8]
 rw[e,vR _ _ _ _ _ _ (λo q=>by
   have:=an.1 m o (zS (cZ q))
   simpa using this) (λk t w=>O0 l t y9) g,d,show i+(j - i)=j by omega]
 exact n k y9
section
variable{α:Type}{f:α->fS}{sh:α->fJ->α}{q h g n size:Nat}{L out:List α}{p:α}{hi:fJ}
def Nz(f:α->fS)(q h g n:Nat)(p:α):List PV:=((f p).cells.map .b7).set q (.ms h g 0 n n)
def Aa(f:α->fS)(L:List α):List PV:=L.flatMap λp=>(f p).cells.map .b7
def rT(f:α->fS)(q h g n:Nat):List α->List PV
 |[]=>[]
 |[p]=>Nz f q h g n p
 |p::c::r=>(f p).cells.map .b7++rT f q h g n (c::r)
def th(sh:α->fJ->α):List α->fJ->List α
 |[],_=>[]
 |[p],hi=>[sh p hi]
 |p::c::r,hi=>p::th sh (c::r) hi
theorem nY:∀L:List α,rT f q h g n (L++[p])=Aa f L++Nz f q h g n p
 |[]=>by simp[rT,Aa]
 |[a]=>by simp[rT,Aa]
 |a::b::r=>by have c:=nY (b::r);simp only[aN]at c |-;rw[rT,c];simp[Aa,ay]
theorem xX:∀L:List α,th sh (L++[p]) hi=L++[sh p hi]
 |[]=>by simp[th]
 |[a]=>by simp[th]
 |a::b::r=>by have c:=xX (b::r);simp only[aN]at c |-;rw[th,c]
theorem qF:∀out:List α,I (th sh out hi)=I out
 |[]=>rfl
 |[_]=>rfl
 |a::b::r=>by rw[th,zH,qF (b::r)];rfl
theorem ql(out:List α):out=[]\/∃L p,out=L++[p]:=by
 rcases bU out with h|⟨L,p,h⟩
 .exact .inl h
 .exact .inr ⟨L,p,by rw[h];simp⟩
theorem oJ(c:∀a,(f a).fits size=J)(a:α):(f a).cells.length=size:=by rw[<-fS.im];exact ia (c a)
theorem rY(c:∀a,(f a).fits size=J):∀L:List α,I (Aa f L)=I L*size
 |[]=>by simp[Aa]
 |a::L=>by have d:=rY c L;simp only[Aa,aI,jW,jZ,oJ c]at d |-;rw[d,zH,av,bA,fF]
theorem Ac(c:∀a,(f a).fits size=J)(a:α):(f a).cells.all fS.ez=J:=by have:=c a;simp only[fS.fits,jE]at this;exact this.2
theorem Be{d:fS}(h:d.ez=J):(PV.b7 d).cell=J:=by cases d<;>first|rfl|(simp[fS.ez]at h)
theorem CQ(e:∀a,(f a).fits size=J)(L:List α):(Aa f L).all PV.cell=J:=by rw[j8];intro x c;simp only[Aa,bJ,aq]at c;obtain⟨a,_,d,g,rfl⟩:=c;exact Be (an.1 (Ac e a) d g)
theorem C3(e:∀a,(f a).fits size=J)(p:α):(Nz f q h g n p).all PV.cell=J:=by
 rw[j8];intro x c;rcases dj c with c|rfl
 .obtain⟨d,j,rfl⟩:=aq.1 c;exact Be (an.1 (Ac e p) d j)
 .rfl
theorem Mv(c:∀a,(f a).fits size=J)(out:List α):(rT f q h g n out).all PV.cell=J:=by
 rcases ql out with rfl|⟨L,p,rfl⟩
 .rfl
 .rw[nY,zR,CQ c,C3 c];rfl
theorem P8(c:∀a,(f a).fits size=J)(d:q<size)(h0:0<I out):(rT f q h g n out)[(I out - 1)*size+q]?=O (.ms h g 0 n n):=by
 rcases ql out with rfl|⟨L,p,rfl⟩
 .simp at h0
 .rw[nY,jW,bz,Nat.add_sub_cancel,zO (by rw[rY c];omega),rY c,Nat.add_sub_cancel_left];simp[Nz,oJ c,d]
theorem nM{H:List fU}{cs:List PV}:∀ds:List fS,gy H (ds.map .b7++cs)=(gy H cs).map λx=>(ds++x.1,x.2)
 |[]=>by simp only[aH,jQ];cases gy H cs<;>rfl
 |d::ds=>by simp only[zV,aN,gy,iw];rw[nM ds];cases gy H cs<;>rfl
theorem qc(L:List α):Aa f L=(L.flatMap λp=>(f p).cells).map .b7:=by
 induction L with
 |nil=>rfl
 |cons a L c=>simp only[Aa,aI,zM]at c |-;rw[c]
theorem sb{c:Type}:∀(l:List c) (k:Nat) (x:c),k<I l->l.set k x=l.take k++x::l.drop (k+1)
 |[],k,x,h=>by simp at h
 |a::l,0,x,h=>by simp
 |a::l,k+1,x,h=>by simp[sb l k x (by simpa using h)]
def Od(g:Nat)(out:List α):Nat:=if out.isEmpty then g else g+1
def V0(hi:fJ)(out:List α):fJ:=if out.isEmpty then hi else[]
theorem Ho{ei te g0 g1:Nat}{rest:List fU}(g:∀a,(f a).fits size=J)(r:q<size)(j:∀p hi,(f (sh p hi)).cells=(f p).cells.set q (.ew (hi.map Qg)))(hl:I hi=n):
  uj (.mt ei g0 (cellsOf Qg hi)::.mt te g1 (rT f q 0 g0 n out)::rest) 1=O ((th sh out hi).flatMap λp=>(f p).cells,.mt ei (Od g0 out) (cellsOf Qg (V0 hi out))::.mt te g1 (Aa f (th sh out hi))::rest):=by
 rcases ql out with rfl|⟨L,p,rfl⟩
 .simp[uj,ga,fU.ga,rT,th,Od,V0,Aa]
 .have V:ga (fU.mt ei g0 (cellsOf Qg hi)::fU.mt te g1 (rT f q 0 g0 n (L++[p]))::rest) 1=O (te,g1,rT f q 0 g0 n (L++[p])):=rfl
  have k:(rT f q 0 g0 n (L++[p])).isEmpty=U:=by
   rw[nY]
   have:I (Nz f q 0 g0 n p)=size:=by simp[Nz,oJ g]
   cases hc:Aa f L++Nz f q 0 g0 n p with
   |nil=>
    have s:=bQ List.length hc;simp only[jW,jL,this]at s;omega
   |cons a b=>rfl
  have c:q<(f p).cells.length:=by rw[oJ g];exact r
  have d:gy (fU.mt ei g0 (cellsOf Qg hi)::fU.mt te g1 (rT f q 0 g0 n (L++[p]))::rest) (rT f q 0 g0 n (L++[p]))=
    O ((th sh (L++[p]) hi).flatMap λp=>(f p).cells,.mt ei (g0+1) []::.mt te g1 (rT f q 0 g0 n (L++[p]))::rest):=by
   have l:rT f q 0 g0 n (L++[p])=(L.flatMap λp=>(f p).cells).map .b7++(((f p).cells.take q).map .b7++.ms 0 g0 0 n n::(((f p).cells.drop (q+1)).map .b7++[])):=by rw[nY,qc,Nz,sb _ _ _ (by simpa using c),cM,dr,jV]
   generalize t:rT f q 0 g0 n (L++[p])=X at l |-;rw[l,nM,nM,sJ Qg (e:=ei) yC rfl hl (nM (cs:=[]) _)]
   .simp only[jN];rw[xX,df,List.flatMap_singleton,j,sb _ _ _ c,<-l];simp
  simp only[uj,V,k,nk (Mv g _),d,ak,j6,ai];have m:ga (fU.mt ei (g0+1) []::fU.mt te g1 (rT f q 0 g0 n (L++[p]))::rest) 1=O (te,g1,rT f q 0 g0 n (L++[p])):=rfl;rw[m];simp only[and_self,ak,bV,dS,qc]
  have:(L++[p]).isEmpty=U:=by simp
  simp only[Od,V0,this];rfl
theorem Qil{t e:fN}{x c:fO}{tt gg l m size:Nat}(h:0<l/\l<=4611686018427387904)(V:m=l)(f:o.op=.indexAddr t x c)(g:fV P t=O e)(j:gq P e=O size)(hi:D c=Qd (W ((m:Int) - 1)))(k:D x=.ms tt gg 0 l l)(n:K (.mp tt gg (0+mO size (l - 1))) H):jt P E ow o D H K:=by
 subst V;refine iJ (λcall=>?_) n
 have hw:W ((m:Int) - 1)=((m - 1:Nat):Int):=by simp only[W,IntKind.wrap,IntKind.bits,IntKind.signed];simp;split <;>omega
 have d:D c=.b7 (.raw (.int .i64 ((m - 1:Nat):Int))):=by rw[hi,hw];rfl
 have p:(0:Int)<=((m - 1:Nat):Int):=by omega
 have q:m - 1<m:=by omega
 simp only[gU,f,d,g,j,p,ak,k,ca,q,or_true,and_self]
def Ly(P:fL)(s k:Nat):Option Nat:=match fieldsOf P s with
 |some fs=>match fs[k]? with
  |some c=>match gq P c.type with
   |some (_+1)=>O c.offset
   |_=>Z
  |none=>Z
 |none=>Z
theorem Db{s:fN}{x:fO}{k:Nat}{tt gg j w e:Nat}{cs:List PV}(f:o.op=.fieldAddr s x k)(g:D x=.mp tt gg j)(l:H[tt]?=O (.mt e gg cs))(hw:Ly P s k=O w):
  kJ P [1] o D H=O (.mp tt gg (j+w),H):=by
 have V:ga H tt=O (e,gg,cs):=by simp[ga,l,fU.ga]
 unfold Ly at hw;split at hw
 .rename_i fs c;split at hw
  .rename_i n d;split at hw
   .rename_i z m;cases hw;simp only[kJ,f,c,d,m,g,V,ak]
   .cases hw
  .cases hw
 .cases hw
theorem QiH{t te:fN}{x:fO}{tt gg j l a:Nat}{f:α->fS}(c:∀a,(f a).fits size=J)(h:0<l/\l<=4611686018427387904)(hl:I out=l)(z:decide (1<size)=J)(d:j=(0+mO size (l - 1))+a)(k:a=q)(m:decide (q<size)=J)(p:o.op=.load t x)(r:D x=.mp tt gg j)(s:H[tt]?=O (.mt te gg (rT f q 0 g n out)))(u:qh P t=O U)(w:gq P t=O 1)(y:K (.ms 0 g 0 n n) H)(hw:ow=[]:=by kernel_rfl):jt P E ow o D H K:=by
 subst hl k
 have hst:mO size (I out - 1)=(I out - 1)*size:=by
  unfold mO;split
  .rename_i h;rw[h,aW]
  .rfl
 have V:ga H tt=O (te,gg,rT f a 0 g n out):=by simp[ga,s,fU.ga]
 refine Ye (e:=te) (cs:=rT f a 0 g n out) (v:=.ms 0 g 0 n n) u w p r V ?_ y hw;rw[d,hst,zZ];exact P8 c (of_decide_eq_true m) h.1
theorem FG{e ei te:fN}{c:Array (Nat×Operand)}{k g0 g1:Nat}{rest:List fU}{cs:List PV}{f:α->fS}(g:∀a,(f a).fits size=J)(d:∀p hi,(f (sh p hi)).cells=(f p).cells.set q (.ew (hi.map Qg)))(hl:I hi=n)(j:o.op=.build e c)(l:BG P D e c k=O cs)(m:H=.mt ei g0 (cellsOf Qg hi)::.mt te g1 (rT f q 0 g0 n out)::rest)(r:decide (q<size)=J):
  kJ P [2,1,0,k] o D H=O (ls (cs.set k (.ms 0 (Od g0 out+1) 0 0 0)),.mt ei (Od g0 out+1) []::.mt te g1 (Aa f (th sh out hi))::rest):=by
 subst m;simp only[kJ,j,l,Ho g (of_decide_eq_true r) d hl];rfl
theorem NP{d e:fN}{len size:Nat}{c:Array (Nat×Operand)}{x:fO}{cs:List PV}(g:o.op=.buildSlice d len c)(j:fV P d=O e)(k:c.toList=[(0,x)])(l:gq P e=O size)(hc:(D x).cells=cs)(f:(decide (len=1) &&(gB P e).isSome &&decide (I cs=size) &&cs.all PV.cell &&decide (0<size) &&decide (size<=16777216))=J):kJ P [3] o D H=O (.arr (I H) 0 1 1,H++[.box cs]):=by simp only[jE,zE]at f;obtain⟨⟨⟨⟨⟨m,n⟩,p⟩,q⟩,r⟩,s⟩:=f;subst hc;simp only[kJ,g,j,k,l];rw[aj ⟨m,n,p,q,r,s⟩]
def Gn(bytes:Nat)(sh:α->fJ->α)(out:List α)(hi:fJ)(p:α):Option (List α):=if(I out+1)*bytes<=jd then O (th sh out hi++[p])else Z
theorem AJ{ts ei te:fN}{x s:fO}{bytes gg g1 i l:Nat}{hc:List PV}{rest:List fU}{v:List α}{f:α->fS}(d:∀a,(f a).fits size=J)(e:Gn bytes sh out hi p=O v)(hl:I out=l)(m:o.op=.call {callee:=.builtin .append,args:=#[s,x],argTypes:=#[ts,ts]})(r:fV P ts=O te)(t:gq P te=O size)(u:bytesOf P te=O bytes)(w:(gB P te).map fS.num=O size)(h0:(decide (0<bytes) &&decide (0<size))=J)(g:D s=.ms 1 g1 0 l l)(y:D x=.arr i 0 1 1)(k:H=.mt ei gg hc::.mt te g1 (Aa f (th sh out hi))::rest)(j:H[i]?=O (.box (Nz f q 0 gg n p))):
  kJ P [4] o D H=O (.ms 1 (g1+1) 0 (I v) (I v),.mt ei gg hc::.mt te (g1+1) (rT f q 0 gg n v)::rest):=by
 subst hl;unfold Gn at e;split at e
 case isFalse=>cases e
 rename_i c;cases e;simp only[jE,zE]at h0;have V:ga H 1=O (te,g1,Aa f (th sh out hi)):=by rw[k];rfl
 simp only[kJ,m,zV,aH,g,y,r,V,j,t,u];rw[aj ⟨⟨trivial,h0.1,w⟩,⟨h0.2,trivial,trivial,trivial⟩,⟨by rw[rY d,qF],nk (CQ d _)⟩,⟨by simp[Nz,oJ d],C3 d _⟩,c⟩];rw[nY,k,jW,qF];rfl
def flX(ei te g0 g1:Nat)(out:List α)(hi:fJ)(rest:List fU):List fU:=.mt ei (Od g0 out) (cellsOf Qg (V0 hi out))::.mt te (g1+1) []::rest
theorem IP{f:α->fS}(c:∀a,(f a).fits size=J)(k:1<size)(L:List α):mC size (I L) (L.flatMap λp=>(f p).cells)=L.map f:=by
 have j:∀L:List α,I (L.flatMap λp=>(f p).cells)=I L*size:=λL=>by have:=rY c L;rw[qc,jZ]at this;exact this
 have d:∀(L:List α) (i:Nat) (a:α),L[i]?=O a->((L.flatMap λp=>(f p).cells).drop (i*size)).take size=(f a).cells:=λL=>by
  induction L with
  |nil=>intro i a h;simp at h
  |cons b L l=>
   intro i a h;cases i with
   |zero=>
    simp at h;subst h;simp only[aI,eK,bP];rw[List.take_append_of_le_length (by rw[oJ c];exact j7 _),bk (by rw[oJ c];exact j7 _)]
   |succ i=>
    have e:(i+1)*size=(f b).cells.length+i*size:=by rw[oJ c,av,bA,fF]
    rw[aI,e,<-cV,dM];exact l i a (by simpa using h)
 refine bG λi=>?_
 simp only[mC,jD];by_cases hi:i<I L
 .have g:L[i]?=O L[i]:=jC hi;rw[fC hi,g];simp only[jN];rw[d L i _ g,<-oE (ia (c _)) k]
 .have g:L[i]?=Z:=aD y9;rw[g,aD yA];rfl
theorem PF{ei te:fN}{x:fO}{g0 g1 l:Nat}{rest:List fU}{f:α->fS}(j:∀a,(f a).fits size=J)(k:∀p hi,(f (sh p hi)).cells=(f p).cells.set q (.ew (hi.map Qg)))(hl:I hi=n)(m:I out=l)(s:o.op=.move x)(t:D x=.ms 1 g1 0 l l)(u:H=.mt ei g0 (cellsOf Qg hi)::.mt te g1 (rT f q 0 g0 n out)::rest)(v:gq P te=O size)(d:(decide (q<size) &&decide (1<size))=J):
  kJ P [5] o D H=O (.b7 (.ew ((th sh out hi).map f)),flX ei te g0 g1 out hi rest):=by
 subst u m;simp only[jE,zE]at d
 have c:I ((th sh out hi).flatMap λp=>(f p).cells)=I out*size:=by have:=rY j (th sh out hi);rw[qc,jZ,qF]at this;exact this
 have hc:=IP j d.2 (th sh out hi);rw[qF]at hc;simp only[kJ,s,t,Ho j d.1 k hl];have V:∀r b1:fU,∀e g cs,b1=.mt e g cs->ga (r::b1::rest) 1=O (e,g,cs):=λr b1 e g cs h=>by subst h;rfl
 rw[V _ _ _ _ _ rfl];simp only[v];rw[aj ⟨trivial,trivial,d.2,c⟩,hc];rfl
theorem tG{f:α->fS}(d:Bool)(H:List fU)(h0 e g1:Nat)(j:0<h0)(out:List α):gv d H h0 (.mt e g1 (rT f q 0 g n out))=.mt e g1 (rT f q 0 g n out):=by
 have key:(rT f q 0 g n out).map (jo d H h0)=rT f q 0 g n out:=by
  have c:∀l:List fS,(l.map PV.b7).map (jo d H h0)=l.map PV.b7:=λl=>by
   induction l with
   |nil=>rfl
   |cons a l k=>simp only[zV,jo,k]
  rcases ql out with rfl|⟨L,p,rfl⟩
  .rfl
  .rw[nY,zM,qc,c,Nz];by_cases m:q<I ((f p).cells.map PV.b7)
   .rw[sb _ _ _ m,zM,zV,<-cM,<-dr,c,c];simp only[jo,j,ak]
   .rw[List.set_eq_of_length_le y9,c]
 simp only[gv,key]
theorem Af{f:α->fS}(c:Bool)(H:List fU)(h0 e g1:Nat)(L:List α):gv c H h0 (.mt e g1 (Aa f L))=.mt e g1 (Aa f L):=by
 have d:∀l:List fS,(l.map PV.b7).map (jo c H h0)=l.map PV.b7:=λl=>by
  induction l with
  |nil=>rfl
  |cons a l g=>simp only[zV,jo,g]
 simp only[gv,qc,d]
end
end
section
variable{P:fL}{E:Env}{ow:List (Nat×TypeId)}{o:Oper}{D:fO->PV}{H:List fU}{K:PV->List fU->Prop}
end
section
variable{P:fL}{E:Env}{ow:List (Nat×TypeId)}{o:Oper}{D:fO->PV}{H:List fU}{K:PV->List fU->Prop}
end
section
variable{P:fL}{E:Env}{hn:Hint}{r i:Nat}{ops:Array Oper}{c:Cf}{Q:Cf->Prop}
end
end Go.Pm
