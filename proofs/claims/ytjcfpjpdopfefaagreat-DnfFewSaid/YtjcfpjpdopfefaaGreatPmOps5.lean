/-
 The pure machine: soundness of new variables with tokens, built structs, literal lists, made lists.
-/
import Derived.Test.YtjcfpjpdopfefaaGreatPmOps4
namespace Go.Pm
open Go Go.RowKit
set_option linter.all false
section
variable{P:fm}{B0 N:Nat}{w0:fk}{S0:Nat->Nat->Prop}{g:Gh}{H H':List fB}{w:fk}{p:PV}{o:Oper}{a:Act}{ρ:ft->PV}
def Gh.nils(g:Gh)(k n:Nat):Gh:={g with own:=λt=>if k<=t/\t<k+n then some (.slice none 0 0,0)else g.own t}
theorem Ext.nils{k:Nat}(n:Nat)(c:N<=k):Ext N g w (g.nils k n) w:=
 ⟨λ_ _ h=>h,λ_ _ _=>rfl,λ_ _ h=>⟨rfl,h⟩,λt d v m h=>⟨v,m,by simp only[Gh.nils];rw[af y8];exact h,j7 _,λ_=>rfl⟩⟩
theorem pW:∀(n:List (Nat×TypeId)) (k:Nat) (cs c:List PV) (bs:List fB),iW k cs n=some (c,bs)->∀(vals:Array Value),
  (∀j,j∈n.map (·.1)->cs[j]?=some (.dat (.lst []))->vals[j]?=some (.slice none 0 0))->
  (∀x,x∈bs->∃e,x=.tok e 0)/\c.length=cs.length/\
  ∀(j:Nat) v d,vals[j]?=some v->c[j]?=some d->cs[j]?=some d\/∃t,k<=t/\t<k+bs.length/\d=.vec t []/\v=.slice none 0 0
 |[],k,cs,c,bs,h,vals,_=>by
  cases h;exact⟨λx f=>(by cases f),rfl,λj v d _ h=>.inl h⟩
 |(j,e)::r,k,cs,c,bs,h,vals,hn=>by
  unfold iW at h;split at h
  .rename_i p;split at h
   .rename_i s u w;cases h
    obtain⟨y,z,A⟩:=pW r (k+1) _ _ _ w vals (λg l hc=>by
     refine hn g (by simp at l |-;exact .inr l) ?_;rw[zE]at hc;by_cases e':j=g
     .subst e';exact p
     .rw[af e']at hc;exact hc)
    refine⟨λx f=>?_,by rw[z];simp,λg v d q B=>?_⟩
    .cases f with
     |head=>exact⟨e,rfl⟩
     |tail _ f=>exact y x f
    .rcases A g v d q B with h|⟨t,F,C,D,E⟩
     .rw[zE]at h;by_cases e':j=g
      .subst e';by_cases m:j<cs.length
       .rw[ai rfl,ai m]at h;cases h;exact .inr ⟨k,j7 _,by simp,rfl,by have:=hn j yA p;rw[q]at this;exact jS this⟩
       .rw[ai rfl,af m]at h;cases h
      .rw[af e']at h;exact .inl h
     .exact .inr ⟨t,by omega,by simp at C |-;omega,D,E⟩
   .cases h
  .cases h
theorem Qm.toks(d:Qm P g B0 N H w):∀(bs:List fB),(∀x,x∈bs->∃e,x=.tok e 0)->(∀i,i<bs.length->g.own (H.length+i)=some (.slice none 0 0,0))->Qm P g B0 N (H++bs) w:=by
 intro bs;induction bs generalizing H with
 |nil=>intro _ _;simpa using d
 |cons x bs k=>
  intro f j;obtain⟨e,rfl⟩:=f x yA;have h0:=j 0 yA;rw[show H++.tok e 0::bs=(H++[.tok e 0])++bs by simp];refine k (d.snoc _ (λ_ h=>by cases h) (λe' n h=>by cases h;exact⟨_,h0,.inl ⟨rfl,rfl⟩⟩) (λi b m c=>?_)) (λy l=>f y (by simp[l])) (λi hi=>?_)
  .rw[kh (e:=e) (n:=0) yA]at c;simp at h0;rw[h0]at c;simp[Value.ownBlock]at c
  .have:=j (i+1) y9;rw[show(H++[fB.tok e 0]).length+i=H.length+(i+1) by simp;omega];exact this
theorem BH:∀{bs:List fB} {H:List fB},(∀x,x∈bs->∃e,x=.tok e 0)->(∀i,i<bs.length->g.own (H.length+i)=some (.slice none 0 0,0))->∀{i b:Nat},occ g (H++bs) i=some b->occ g H i=some b:=by
 intro bs;induction bs with
 |nil=>intro H _ _ i b h;simpa using h
 |cons x bs f=>
  intro H c d i b h;obtain⟨e,rfl⟩:=c x yA;rw[show H++.tok e 0::bs=(H++[.tok e 0])++bs by simp]at h
  have j:=f (λy k=>c y (by simp[k])) (λi hi=>by
   have:=d (i+1) y9;rw[show(H++[fB.tok e 0]).length+i=H.length+(i+1) by simp;omega];exact this) h
  rcases oh j with h|⟨_,⟨cs,h,_⟩|⟨e',n,_,h⟩⟩
  .exact h
  .cases h
  .have:=d 0 yA;simp only[zX]at this;rw[this]at h;simp[Value.ownBlock]at h
theorem nI:∀(vs:List Value) (ds:List fy),fL.cells vs=some ds->ds.length=vs.length/\
  (∀(w:fk) (S:Nat->Nat->Prop) (j:Nat) v d,vs[j]?=some v->ds[j]?=some d->fY w S v d)/\(∀j:Nat,ds[j]?=some (fy.lst [])->vs[j]?=some (Value.slice none 0 0))/\ds.all fy.isCell=true
 |[],ds,h=>by cases h;exact⟨rfl,λ_ _ j _ _ h=>by simp at h,λj h=>by simp at h,rfl⟩
 |v::r,ds,h=>by
  unfold fL.cells at h;split at h
  .rename_i n;simp only[j5]at h;obtain⟨ds',h,rfl⟩:=h;obtain⟨f,k,l,m⟩:=nI r ds' h;refine⟨by simp[f],λw S j u d c e=>?_,λj g=>?_,by simp[m,fy.isCell]⟩
   .cases j with
    |zero=>simp at c e;subst c e;exact .raw _ n
    |succ j=>exact k w S j u d (by simpa using c) (by simpa using e)
   .cases j with
    |zero=>simp at g
    |succ j=>simpa using l j (by simpa using g)
  .split at h
   .simp only[j5]at h;obtain⟨ds',h,rfl⟩:=h;obtain⟨f,k,l,m⟩:=nI r ds' h;refine⟨by simp[f],λw S j u d c e=>?_,λj g=>?_,by simp[m,fy.isCell]⟩
    .cases j with
     |zero=>simp at c e;subst c e;exact .nil
     |succ j=>exact k w S j u d (by simpa using c) (by simpa using e)
    .cases j with
     |zero=>rfl
     |succ j=>simpa using l j (by simpa using g)
   .cases h
theorem Et{v:fu}{d:fy}(h:tX v=some d)(c:∀cs,v≠.agg cs):d.cells=[d]/\v.cells=#[v]/\d.isCell=true/\(d=.lst []->v=.slice none 0 0):=by
 unfold tX at h;split at h
 .cases h;exact⟨rfl,rfl,rfl,λ_=>rfl⟩
 .exact absurd rfl (c _)
 .split at h
  .rename_i f;cases h;exact⟨rfl,sD f,rfl,λe=>by cases e⟩
  .cases h
theorem gE{t:fq}{z:fy}(h:fL P t=some z):∃i d,P.info? t=some i/\i.zero=some d/\(∀(w:fk) (S:Nat->Nat->Prop),fY w S d z)/\
  (∀j:Nat,z.cells[j]?=some (fy.lst [])->d.cells[j]?=some (Value.slice none 0 0))/\z.cells.all fy.isCell=true:=by
 unfold fL at h;simp only[jK]at h;obtain⟨d,⟨i,hi,n⟩,h⟩:=h;refine⟨i,d,hi,n,?_⟩;unfold fL.rawZero at h;split at h
 .simp only[j5]at h;obtain⟨ds,h,rfl⟩:=h;obtain⟨e,f,k,l⟩:=nI _ _ h;exact⟨λw S=>.agg _ _ (by simpa using e.symm) λj v c p q=>f w S j v c (by simpa using p) q,λj g=>by simpa[Value.cells]using k j g,l⟩
 .rename_i m;obtain⟨e,f,k,l⟩:=Et h m;refine⟨λw S=>.of_rawOf h,λj g=>?_,by rw[e];simp[k]⟩;rw[e]at g;rw[f];cases j with
  |zero=>simp at g;subst g;simp[l rfl]
  |succ j=>simp at g
theorem Ls{t:fq}{z:fy}{L:List (Nat×TypeId)}{cs:List PV}{bs:List fB}(M:o.op=.alloc t)(O:fL P t=some z)(I:iW (H.length+1) (z.cells.map .dat) L=some (cs,bs))(A:Qm P g B0 H.length H w)(hi:Inv B0 w0 S0 g w):
  ∃v g' w',fQ P o a w v w'/\Good P B0 w0 S0 H g w (.ptr H.length 0) (H++.box cs::bs) v g' w':=by
 obtain⟨i,s,Q,y,R,T,_⟩:=gE O;obtain⟨U,V⟩:=(R w g.S).cells
 obtain⟨J,W,X⟩:=pW _ _ _ _ _ I s.cells (λj _ hc=>by
  simp only[jD,j5]at hc;obtain⟨d,B,e⟩:=hc;cases e;exact T j B)
 let m:=g.box H.length w.heap.size
 let k:=m.nils (H.length+1) bs.length
 have p:=hi.alloc (.cells s.cells t);have C:Ext H.length g w m (w.alloc (.cells s.cells t)):=(Ext.alloc hi H.length _).trans (Ext.box H.length _ (j7 _)) (j7 _);have D:Ext H.length g w k (w.alloc (.cells s.cells t)):=C.trans (Ext.nils _ (eH _)) (j7 _);have l:k.blk H.length=w.heap.size:=by simp[k,m,Gh.nils,Gh.box]
 refine⟨.pointer (some ⟨w.heap.size,0,none⟩),k,w.alloc (.cells s.cells t),.inl ?_,D,by simp,?_,?_,⟨p.below,p.size,p.old,p.lt⟩,Fr.old yA (λb f=>Below.heap_alloc w _ b f) λi b h f=>?_⟩
 case refine_4=>
  rw[show H++fB.box cs::bs=(H++[.box cs])++bs by simp]at h;rcases BH J (λi hi=>by simp[k,Gh.nils];omega) h with h;rcases oh h with h|⟨_,⟨E,_,rfl⟩|⟨e',n,h,_⟩⟩
  .exact⟨i,gD (g:=g) h (λj Y=>by simp only[k,m,Gh.nils,Gh.box];rw[af y8]) (λj Y=>by simp only[k,m,Gh.nils,Gh.box];rw[af y8])⟩
  .rw[l]at f;exact absurd f (jZ _)
  .cases h
 .simp[execOp,M,Instr.alloc,zeroValue,typeInfo,Q,y,newVar,newRow]
 .have:=fC.ptr (g:=k) (N:=(H++fB.box cs::bs).length) (w:=w.alloc (.cells s.cells t)) H.length 0 ⟨by simp,.inl rfl⟩
  rwa [l]at this
 .have K:Qm P k B0 (H++fB.box cs::bs).length H (w.alloc (.cells s.cells t)):=
   A.keep D yA (j7 _) (λi b f=>Below.heap_alloc w _ b (A.occ_lt f).2.1) (λ_ _ _ _ h=>h) (λt I=>by simp only[k,m,Gh.nils,Gh.box];rw[af y8])
  rw[show H++fB.box cs::bs=(H++[.box cs])++bs by simp]at K |-;refine Qm.toks (K.snoc _ (λE h=>?_) (λ_ _ h=>by cases h) (λi b f y=>?_)) bs J (λi hi=>by simp[k,Gh.nils];omega)
  .cases h;rw[l];refine⟨hi.size,⟨s.cells,t,heap_alloc_new w _,by rw[W];simpa using U,λj v c u F=>?_⟩,λo Z=>jZ _ (hi.lt _ o Z)⟩;rcases X j v c u F with hc|⟨tk,a1,a2,rfl,rfl⟩
   .simp only[jD,j5]at hc;obtain⟨d,B,rfl⟩:=hc;exact .dat _ _ ((V j v d u B).ext D)
   .refine .vec _ _ _ (.slice none 0 0) 0 ?_ .nil ?_ (j7 _) yB
    .simp;omega
    .simp only[k,Gh.nils];rw[ai ⟨a1,a2⟩]
  .rw[gw (cs:=cs) yA,l]at y;cases y
   have G:occ g H i=some w.heap.size:=by
    have q:∀x,H[i]?=some x->i<H.length:=λx r=>(ae.1 r).1
    unfold occ at f |-;split at f
    .rename_i r;have:=q _ r;have e:i≠H.length:=by omega
     simpa[k,m,Gh.nils,Gh.box,e]using f
    .rename_i r;have:=q _ r;simp only[k,m,Gh.nils,Gh.box]at f
     rwa [af y8]at f
    .rename_i r;have:=q _ r;simp only[k,m,Gh.nils,Gh.box]at f
     rwa [af y8]at f
    .rename_i r;have:=q _ r;have e:i≠H.length:=by omega
     simpa[k,m,Gh.nils,Gh.box,e]using f
    .cases f
    .cases f
   exact jZ _ (A.occ_lt G).2.1
theorem lU:∀(l:List Value) (k off:Nat) (cells:Array Value) (m:Nat),off+k+l.length<=cells.size->
  ((l.zipIdx k).foldl (λcs (x:Value×Nat)=>cs.setIfInBounds (off+x.2) x.1) cells)[m]?=(if off+k<=m/\m<off+k+l.length then l[m - (off+k)]? else cells[m]?)/\
  ((l.zipIdx k).foldl (λcs (x:Value×Nat)=>cs.setIfInBounds (off+x.2) x.1) cells).size=cells.size
 |[],k,off,cells,m,h=>by simp;omega
 |v::r,k,off,cells,m,h=>by
  simp only[List.zipIdx_cons,cd];have d:off+(k+1)+r.length<=(cells.setIfInBounds (off+k) v).size:=by simp at h |-;omega
  obtain⟨f,g⟩:=lU r (k+1) off (cells.setIfInBounds (off+k) v) m d;refine⟨?_,by rw[g];simp⟩;rw[f,cM];by_cases e:m=off+k
  .subst e;rw[af y8,ai rfl,ai (by simp at h;omega),ai yA];simp
  .by_cases c:off+(k+1)<=m/\m<off+(k+1)+r.length
   .rw[ai c,ai y9];obtain⟨q,rfl⟩:∃q,m=off+k+1+q:=⟨m - (off+k+1),by omega⟩;rw[show off+k+1+q - (off+(k+1))=q by omega,show off+k+1+q - (off+k)=q+1 by omega];simp
   .rw[af c,af (λe'=>e e'.symm),af y9]
theorem A4{f:Nat->Option (Nat×Nat)}:∀(p:List (Nat×Operand)) (vals:Array Value) (cs k:List PV),kW f cs (p.map λ(i,x)=>(i,(ρ x).cells))=some k->
  vals.size=cs.length->(∀(j:Nat) v c,vals[j]?=some v->cs[j]?=some c->fC g N w v c)->(∀x,fC g N w (a.eval x) (ρ x))->(∀i x,(i,x)∈p->ρ x≠.undef)->
  ∃d,Instr.fill f vals (p.map λ(i,x)=>(i,a.eval x))=some d/\d.size=k.length/\k.length=cs.length/\(∀(j:Nat) v c,d[j]?=some v->k[j]?=some c->fC g N w v c)/\
   ∀j,lb f j p=true->d[j]?=vals[j]?/\k[j]?=cs[j]?
 |[],vals,cs,k,h,hl,A,_,_=>by
  simp only[aN,kW,j9]at h;subst h;exact⟨vals,rfl,hl,rfl,A,λ_ _=>⟨rfl,rfl⟩⟩
 |(i,x)::p,vals,cs,k,h,hl,A,t,E=>by
  simp only[zU,kW]at h;split at h
  .cases h
  .rename_i off size F;split at h
   .rename_i J;simp only[jK]at h;obtain⟨q,hc,h⟩:=h;obtain⟨p1,G⟩:=rj hc;obtain⟨U,K⟩:=(t x).cells (E i x yA);have B:(a.eval x).cells.size=size:=by omega
    have u:off+(a.eval x).cells.size<=vals.size:=by omega
    generalize l:((a.eval x).cells.toList.zipIdx 0).foldl (λcs (x:Value×Nat)=>cs.setIfInBounds (off+x.2) x.1) vals=new
    have n:∀m,new[m]?=(if off<=m/\m<off+size then(a.eval x).cells[m - off]? else vals[m]?):=λm=>by
     have:=(lU (a.eval x).cells.toList 0 off vals m (by simpa using u)).1;rw[l]at this;rw[this];simp[B]
    have H:new.size=vals.size:=by
     rw[<-l];exact(lU (a.eval x).cells.toList 0 off vals 0 (by simpa using u)).2
    have y:∀m,q[m]?=if m<off then cs[m]? else if m<off+size then(ρ x).cells[m - off]? else cs[m]?:=λm=>by
     rw[G,gH _ _ _ p1,J]
    have L:q.length=cs.length:=by rw[G];simp;omega
    obtain⟨d,M,O,V,P,Q⟩:=A4 p new q k h y8 (λj v c s r=>by
     rw[n]at s;rw[y]at r;by_cases c1:off<=j/\j<off+size
     .rw[ai c1]at s;rw[af y8,ai c1.2]at r;exact K _ v c s r
     .rw[af c1]at s;by_cases c2:j<off
      .rw[ai c2]at r;exact A j v c s r
      .rw[af c2,af y8]at r;exact A j v c s r) t (λR S T=>E R S (by simp[T]))
    refine⟨d,?_,O,by omega,P,λj I=>?_⟩
    .simp only[zU,Instr.fill,F];rw[af y9]
     have e:(a.eval x).cells.zipIdx.foldl (λcs (x:Value×Nat)=>cs.setIfInBounds (off+x.2) x.1) vals=new:=by
      rw[<-l,<-dJ];simp
     exact(bI (λz=>Instr.fill f z (p.map λ(i,x)=>(i,a.eval x))) e).trans M
    .simp only[lb,bq,jE,F]at I;obtain⟨C,D⟩:=I;obtain⟨k1,k2⟩:=Q j D;simp at C;refine⟨?_,?_⟩
     .rw[k1,n,af y8]
     .rw[k2,y];by_cases c2:j<off
      .rw[ai c2]
      .rw[af c2,af y8]
   .cases h
end
end Go.Pm
