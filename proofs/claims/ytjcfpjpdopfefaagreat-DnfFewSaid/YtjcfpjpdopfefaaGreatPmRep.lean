/-
 The pure machine: what its data and its values are in the model's memory.
-/
import Derived.Test.YtjcfpjpdopfefaaGreatPmDef
namespace Go.Pm
open Go Go.RowKit
structure Gh where
 blk:Nat->Nat
 live:Nat->Prop
 own:Nat->Option (Value×Nat)
 S:Nat->Nat->Prop
inductive fY (w:fk) (S:Nat->Nat->Prop):fu->fy->Prop
 |raw (v:fu):isRaw v=true->fY w S v (.raw v)
 |nil:fY w S (.slice none 0 0) (.lst [])
 |empty (a:Addr) (cap:Nat):fY w S (.slice (some a) 0 cap) (.lst [])
 |lst (b off len cap k:Nat) (es:List fy) (c:Nat->fu):len=es.length->len<=cap->(∀d,d∈es->d.num=k)->
   (∀i,i<len*k->w.cell? ⟨b,off+i,none⟩=some (c i)/\S b (off+i))->
   (∀(i j:Nat) d u,es[i]?=some d->d.cells[j]?=some u->fY w S (c (i*k+j)) u)->
   fY w S (.slice (some ⟨b,off,none⟩) len cap) (.lst es)
 |agg (vs:Array Value) (cs:List fy):vs.size=cs.length->(∀(j:Nat) v c,vs[j]?=some v->cs[j]?=some c->fY w S v c)->
   fY w S (.agg vs) (.agg cs)
theorem fY.mono{w w':fk}{S l:Nat->Nat->Prop}(n:∀b o,S b o->l b o)(hc:∀b o,S b o->w'.cell? ⟨b,o,none⟩=w.cell? ⟨b,o,none⟩){v:fu}{d:fy}(h:fY w S v d):fY w' l v d:=by
 induction h with
 |raw v h=>exact .raw v h
 |nil=>exact .nil
 |empty a cap=>exact .empty a cap
 |lst b off len cap k es c e f m g p j=>
  exact .lst b off len cap k es c e f m (λi hi=>⟨(hc _ _ (g i hi).2).trans (g i hi).1,n _ _ (g i hi).2⟩) j
 |agg vs cs e m j=>exact .agg vs cs e j
def gP(v0:fu)(lo len:Nat):Value:=
 match v0 with
 | .slice (some a) _ cap=>.slice (some (a.add lo)) len (cap - lo)
 |v=>v
def KK(v0:fu):Prop:=v0=.slice none 0 0\/(∃a,v0=.slice (some a) 0 0)\/∃b l c,v0=.slice (some ⟨b,0,none⟩) l c
inductive fC (g:Gh) (N:Nat) (w:fk):fu->PV->Prop
 |dat (v:fu) (d:fy):fY w g.S v d->fC g N w v (.dat d)
 |agg (vs:Array Value) (cs:List PV):vs.size=cs.length->(∀(j:Nat) v c,vs[j]?=some v->cs[j]?=some c->fC g N w v c)->fC g N w (.agg vs) (.agg cs)
 |tup (vs:Array Value) (cs:List PV):vs.size=cs.length->(∀(j:Nat) v c,vs[j]?=some v->cs[j]?=some c->fC g N w v c)->fC g N w (.tuple vs) (.tup cs)
 |vec (v:fu) (t:Nat) (es:List fy) (v0:fu) (n:Nat):t<N->fY w g.S v (.lst es)->g.own t=some (v0,n)->es.length<=n->(es.length=n->v=v0)->fC g N w v (.vec t es)
 |ptr (i o:Nat):i<N/\g.live i->fC g N w (.pointer (some ⟨g.blk i,o,none⟩)) (.ptr i o)
 |iptr (b o:Nat) (cs:List fy) (c:Nat->fu):(∀i,i<cs.length->w.cell? ⟨b,o+i,none⟩=some (c i)/\g.S b (o+i))->
   (∀(i:Nat) u,cs[i]?=some u->fY w g.S (c i) u)->fC g N w (.pointer (some ⟨b,o,none⟩)) (.iptr cs)
 |arr (i o len cap:Nat):i<N/\g.live i->len<=cap->fC g N w (.slice (some ⟨g.blk i,o,none⟩) len cap) (.arr i o len cap)
 |fn (f:fo) (vs:Array Value) (cs:List PV):vs.size=cs.length->(∀(j:Nat) v c,vs[j]?=some v->cs[j]?=some c->fC g N w v c)->fC g N w (.func (.func f) #[] vs) (.fn f cs)
 |ms (t gg lo len cp:Nat) (v v0:fu) (n:Nat):t<N->g.own t=some (v0,n)->gg<=n->(gg=n->v=gP v0 lo len/\KK v0)->(∃a c,v=.slice a len c/\cp<=c/\len<=c/\(0<c->a.isSome=true))->fC g N w v (.ms t gg lo len cp)
 |mp (t gg j:Nat) (v v0:fu) (n:Nat):t<N->g.own t=some (v0,n)->gg<=n->(gg=n->∃b l cap,v0=.slice (some ⟨b,0,none⟩) l cap/\v=.pointer (some ⟨b,j,none⟩))->(∃a,v=.pointer a)->fC g N w v (.mp t gg j)
 |mapv (i:Nat):i<N/\g.live i->fC g N w (.map (some (g.blk i))) (.mapv i)
 |empv (b:Bool) (v:fu):(b=true->v=.slice none 0 0)->(b=false->∃a cap,v=.slice (some a) 0 cap)->fC g N w v (.empv b)
 |undef (v:fu):fC g N w v .undef
structure Ext (N:Nat) (g:Gh) (w:fk) (g':Gh) (w':fk):Prop where
 S:∀b o,g.S b o->g'.S b o
 cell:∀b o,g.S b o->w'.cell? ⟨b,o,none⟩=w.cell? ⟨b,o,none⟩
 blk:∀i,i<N->g.live i->g'.blk i=g.blk i/\g'.live i
 own:∀t,t<N->∀v n,g.own t=some (v,n)->∃v' n',g'.own t=some (v',n')/\n<=n'/\(n'=n->v'=v)
theorem Ext.refl(N:Nat)(g:Gh)(w:fk):Ext N g w g w:=⟨λ_ _ h=>h,λ_ _ _=>rfl,λ_ _ h=>⟨rfl,h⟩,λ_ _ v n h=>⟨v,n,h,j7 _,λ_=>rfl⟩⟩
theorem Ext.trans{N N':Nat}{g f j:Gh}{w l m:fk}(h:Ext N g w f l)(k:Ext N' f l j m)(d:N<=N'):Ext N g w j m:=
 ⟨λb o c=>k.S b o (h.S b o c),λb o c=>(k.cell b o (h.S b o c)).trans (h.cell b o c),λi hi hl=>⟨(k.blk i (jP hi d) (h.blk i hi hl).2).1.trans (h.blk i hi hl).1,(k.blk i (jP hi d) (h.blk i hi hl).2).2⟩,λt p v n q=>by
  obtain⟨r,n1,s,u,x⟩:=h.own t p v n q;obtain⟨v2,n2,k1,k2,k3⟩:=k.own t (jP p d) r n1 s
  exact⟨v2,n2,k1,jW u k2,λe=>by
   have y:n1=n:=by omega
   have z:n2=n1:=by omega
   rw[k3 z,x y]⟩⟩
theorem Ext.less{N N':Nat}{g g':Gh}{w w':fk}(h:Ext N' g w g' w')(c:N<=N'):Ext N g w g' w':=
 ⟨h.S,h.cell,λi hi=>h.blk i (jP hi c),λt d=>h.own t (jP d c)⟩
theorem fY.ext{N:Nat}{g g':Gh}{w w':fk}(h:Ext N g w g' w'){v:fu}{d:fy}(c:fY w g.S v d):fY w' g'.S v d:=c.mono h.S h.cell
theorem fC.ext{N N':Nat}{g g':Gh}{w w':fk}(h:Ext N g w g' w')(m:N<=N'){v:fu}{p:PV}(y:fC g N w v p):fC g' N' w' v p:=by
 induction y with
 |dat v d z=>exact .dat v d (z.ext h)
 |agg vs cs k _ q=>exact .agg vs cs k q
 |tup vs cs k _ q=>exact .tup vs cs k q
 |vec v t es v0 n k l r s x=>
  obtain⟨v',n',k1,k2,k3⟩:=h.own t k v0 n r
  exact .vec v t es v' n' (jP k m) (l.ext h) k1 (jW s k2) (λe=>by
   have A:n'=n:=by omega
   rw[k3 A];exact x y8)
 |ptr i o hi=>rw[<-(h.blk i hi.1 hi.2).1];exact .ptr i o ⟨jP hi.1 m,(h.blk i hi.1 hi.2).2⟩
 |iptr b o cs c k l=>exact .iptr b o cs c (λi hi=>⟨(h.cell _ _ (k i hi).2).trans (k i hi).1,h.S _ _ (k i hi).2⟩) (λi u B=>(l i u B).ext h)
 |arr i o len cap hi hc=>rw[<-(h.blk i hi.1 hi.2).1];exact .arr i o len cap ⟨jP hi.1 m,(h.blk i hi.1 hi.2).2⟩ hc
 |fn f vs cs k _ q=>exact .fn f vs cs k q
 |ms t gg lo len cp v v0 n k l r s x=>
  obtain⟨v',n',k1,k2,k3⟩:=h.own t k v0 n l;exact .ms t gg lo len cp v v' n' (jP k m) k1 (jW r k2) (λe=>by rw[k3 y8];exact s y8) x
 |mp t gg j v v0 n k l r s x=>
  obtain⟨v',n',k1,k2,k3⟩:=h.own t k v0 n l;exact .mp t gg j v v' n' (jP k m) k1 (jW r k2) (λe=>by rw[k3 y8];exact s y8) x
 |mapv i hi=>rw[<-(h.blk i hi.1 hi.2).1];exact .mapv i ⟨jP hi.1 m,(h.blk i hi.1 hi.2).2⟩
 |empv b v k l=>exact .empv b v k l
 |undef v=>exact .undef v
def sx(P:fm)(g:Gh)(B0:Nat)(w:fk)(e:fq)(n:Nat)(v0:fu):Prop:=
 (v0=.slice none 0 0/\n=0)\/
 ∃b cap cur size,v0=.slice (some ⟨b,0,none⟩) n cap/\B0<=b/\w.heap[b]?=some (.cells cur e (0,0))/\fJ P e=some size/\n<=cap/\cap<=maxLen/\cur.size=cap*size/\∀o,g.S b o->o<n*size
def KU(g:Gh)(N B0:Nat)(w:fk)(b:Nat)(cs:List PV):Prop:=
 B0<=b/\(∃vals d,w.heap[b]?=some (.cells vals d (0,0))/\vals.size=cs.length/\∀(j:Nat) v c,vals[j]?=some v->cs[j]?=some c->fC g N w v c)/\∀o,¬g.S b o
def fG:fu->Option Nat
 | .slice (some a) _ cap=>if cap=0 then none else some a.block
 |_=>none
def pq(P:fm)(g:Gh)(B0:Nat)(w:fk)(e:fq)(cs:List PV)(v0:fu):Prop:=
 ∃(b n cap:Nat) (cur:Array Value) (size:Nat) (ds:List fy),v0=.slice (some ⟨b,0,none⟩) n cap/\0<cap/\B0<=b/\w.heap[b]?=some (.cells cur e (0,0))/\fJ P e=some size/\1<size/\cs=ds.map PV.dat/\ds.all (fy.fits size)=true/\ds.length<=cap/\cap<=maxLen/\cur.size=cap*size/\(∀o,¬g.S b o)/\
  ∀(i j:Nat) d u v,ds[i]?=some d->d.cells[j]?=some u->cur[i*size+j]?=some v->fY w g.S v u
def pG(P:fm)(g:Gh)(N B0:Nat)(w:fk)(e:fq)(cs:List PV)(v0:fu):Prop:=
 (cs=[]/\(v0=.slice none 0 0\/∃a,v0=.slice (some a) 0 0))\/
 (∃b n cap cur,v0=.slice (some ⟨b,0,none⟩) n cap/\0<cap/\B0<=b/\w.heap[b]?=some (.cells cur e (0,0))/\(∃size,fJ P e=some size/\0<size/\cur.size=cap*size)/\(cs.length<=cur.size/\cs.all PV.flat=true)/\cap<=maxLen/\cap<=cur.size/\(∀o,¬g.S b o)/\
  ∀(j:Nat) v c,cur[j]?=some v->cs[j]?=some c->fC g N w v c)\/pq P g B0 w e cs v0
theorem E9{P:fm}{e:fq}{n cap l:Nat}{F:Prop}(q:∃size,fJ P e=some size/\0<size/\n=cap*size)(c:fJ P e=some 1)(q4:l<=n/\F):fJ P e=some 1/\(l<=cap/\F)/\n=cap:=by
 obtain⟨size,d,f,g⟩:=q;rw[c]at d;cases d;exact⟨c,⟨by omega,q4.2⟩,by omega⟩
def pd(arr:Array MapEntry)(clock:Nat):Prop:=(∀x∈arr.toList,x.born<clock)/\(arr.toList.map (·.born)).Nodup
open Classical in
noncomputable def kX:Obj->Option (Array MapEntry)
 | .map arr clock=>if arr.all (λe=>jx e.key)=true/\pd arr clock then some arr else none
 | .stringIter s pos=>some #[{key:=.tuple #[.string s],val:=.int .i64 pos,born:=0}]
 |_=>none
def HS(g:Gh)(N B0:Nat)(w:fk)(b:Nat)(es:List (Value×PV)):Prop:=
 B0<=b/\(∃arr o,(w.heap[b]?=some o/\kX o=some arr)/\arr.size=es.length/\∀(j:Nat) m c,arr[j]?=some m->es[j]?=some c->m.key=c.1/\fC g N w m.val c.2)/\∀o,¬g.S b o
def occ(g:Gh)(H:List fB)(i:Nat):Option Nat:=
 match H[i]? with
 |some (.box _)=>some (g.blk i)
 |some (.tok _ _)=>(g.own i).bind λx=>x.1.ownBlock
 |some (.mt _ _ _)=>(g.own i).bind λx=>fG x.1
 |some (.map _)=>some (g.blk i)
 |some .hole=>none
 |none=>none
def fB.placed:fB->Prop
 | .box _=>True
 | .map _=>True
 |_=>False
structure Qm (P:fm) (g:Gh) (B0 N:Nat) (H:List fB) (w:fk):Prop where
 box:∀i cs,H[i]?=some (.box cs)->KU g N B0 w (g.blk i) cs
 tok:∀i e n,H[i]?=some (.tok e n)->∃v0,g.own i=some (v0,n)/\sx P g B0 w e n v0
 mt:∀i e n cs,H[i]?=some (.mt e n cs)->∃v0,g.own i=some (v0,n)/\pG P g N B0 w e cs v0
 map:∀i es,H[i]?=some (.map es)->HS g N B0 w (g.blk i) es
 mt0:∀i e cs,H[i]?=some (.mt e 0 cs)->∃v0,g.own i=some (v0,0)/\fG v0=none
 live:∀i x,H[i]?=some x->(x.placed->g.live i)/\(x=.hole->¬g.live i/\g.own i=none)
 sep:∀i j b,occ g H i=some b->occ g H j=some b->i=j
structure Inv (B0:Nat) (w0:fk) (S0:Nat->Nat->Prop) (g:Gh) (w:fk):Prop where
 below:Below B0 w0 w
 size:B0<=w.heap.size
 old:∀b o,g.S b o->S0 b o\/B0<=b
 lt:∀b o,g.S b o->b<w.heap.size
end Go.Pm
