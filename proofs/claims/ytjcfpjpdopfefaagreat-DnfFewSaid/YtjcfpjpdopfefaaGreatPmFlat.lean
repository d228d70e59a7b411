/-
 The pure machine: soundness of lists of structures that are written within: their cells stand one by one, and one of them may be a list that is still written.
-/
import Derived.Test.YtjcfpjpdopfefaaGreatPmRun
namespace Go.Pm
open Go Go.RowKit
set_option linter.all false
section
variable{P:fm}{B0 N Nb:Nat}{w0:fk}{S0:Nat->Nat->Prop}{g:Gh}{H H':List fB}{w:fk}{p:PV}{o:Oper}{a:Act}{ρ:ft->PV}{pf:fo->Bool}{call:gk}{h:Hint}{F:Fence}{m:Nat}
theorem pG.flat{e:fq}{cs:List PV}{v0:fu}(h:pG P g N B0 w e cs v0)(d:cs.all PV.flat=true):(cs=[]/\(v0=.slice none 0 0\/∃a,v0=.slice (some a) 0 0))\/
  ∃b n cap cur,v0=.slice (some ⟨b,0,none⟩) n cap/\0<cap/\B0<=b/\w.heap[b]?=some (.cells cur e (0,0))/\(∃size,fJ P e=some size/\0<size/\cur.size=cap*size)/\(cs.length<=cur.size/\cs.all PV.flat=true)/\cap<=maxLen/\cap<=cur.size/\(∀o,¬g.S b o)/\
   ∀(j:Nat) v c,cur[j]?=some v->cs[j]?=some c->fC g N w v c:=by
 rcases h with h|h|h
 .exact .inl h
 .exact .inr h
 .cases cs with
  |nil=>
   obtain⟨b,n,cap,cur,size,ds,rfl,h0,l,m,p,q,u,r,f,s,k,t,x⟩:=h;exact .inr ⟨b,n,cap,cur,rfl,h0,l,m,⟨size,p,by omega,k⟩,⟨zP _,rfl⟩,s,by rw[k];exact aD _ y8,t,λj v c _ h=>by simp at h⟩
  |cons c cs=>
   simp only[bq,jE]at d;exact absurd (by simp[d.1]) (h.not_flat 0)
theorem uD{c:PV}{d:fy}(hc:c.flat=true)(h:gY H c=some (d,H')):d.isCell=true:=by
 cases c with
 |dat j=>
  simp only[gY,j9,jI]at h;obtain⟨rfl,_⟩:=h;cases j<;>first|rfl|(simp[PV.flat]at hc)
 |vec t es=>
  simp only[gY,j9,jI]at h;obtain⟨rfl,_⟩:=h;rfl
 |ms t g lo len cap=>
  simp only[gY]at h;split at h
  .rename_i j e g' cs f hm;simp only[j9,jI]at h;obtain⟨rfl,_⟩:=h;simp only[fR,hm]at f;split at f
   .rw[jK]at f;obtain⟨ds,_,f⟩:=f;split at f
    .cases f;rfl
    .cases f
   .cases f
  .cases h
 |_=>simp[gY]at h
theorem pj:∀(cs:List PV) (H:List fB) (ds:List fy) (H':List fB),cs.all PV.flat=true->ga H cs=some (ds,H')->ds.all fy.isCell=true
 |[],H,ds,H',_,h=>by
  simp only[ga,j9,jI]at h;obtain⟨rfl,_⟩:=h;rfl
 |c::cs,H,ds,H',hc,h=>by
  simp only[bq,jE]at hc;simp only[ga]at h;split at h
  .rename_i d H1 e;split at h
   .rename_i ds' H2 f;simp only[j9,jI]at h;obtain⟨rfl,_⟩:=h;simp only[bq,jE];exact⟨uD hc.1 e,pj cs H1 ds' H2 hc.2 f⟩
   .cases h
  .cases h
theorem tw{ds:List fy}(h:ds.all fy.isCell=true):(ds.map PV.dat).all PV.flat=true:=by
 rw[aR,j8];intro d c;have:=an.1 h d c;cases d<;>first|rfl|(simp[fy.isCell]at this)
theorem Gd{t:Nat}{ds:List fy}(hc:xP H t=some (ds,H'))(z:Qm P g B0 H.length H w)(hi:Inv B0 w0 S0 g w):
  ∃g',H'.length=H.length/\Ext H.length g w g' w/\Qm P g' B0 H.length H' w/\Inv B0 w0 S0 g' w/\Fr g H w g' H' w/\∃e gg cs,mtOf H t=some (e,gg,cs)/\mtOf H' t=some (e,gg,ds.map .dat)/\ds.all fy.isCell=true:=by
 unfold xP at hc;split at hc
 case h_2=>cases hc
 rename_i e gg cs hm;split at hc
 .rename_i A;cases hc
  have:cs=[]:=by simpa using A
  subst this;exact⟨g,rfl,Ext.refl _ _ _,z,hi,Fr.refl _ _ _,e,gg,[],hm,hm,rfl⟩
 split at hc
 case isFalse=>cases hc
 rename_i B r;split at hc
 case h_2=>cases hc
 rename_i ds' H1 s;split at hc
 case h_2=>cases hc
 rename_i e' g' C D;split at hc
 case isFalse=>cases hc
 rename_i R;obtain⟨rfl,rfl⟩:=R;cases hc;have M:=Zb hm;simp only at M;obtain⟨v0,k1,k2⟩:=z.mt t _ _ _ M;rcases k2.flat r with⟨hn,_⟩|⟨b,n,cap,cur,rfl,q0,q1,q2,q3,q4,q5,q6,q7,T⟩
 .subst hn;simp at B
 obtain⟨q,l1,N,l,E,U,l2,V⟩:=lM (P:=P) (w0:=w0) (S0:=S0) cs cur.toList g H ds H1 z hi (λj v c W hc=>T j v c (by simpa using W) hc) s;have u:=pj cs H ds H1 r s;have f:=Zb D;simp only at f;have k:t<H1.length:=(ae.1 f).1;have F:t<H.length:=by omega
 obtain⟨v1,O,X⟩:=l.mt t _ _ _ f;obtain⟨v2,n2,o1,o2,o3⟩:=N.own t F _ _ k1;rw[O]at o1;simp only[j9,jI]at o1;obtain⟨rfl,rfl⟩:=o1;obtain rfl:=o3 rfl
 have G:∀o,¬q.S b o:=by
  rcases X with⟨_,h|⟨x,h⟩⟩|⟨Y,_,_,_,h,_,_,_,_,_,_,_,I,_⟩|⟨Y,_,_,_,_,_,h,_,_,_,_,_,_,_,_,_,_,I,_⟩
  .cases h
  .cases h;omega
  .cases h;exact I
  .cases h;exact I
 have J:Ext H.length q w q w:=Ext.refl _ _ _
 have p:occ q (H1.set t (.mt e' g' (ds.map .dat))) t=occ q H1 t:=by
  rw[gJ f,gJ (e:=e') (n:=g') (cs:=ds.map .dat) (by simp[k])]
 refine⟨q,by simp[l1],N,?_,E,U.trans ⟨j7 _,λ_ _ _=>rfl,λi b m _=>?_,λb o h=>.inl h⟩,e',g',cs,hm,by simp[mtOf,k,fB.mtOf],u⟩
 .refine l.turn J (j7 _) y8 _ k (λ_ _ _ _=>rfl) (λ_ _ _ _ _ h=>h) (λ_ _ _=>rfl) (λC hc=>by cases hc) (λ_ _ h=>by cases h) (λi b K L h=>?_) (λe2 n2 Z hc=>?_) (hmt0:=λ_ _ hc=>by cases hc;exact l.mt0 _ _ _ f)
  .rw[p]at h;exact K (l.sep i _ _ L h)
  .cases hc;refine⟨_,O,.inr (.inl ⟨b,n,cap,cur,rfl,q0,q1,q2,q3,⟨by rw[jY,l2];exact q4.1,tw u⟩,q5,q6,G,λj v c a1 y=>?_⟩)⟩;rw[jD,j5]at y;obtain⟨d,y,rfl⟩:=y;exact .dat _ _ (V j v d (by simpa using a1) y)
 .refine⟨i,?_⟩;by_cases Q:i=t
  .subst Q;rw[p]at m;exact m
  .unfold occ at m |-
   rwa [dv (λh=>Q h.symm)]at m
theorem Hq{t:fq}{f:Array (Nat×Operand)}{z:fy}{n:Nat->Option (Nat×Nat)}{cs:List PV}{k:Nat}(A:o.op=.build t f)(B:fL P t=some z)(p:rh P t=some n)(C:kW n (z.cells.map PV.dat) (f.toList.map λ(i,x)=>(i,(ρ x).cells))=some cs)(l:f.toList.all (λ(_,x)=>(ρ x).cells.all PV.cell)=true)(q:lb n k f.toList=true)(r:cs[k]?=some (.dat (.lst [])))(s:∀x,fC g H.length w (a.eval x) (ρ x)):
  ∃vals:Array Value,fQ P o a w (.agg vals) w/\vals.size=cs.length/\vals[k]?=some (.slice none 0 0)/\∀(j:Nat) v c,vals[j]?=some v->cs[j]?=some c->fC g H.length w v c:=by
 obtain⟨i,D,E,F,G,I,_⟩:=gE B;obtain⟨J,K⟩:=(G w g.S).cells;have m:∀i x,(i,x)∈f.toList->ρ x≠.undef:=λi x L=>jn (by have:=an.1 l (i,x) L;exact this)
 obtain⟨vals,M,O,X,Q,R⟩:=A4 (a:=a) (ρ:=ρ) f.toList D.cells _ _ C (by simpa using J) (λj v c T y=>by
  simp only[jD,j5]at y;obtain⟨d,u,rfl⟩:=y;exact fC.dat (N:=H.length) _ _ (K j v d T u)) s m
 refine⟨vals,.inl ?_,O,?_,Q⟩
 .have U:=run_build (P:=P) w t (f.map λ(i,x)=>(i,a.eval x)) vals (by rw[pg p E F];simpa using M);simp only[execOp,A,Sem.run_bind];rw[U];rfl
 .obtain⟨V,W⟩:=R k q;rw[V];rw[W]at r;simp only[jD,j5]at r;obtain⟨d,u,e⟩:=r;cases e;exact I k u
theorem Ep{t h:Nat}{k:Nat}{r:fq}{d:Array (Nat×Operand)}{z:fy}{s:Nat->Option (Nat×Nat)}{cs l:List PV}{ds:List fy}{H1:List fB}{e:fq}{gg:Nat}(L:o.op=.build r d)(M:fL P r=some z)(u:rh P r=some s)(N:kW s (z.cells.map PV.dat) (d.toList.map λ(i,x)=>(i,(ρ x).cells))=some cs)(m:d.toList.all (λ(_,x)=>(ρ x).cells.all PV.cell)=true)(y:lb s k d.toList=true)(J:cs[k]?=some (.dat (.lst [])))(f:xP H t=some (ds,H1))(hm:mtOf H1 h=some (e,gg,l))(O:Qm P g B0 H.length H w)(hi:Inv B0 w0 S0 g w)(A:∀x,fC g H.length w (a.eval x) (ρ x)):
  oA P B0 w0 S0 H g w o a (mkAgg (cs.set k (.ms h (gg+1) 0 0 0))) (H1.set h (.mt e (gg+1) [])):=by
 obtain⟨vals,Q,R,S,T⟩:=Hq L M u N m y J A;obtain⟨U,l1,V,n,B,W,_⟩:=Gd f O hi;have C:=Zb hm;simp only at C;have D:h<H1.length:=(ae.1 C).1;rw[<-l1]at n;obtain⟨X,E,F,Y⟩:=AA C n B;have p:Ext H.length g w (U.give0 H1 h gg (lK l)) w:=V.trans X y8;have G:k<cs.length:=(ae.1 J).1;refine⟨.agg vals,_,w,Q,⟨p,by simp[l1],?_,by simpa using E,F,W.trans Y⟩⟩;refine fC.mkAgg (by simpa using R) λj v c I q=>?_
 rw[zE]at q;by_cases K:k=j
 .subst K;rw[ai rfl,ai G]at q;cases q;rw[S]at I;cases I;exact .ms _ _ _ _ _ _ (.slice none 0 0) (gg+1) (by simpa using D) (by simp[Gh.give0]) (j7 _) (λ_=>⟨rfl,.inl rfl⟩) ⟨none,0,rfl,j7 _,j7 _,λh=>absurd h (jZ _)⟩
 .rw[af K]at q;exact(T j v c I q).ext p (by simp[l1])
theorem CM{t e:fq}{size:Nat}{c:Array (Nat×Operand)}{x:ft}(B:o.op=.buildSlice t 1 c)(C:c.toList=[(0,x)])(D:fA P t=some e)(s:fJ P e=some size)(l:(fL P e).isSome=true)(hl:(ρ x).cells.length=size)(hc:(ρ x).cells.all PV.cell=true)(h0:0<size)(E:size<=16777216)(F:Qm P g B0 H.length H w)(hi:Inv B0 w0 S0 g w)(m:∀x,fC g H.length w (a.eval x) (ρ x)):
  oA P B0 w0 S0 H g w o a (.arr H.length 0 1 1) (H++[.box (ρ x).cells]):=by
 obtain⟨z,l⟩:=aA.1 l;obtain⟨u,n,y,G,_⟩:=gE l;have f:u.size=size:=by simp only[fJ,y,jN,j9]at s;exact s
 obtain⟨c1,c2⟩:=(m x).cells (jn hc)
 obtain⟨vals,I,J,K,_⟩:=lS (size:=size) [(0,a.eval x)] 0 ((Array.range (1*size)).map (n.cells[· %n.cells.size]!)) (λi q h=>by
  cases i with
  |zero=>simp at h;subst h;exact⟨rfl,by rw[c1,hl]⟩
  |succ i=>simp at h) yA
 have p:vals.size=size:=by rw[J];simp
 have L:(Instr.buildSlice t 1 (c.map λ(i,x)=>(i,a.eval x))).run P w=.ok (.slice (some ⟨w.heap.size,0,none⟩) 1 1) (w.alloc (.cells vals e)):=by
  refine run_buildSlice w t e 1 _ vals u n (QM D) y G (by rw[f];omega) (by rw[f];omega) ?_;rw[f];simpa[C]using I
 have k:=rV (P:=P) (S0:=S0) (w0:=w0) F hi vals e (ρ x).cells (by rw[p,hl]) (λj v d M A=>by
  have O:j<size:=by rw[<-hl];exact(ae.1 A).1
  have r:=K 0 j (0,a.eval x) rfl O;simp only[zX,fe,zY]at r;rw[M]at r;exact c2 j v d r.symm A)
 refine⟨.slice (some ⟨w.heap.size,0,none⟩) 1 1,g.box H.length w.heap.size,w.alloc (.cells vals e),.inl (by simp[execOp,B,L]),k.ext,k.len,?_,k.heap,k.inv,k.fr⟩;have:=fC.arr (g:=g.box H.length w.heap.size) (N:=(H++[fB.box (ρ x).cells]).length) (w:=w.alloc (.cells vals e)) H.length 0 1 1 ⟨by simp,.inl rfl⟩ (j7 _)
 rwa [show(g.box H.length w.heap.size).blk H.length=w.heap.size by simp[Gh.box]]at this
theorem xr{e bytes size tt gg len cap i:Nat}{x s:ft}{ts:fq}{cs f:List PV}(ho:o.op=.call {callee:=.builtin .append,args:=#[s,x],argTypes:=#[ts,ts]})(G:fA P ts=some e)(Q:fJ P e=some size)(hb:bytesOf P e=some bytes)(hz:(fL P e).map fy.num=some size)(h0b:0<bytes)(h0:0<size)(hsv:ρ s=.ms tt gg 0 len cap)(hxv:ρ x=.arr i 0 1 1)(hm:mtOf H tt=some (e,gg,cs))(hbx:H[i]?=some (.box f))(R:cs.length=len*size)(T:cs.all PV.flat=true)(I:f.length=size)(hpc:f.all PV.cell=true)(k:(len+1)*bytes<=gO)(hH:Qm P g B0 H.length H w)(hi:Inv B0 w0 S0 g w)(hρ:∀x,fC g H.length w (a.eval x) (ρ x)):
  oA P B0 w0 S0 H g w o a (.ms tt (gg+1) 0 (len+1) (len+1)) (H.set tt (.mt e (gg+1) (cs++f))):=by
 simp only[j5]at hz;obtain⟨z,hz,hzn⟩:=hz;obtain⟨U,E,i1,i2,i3,_⟩:=gE hz;have J:U.size=size:=by simp only[fJ,i1,jN,j9]at Q;exact Q
 have V:U.bytes=bytes:=by simp only[bytesOf,i1,jN,j9]at hb;exact hb
 have l:=qW hpc;obtain⟨x1,⟨vals,ty,x2,x3,x4⟩,x5⟩:=hH.box i f hbx;have W:=hρ x;rw[hxv]at W
 have K:a.eval x=.slice (some ⟨g.blk i,0,none⟩) 1 1:=by
  generalize a.eval x=u at W;cases W;rfl
 have m:∀(j:Nat) u,vals.toList[j]?=some u->w.cell? ((⟨g.blk i,0,none⟩:Addr).add j)=some u:=λj u hu=>by
  rw[iv,zY,cell_of_row w _ _ vals _ (0,0) x2];simpa using hu
 have M:vals.toList.length=1*U.size:=by simp[J,x3,I]
 have p:∀(j:Nat) u c,vals.toList[j]?=some u->f[j]?=some c->fC g H.length w u c:=λj u c h1 h2=>x4 j u c (by simpa using h1) h2
 have hone:∀u∈vals.toList,u.oneCell'=true:=λu hu=>by
  obtain⟨j,hj⟩:=aL hu;have hl:j<f.length:=by rw[<-x3];simpa using(ae.1 hj).1
  exact kA (p j u _ hj (jC hl)) (an.1 hpc _ (zC hl))
 have q:vals.toList.length=f.length:=by simp[x3]
 have r:=hρ s;rw[hsv]at r;generalize hvs:a.eval s=vs at r
 have N:∀v w',(Builtin.append_ #[ts,ts] o.type #[vs,a.eval x]).run P w=.ok v w'->fQ P o a w v w':=λv w' F=>by
  left;simp[execOp,ho,resolve,invoke,builtin,hvs,F]
 have y:=Zb hm;simp only at y;have hL:(len+1)*size=cs.length+f.length:=by rw[R,I,av,bA]
 have hlb:len+1<=gO:=jW (aD _ h0b) k;have A:len+1<=maxLen:=by simp only[gO]at hlb;simp only[maxLen];omega
 have h63:((len+1:Nat):Int)<=9223372036854775807:=by simp only[gO]at hlb;omega
 have X:∀n,(Builtin.zeroCells E.cells n).size=n*size:=λn=>by
  have:=size_zeroCells E.cells n
  have hzz:E.cells.size=size:=by
   obtain⟨y1,_⟩:=(i3 w g.S).cells;rw[y1,<-fy.num_eq,hzn]
  rw[this,hzz]
 cases r with
 |ms _ _ _ _ _ v v0 mm k1 k2 k3 k4 k5=>
  obtain⟨v1,j1,j2⟩:=hH.mt tt _ _ _ y;have t:=k2;rw[k2]at j1;simp only[j9,jI]at j1;obtain⟨rfl,rfl⟩:=j1;obtain⟨hv,hbase⟩:=k4 rfl;rcases j2.flat T with⟨hnil,hv0⟩|⟨b,l',d,cur,rfl,q0,q1,q2,⟨sz,q3,q3p,q6⟩,q4,q5,q6',q7,q8⟩
  .subst hnil
   obtain rfl:len=0:=by
    cases len with
    |zero=>rfl
    |succ n=>simp only[jL,av,bA]at R;omega
   rcases hv0 with rfl|⟨a0,rfl⟩
   .have F:=run_append_nil (P:=P) w ts o.type e U E (QM G) i1 i2 ⟨g.blk i,0,none⟩ 1 1 vals.toList M m yC yC (by rw[V];simp only[gO]at k;omega);have B:=grownCap_ge w 1 0 e;have C:=grownCap_le_maxLen w 1 0 e (by simpa using A)
    obtain⟨g',Y⟩:=uS (P:=P) (S0:=S0) (w0:=w0) (L:=1) (size:=size) (olds:=[]) (zs:=Builtin.zeroCells E.cells (grownCap w 1 0 e - 1)) (cap:=grownCap w 1 0 e) y t Q h0 (by simpa using hL) B rfl l C y8 rfl q
     (by rw[X,fh];simp[I]) (λj u c h=>by simp at h) p hH hi (vals.toList.toArray++Builtin.zeroCells E.cells (grownCap w 1 0 e - 1)) yA
    exact⟨_,g',_,N _ _ (by rw[K,hv];exact F),by simpa using Y⟩
   .have O:vs=.slice (some (a0.add 0)) 0 0:=by rw[hv];simp[gP]
    have F:=run_append_grow (P:=P) w ts o.type e U E (QM G) i1 i2 (a0.add 0) 0 0 [] yA (λj v h=>by simp at h) ⟨g.blk i,0,none⟩ 1 1 vals.toList M m y8 yC (growslice_fits y8 (by rw[V];simpa[gO]using k));have B:=grownCap_ge w (0+1) 0 e;have C:=grownCap_le_maxLen w (0+1) 0 e (by simpa using A)
    obtain⟨g',Y⟩:=uS (P:=P) (S0:=S0) (w0:=w0) (L:=0+1) (size:=size) (olds:=[]) (zs:=Builtin.zeroCells E.cells (grownCap w (0+1) 0 e - (0+1))) (cap:=grownCap w (0+1) 0 e) y t Q h0 (by simpa using hL) B rfl l C y8 rfl q
     (by rw[X,fh];simp[I]) (λj u c h=>by simp at h) p hH hi _ rfl
    exact⟨_,g',_,N _ _ (by rw[K,O];exact F),Y⟩
  .rw[Q]at q3;cases q3;have O:vs=.slice (some ⟨b,0,none⟩) len d:=by rw[hv];simp[gP,Addr.add]
   by_cases D:len+1<=d
   .have hLc:(len+1)*size<=d*size:=au _ D;have F:=run_append_room (P:=P) w ts o.type e U (QM G) i1 b len d cur q2 ⟨g.blk i,0,none⟩ 1 1 vals.toList M m hone D (by rw[J,q];omega);rw[J,<-R]at F;obtain⟨g',Y⟩:=Cr (P:=P) (S0:=S0) (w0:=w0) (L:=len+1) y t rfl q0 q1 q2 Q h0 hL T q5 q6 q7 q8 q l D p hH hi;exact⟨_,g',_,N _ _ (by rw[K,O];exact F),Y⟩
   .have Z:∀(j:Nat) v,(cur.toList.take cs.length)[j]?=some v->w.cell? ((⟨b,0,none⟩:Addr).add j)=some v:=λj v h=>by
     rw[jR]at h;split at h
     .rw[iv,zY,cell_of_row w _ _ cur _ (0,0) q2];simpa using h
     .cases h
    have F:=run_append_grow (P:=P) w ts o.type e U E (QM G) i1 i2 ⟨b,0,none⟩ len d (cur.toList.take cs.length) (by rw[J];simp;omega) Z ⟨g.blk i,0,none⟩ 1 1 vals.toList M m y8 h63 (growslice_fits y8 (by rw[V];simpa[gO]using k));have B:=grownCap_ge w (len+1) d e;have C:=grownCap_le_maxLen w (len+1) d e A
    obtain⟨g',Y⟩:=uS (P:=P) (S0:=S0) (w0:=w0) (L:=len+1) (size:=size) (olds:=cur.toList.take cs.length) (zs:=Builtin.zeroCells E.cells (grownCap w (len+1) d e - (len+1))) (cap:=grownCap w (len+1) d e) y t Q h0 hL B T l C y8 y9 q
     (by rw[X,fh,hL]) (λj u c g1 g2=>by
      rw[jR]at g1;split at g1
      .exact q8 j u c (by simpa using g1) g2
      .cases g1) p hH hi _ rfl
    exact⟨_,g',_,N _ _ (by rw[K,O];exact F),Y⟩
theorem DL(size len:Nat)(ds:List fy):(mh size len ds).length=len:=by simp[mh]
theorem vE{size len i:Nat}{ds:List fy}{d:fy}(h:(mh size len ds)[i]?=some d):i<len/\d=.agg ((ds.drop (i*size)).take size):=by
 simp only[mh,jD,j5]at h;obtain⟨j,f,rfl⟩:=h;obtain⟨c,e⟩:=ae.1 f;simp at c e;exact⟨c,by rw[<-e]⟩
theorem BY{t gg len cap size:Nat}{x:ft}{e:fq}{ds:List fy}{B:List PV}{H1:List fB}(W:o.op=.move x)(X:ρ x=.ms t gg 0 len cap)(k:xP H t=some (ds,H1))(hm:mtOf H1 t=some (e,gg,B))(Y:fJ P e=some size)(h1:1<size)(hl:ds.length=len*size)(Z:Qm P g B0 H.length H w)(hi:Inv B0 w0 S0 g w)(C:∀x,fC g H.length w (a.eval x) (ρ x)):
  oA P B0 w0 S0 H g w o a (.dat (.lst (mh size len ds))) (H1.set t (.mt e (gg+1) [])):=by
 obtain⟨g1,l1,Q,l,D,f1,e',gg',cs,q1,q2,q3⟩:=Gd k Z hi;rw[hm]at q2;simp only[j9,jI]at q2;obtain⟨rfl,rfl,rfl⟩:=q2;have A:=Zb hm;simp only at A;have R:=C x;rw[X]at R;have m:=R.ext Q (j7 _);rw[<-l1]at l m;obtain⟨S,E,F,f2⟩:=AA A l D;refine⟨a.eval x,_,w,.inl (by simp[execOp,W]),⟨Q.trans S y8,by simp[l1],.dat _ _ ?_,by simpa using E,F,f1.trans f2⟩⟩;generalize a.eval x=v at m;cases m with
 |ms _ _ _ _ _ v v0 mm k1 k2 k3 k4 k5=>
  obtain⟨v1,G,j2⟩:=l.mt t _ _ _ A;have q:=k2;rw[k2]at G;simp only[j9,jI]at G;obtain⟨rfl,rfl⟩:=G;obtain⟨I,J⟩:=k4 rfl;rcases j2.flat (tw q3)with⟨r,K⟩|⟨b,l',c,cur,rfl,q0,q1,q2,⟨sz,T,r3p,q6⟩,q4,q5,q6',q7,q8⟩
  .have s:ds=[]:=by simpa using r
   subst s
   obtain rfl:len=0:=by
    cases len with
    |zero=>rfl
    |succ n=>simp only[jL,av,bA]at hl;omega
   rcases K with rfl|⟨a0,rfl⟩
   .rw[I];exact .nil
   .rw[I];exact .empty _ _
  .rw[Y]at T;cases T;obtain⟨a9,c9,U,_,L,_⟩:=k5;have y:v=.slice (some ⟨b,0,none⟩) len c:=by rw[I];simp[gP,Addr.add]
   rw[y]at U;cases U;have M:=wC (tw q3);rw[jY]at M;have hcl:len*size<=cur.size:=by have:=q4.1;rw[jY]at this;omega
   rw[y];refine .lst b 0 len c size (mh size len ds) (λj=>cur.getD j undef) (DL _ _ _).symm L (λd s=>?_) (λj hj=>?_) (λN j d u s p=>?_)
   .obtain⟨i,O⟩:=aL s;obtain⟨V,rfl⟩:=vE O
    have:(i+1)*size<=len*size:=au _ V
    rw[av,bA]at this;simp[fy.num];omega
   .have z:j<cur.size:=by omega
    refine⟨?_,.inr ⟨?_,by omega⟩⟩
    .rw[zY,cell_of_row w _ _ cur _ (0,0) q2,jH,jA z];rfl
    .rw[gJ A,q];simp[fG];omega
   .obtain⟨V,rfl⟩:=vE s;simp only[fy.cells]at p;rw[jR]at p;split at p
    .rename_i hj;rw[zI]at p;have z:N*size+j<ds.length:=(ae.1 p).1;have f:N*size+j<cur.size:=by omega
     have:=((q8 (N*size+j) _ _ (jA f) (by rw[jD,p];rfl)).datInv).ext S
     simpa[jH,jA f]using this
    .cases p
theorem uE{s:fq}{x:ft}{f:Nat}{fs:List Field}{c:Field}{k t gg j:Nat}{e:fq}{cs:List PV}(u:o.op=.fieldAddr s x f)(d:fieldsOf P s=some fs)(m:fs[f]?=some c)(y:fJ P c.type=some (k+1))(z:ρ x=.mp t gg j)(hm:mtOf H t=some (e,gg,cs))(q:Qm P g B0 H.length H w)(hi:Inv B0 w0 S0 g w)(p:∀x,fC g H.length w (a.eval x) (ρ x)):
  oA P B0 w0 S0 H g w o a (.mp t gg (j+c.offset)) H:=by
 have h:=p x;rw[z]at h;generalize A:a.eval x=v at h;cases h with
 |mp _ _ _ v v0 n B r C D G=>
  obtain⟨I,k1,_⟩:=q.mt t _ _ _ (Zb hm);rw[r]at k1;simp only[j9,jI]at k1;obtain⟨rfl,rfl⟩:=k1;obtain⟨E,l,cap,F,rfl⟩:=D rfl;exact⟨_,g,w,.inl (nJ u d m y A),.same q hi (.mp _ _ _ _ v0 _ B r C (λ_=>⟨E,l,cap,F,rfl⟩) ⟨_,rfl⟩)⟩
theorem Hu{l:List Nat}(y:Qm P g B0 H.length H w)(hi:Inv B0 w0 S0 g w)(n:∀x,fC g H.length w (a.eval x) (ρ x))(d:sF P l o ρ H=some (p,H')):oA P B0 w0 S0 H g w o a p H':=by
 unfold sF at d;split at d
 .rename_i s x f u;split at d
  .rename_i fs A;split at d
   .rename_i fd B;split at d
    .rename_i k t gg j C D;split at d
     .rename_i e g' cs hm;split at d
      .rename_i R;subst R;cases d;exact uE u A B C D hm y hi n
      .cases d
     .cases d
    .cases d
   .cases d
  .cases d
 .rename_i t hh k S v u;split at d
  .rename_i cs ds H1 r m;split at d
   .rename_i e gg E hm;cases d;unfold Gf at r;split at r
    .rename_i z pl T F;split at r
     .rename_i U V;split at r
      .rename_i hc;split at r
       .rename_i C;cases r;exact Ep u T F V hc.1 hc.2 C m hm y hi n
       .cases r
      .cases r
     .cases r
    .cases r
   .cases d
  .cases d
 .rename_i S len v u;split at d
  .rename_i e x G W;split at d
   .rename_i size q;split at d
    .rename_i hc;obtain⟨rfl,c1,c2,I,J,K⟩:=hc;cases d;exact CM u W G q c1 c2 I J K y hi n
    .cases d
   .cases d
  .cases d
 .rename_i c u;obtain⟨callee,args,ts⟩:=c;simp only at d;split at d
  .rename_i t O tt gg lo len cap i Q X;split at d
   .rename_i e e' g' cs Y G hm L;split at d
    .rename_i size bytes q M;split at d
     .rename_i hc;obtain⟨⟨rfl,c1,c2⟩,⟨I,rfl,rfl,rfl⟩,⟨J,K⟩,⟨Z,c7⟩,c8⟩:=hc;cases d;obtain⟨s',x',rfl,k1,k2⟩:=nU X
      have N:ts=#[O,O]:=by
       obtain⟨l⟩:=ts;simp only at Q;rw[Q]
      subst N;exact xr u G q M c2 c1 I k1.symm k2.symm hm L J K Z c7 c8 y hi n
     .cases d
    .cases d
   .cases d
  .cases d
 .rename_i x u;split at d
  .rename_i t gg lo len cap D;split at d
   .rename_i ds H1 m;split at d
    .rename_i e g' E hm;split at d
     .rename_i size q;split at d
      .rename_i hc;obtain⟨rfl,rfl,c1,c2⟩:=hc;cases d;exact BY u D m hm q c1 c2 y hi n
      .cases d
     .cases d
    .cases d
   .cases d
  .cases d
 .cases d
theorem xB{l:List Nat}(d:sF P l o ρ H=some (p,H')):∀c,o.op≠.defer c:=λc e=>by
 unfold sF at d;split at d
 all_goals first
  |(rename_i f;rw[f]at e;cases e;done)
  |cases d
theorem lT(s:rm F)(d:iX P pf call){r:Nat}{ops:Array Oper}{fl:List (Nat×List Nat)}{Q:Exit->Act->fk->Prop}:∀(os:List Oper) (i:Nat) (st st':St) (g:Gh) (a:Act) (w:fk),
  oT P call h r ops fl i os st=some st'->(∀j,os[j]?=ops[i+j]?)->kT P B0 w0 S0 Nb g st a w->
  (∀g' G w',Ext Nb g w g' w'->Fr g st.heap w g' st'.heap w'->kT P B0 w0 S0 Nb g' st' G w'->G.defers=a.defers->Q .normal G w')->wpOpsIn F m P ops Q (List.range' i os.length) a w
 |[],i,st,st',g,a,w,n,_,hst,t=>by
  cases n;exact t g a w (Ext.refl _ _ _) (Fr.refl _ _ _) hst rfl
 |o::os,i,st,st',g,a,w,n,hl,hst,t=>by
  have h0:ops[i]?=some o:=by simpa using(hl 0).symm
  have q:∀j,os[j]?=ops[i+1+j]?:=λj=>by have:=hl (j+1);rw[show i+1+j=i+(j+1) by omega];simpa using this
  simp only[zG,cA,wpOpsIn,h0];unfold oT at n;split at n
  .rename_i L c;unfold rP at c;split at c
   .unfold iJ at c;split at c
    .rename_i hw;rw[jw hst.rep hw,ai rfl];split at c
     .rename_i v H k;cases c;refine s6 s d k hst λu g' w' l=>?_
      refine lT s d os (i+1) _ _ g' _ w' n q (hst.put l o.dst) λy z A B C e D=>?_
      exact t y z A ((l.ext.less hst.base).trans B (j7 _)) (l.fr.trans C) e (D.trans (iH _ _ _))
     .cases c
    .rename_i hw;rw[jw hst.rep hw];simp only[j6,aj];cases c;refine⟨λf _=>s.fn f,?_⟩;refine lT s d os (i+1) _ _ g _ w n q ⟨hst.heap,hst.inv,hst.rep.put o.dst mw,hst.base⟩ λy z A B C e D=>?_
     exact t y z A B C e (D.trans (iH _ _ _))
    .cases c
   .split at c
    .rename_i I;have hw:fU ops st.slots o=some true:=by simp[fU,I]
     rw[jw hst.rep hw,ai rfl];rw[j5]at c;obtain⟨⟨p,H'⟩,k,M⟩:=c;subst M;have J:∀x,fC g st.heap.length w (a.eval x) (ev st.slots x):=λx=>hst.rep.ev x
     refine⟨λf _=>s.fn f,?_⟩;rw[Oper.semAt_eq _ _ _ (xB k)]
     have fin:∀u g' w',Good P B0 w0 S0 st.heap g w p H' u g' w'->wpOpsIn F m P ops Q (List.range' (i+1) os.length) (a.put o.dst u) w':=λu g' w' l=>by
      refine lT s d os (i+1) _ _ g' _ w' n q (hst.put l o.dst) λy z A B C e D=>?_
      exact t y z A ((l.ext.less hst.base).trans B (j7 _)) (l.fr.trans C) e (D.trans (iH _ _ _))
     obtain⟨v,g',w',E,l⟩:=Hu (a:=a) hst.heap hst.inv J k;rcases E with K|⟨K,rfl⟩
     .rw[K];exact fin v g' w' l
     .rw[K];exact fin undef g' w' l
    .cases c
  .cases n
end
end Go.Pm
