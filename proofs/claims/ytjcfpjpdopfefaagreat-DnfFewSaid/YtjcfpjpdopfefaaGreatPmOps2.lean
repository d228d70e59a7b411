/-
 The pure machine: soundness of the operations that read, move and name.
-/
import Derived.Test.YtjcfpjpdopfefaaGreatPmHeap
namespace Go.Pm
open Go Go.RowKit
set_option linter.all false
structure Good (P:fm) (B0:Nat) (w0:fk) (S0:Nat->Nat->Prop) (H:List fB) (g:Gh) (w:fk) (p:PV) (H':List fB) (v:fu) (g':Gh) (w':fk):Prop where
 ext:Ext H.length g w g' w'
 len:H.length<=H'.length
 rep:fC g' H'.length w' v p
 heap:Qm P g' B0 H'.length H' w'
 inv:Inv B0 w0 S0 g' w'
 fr:Fr g H w g' H' w'
section
variable{P:fm}{B0:Nat}{w0:fk}{S0:Nat->Nat->Prop}{g:Gh}{H H':List fB}{w:fk}{p:PV}{o:Oper}{a:Act}{ρ:ft->PV}
theorem Good.same(c:Qm P g B0 H.length H w)(hi:Inv B0 w0 S0 g w){v:fu}(d:fC g H.length w v p):Good P B0 w0 S0 H g w p H v g w:=
 ⟨Ext.refl _ _ _,j7 _,d,c,hi,Fr.refl _ _ _⟩
theorem hZ{t:fq}{n:Nat}(h:fJ P t=some n)(w:fk):(sizeOf t).run P w=.ok n w:=by
 simp only[fJ,j5]at h;obtain⟨i,h,rfl⟩:=h;simp[sizeOf,typeInfo,h]
theorem xm{t:fq}{b:Bool}(h:pF P t=some b)(w:fk):(isAgg t).run P w=.ok b w:=by
 simp only[pF,j5]at h;obtain⟨d,h,rfl⟩:=h;simp only[isAgg,Sem.run_bind,run_underlying h,Result.andThen_ok];cases d<;>rfl
theorem QM{t e:fq}(h:fA P t=some e):P.underlying t=some (.slice e):=by
 unfold fA at h;split at h
 .cases h;assumption
 .cases h
theorem oG{t:fq}{fs:List Field}(h:fieldsOf P t=some fs):P.underlying t=some (.struct fs.toArray):=by
 unfold fieldsOf at h;split at h
 .cases h;simpa
 .cases h
theorem mz{N:Nat}{v:fu}{p:PV}{b:Bool}(h:fC g N w v p)(c:nF p=some b):v=.bool b:=by
 unfold nF at c;split at c
 .cases c;exact h.toVal rfl
 .cases c
theorem jd{N:Nat}{v:fu}{p:PV}{n:Nat}(h:fC g N w v p)(c:pV p=some n):∃k,v=.int k n:=by
 unfold pV at c;split at c
 .rename_i k i;split at c
  .rename_i h0;cases c;exact⟨k,by rw[h.toVal rfl];congr 1;omega⟩
  .cases c
 .cases c
theorem E8(x:ft)(c:o.op=.move x\/o.op=.assign x)(e:Qm P g B0 H.length H w)(hi:Inv B0 w0 S0 g w)(d:∀x,fC g H.length w (a.eval x) (ρ x)):
  ∃v g' w',fQ P o a w v w'/\Good P B0 w0 S0 H g w (ρ x) H v g' w':=by
 refine⟨a.eval x,g,w,.inl ?_,.same e hi (d x)⟩;rcases c with c|c<;>simp[execOp,c]
theorem M7{c x y:ft}{t:Bool}(e:o.op=.pick c x y)(f:nF (ρ c)=some t)(j:Qm P g B0 H.length H w)(hi:Inv B0 w0 S0 g w)(d:∀x,fC g H.length w (a.eval x) (ρ x)):∃v g' w',fQ P o a w v w'/\Good P B0 w0 S0 H g w (if t then ρ x else ρ y) H v g' w':=by
 have hc:=mz (d c) f;refine⟨if t then a.eval x else a.eval y,g,w,.inl ?_,.same j hi ?_⟩
 .simp[execOp,e,hc,asBool]
 .cases t
  .exact d y
  .exact d x
theorem wE(f:Qm P g B0 H.length H w)(hi:Inv B0 w0 S0 g w)(e:fq):
  Good P B0 w0 S0 H g w (.vec H.length []) (H++[.tok e 0]) (.slice none 0 0) (g.give H.length (.slice none 0 0) 0) w:=by
 have c:Ext H.length g w (g.give H.length (.slice none 0 0) 0) w:=.giveNew _ _ _ (j7 _);refine⟨c,by simp,.vec _ _ _ (.slice none 0 0) 0 yA .nil (by simp[Gh.give]) (j7 _) yB,?_,⟨hi.below,hi.size,hi.old,hi.lt⟩,Fr.old (j7 _) (λ_ _=>rfl) λi b h _=>?_⟩
 case refine_2=>
  rcases oh h with h|⟨_,⟨cs,h,_⟩|⟨e',n,_,h⟩⟩
  .exact⟨i,gD (g:=g) h (λ_ _=>rfl) (λj k=>by simp only[Gh.give];rw[af y8])⟩
  .cases h
  .simp[Gh.give,Value.ownBlock]at h
 refine Qm.snoc (f.keep c yA (j7 _) (λ_ _ _=>rfl) (λ_ _ _ _ h=>h) (λt l=>by simp[Gh.give];omega)) _ (λcs h=>by cases h) (λe' n h=>?_) (λi b h d=>?_)
 .cases h;exact⟨.slice none 0 0,by simp[Gh.give],.inl ⟨rfl,rfl⟩⟩
 .rw[kh (e:=e) (n:=0) yA]at d;simp[Gh.give,Value.ownBlock]at d
theorem xG{e:fq}(c:o.op=.assign (.const (.slice none 0 0)))(d:Qm P g B0 H.length H w)(hi:Inv B0 w0 S0 g w):
  ∃v g' w',fQ P o a w v w'/\Good P B0 w0 S0 H g w (.vec H.length []) (H++[.tok e 0]) v g' w':=
 ⟨_,_,w,.inl (by simp[execOp,c,Act.eval]),wE d hi e⟩
theorem ny{x:ft}{p:PV}(e:o.op=.nilCheck x)(l:ρ x=p)(h:(∃i off,p=.ptr i off)\/(∃cs,p=.iptr cs)\/(∃f cap,p=.fn f cap)\/(∃f k cap,p=.dat (.raw (.func (.func f) k cap))))(m:Qm P g B0 H.length H w)(hi:Inv B0 w0 S0 g w)(j:∀x,fC g H.length w (a.eval x) (ρ x)):
  ∃v g' w',fQ P o a w v w'/\Good P B0 w0 S0 H g w p H v g' w':=by
 have c:=j x;rw[l]at c;refine⟨a.eval x,g,w,.inl ?_,.same m hi c⟩;rcases h with⟨i,off,rfl⟩|⟨cs,rfl⟩|⟨f,cap,rfl⟩|⟨f,k,cap,rfl⟩
 .generalize d:a.eval x=v at c;cases c;simp[execOp,e,d]
 .generalize d:a.eval x=v at c;cases c;simp[execOp,e,d]
 .generalize d:a.eval x=v at c;cases c;simp[execOp,e,d]
 .have:=c.toVal (u:=.func (.func f) k cap) rfl;simp[execOp,e,this]
theorem Dr{f:fo}{cap:Array Operand}(l:o.op=.makeFunc (.func f) #[] cap)(m:Qm P g B0 H.length H w)(hi:Inv B0 w0 S0 g w)(e:∀x,fC g H.length w (a.eval x) (ρ x)):∃v g' w',fQ P o a w v w'/\Good P B0 w0 S0 H g w (.fn f (cap.toList.map ρ)) H v g' w':=by
 refine⟨.func (.func f) #[] (cap.map a.eval),g,w,.inl ?_,.same m hi (.fn _ _ _ yA λj v c d k=>?_)⟩
 .simp[execOp,l,Instr.makeFunc]
 .simp only[zK,j5]at d;obtain⟨x,d,rfl⟩:=d;simp only[jD,zH,d,jN,j9]at k;subst k;exact e x
theorem Ak{f:fo}(c:o.op=.makeFunc (.func f) #[] #[])(d:Qm P g B0 H.length H w)(hi:Inv B0 w0 S0 g w):
  ∃v g' w',fQ P o a w v w'/\Good P B0 w0 S0 H g w (.dat (.raw (.func (.func f) #[] #[]))) H v g' w':=
 ⟨.func (.func f) #[] #[],g,w,.inl (by simp[execOp,c,Instr.makeFunc]),.same d hi (.dat _ _ (.raw _ rfl))⟩
theorem yj{S:Nat->Nat->Prop}{cs:List fy}(n:Nat){b off:Nat}{c:Nat->fu}(d:∀i,i<cs.length->w.cell? ⟨b,off+i,none⟩=some (c i)/\S b (off+i))(e:∀(i:Nat) u,cs[i]?=some u->fY w S (c i) u):
  (∀i,i<(cs.drop n).length->w.cell? ⟨b,off+n+i,none⟩=some (c (n+i))/\S b (off+n+i))/\(∀(i:Nat) u,(cs.drop n)[i]?=some u->fY w S (c (n+i)) u):=
 ⟨λi hi=>by rw[bP];exact d (n+i) (by simp at hi;omega),λi u f=>e _ _ (by simpa using f)⟩
theorem iv(b off n:Nat):(⟨b,off,none⟩:Addr).add n=⟨b,off+n,none⟩:=by
 unfold Addr.add;split
 .rename_i h;subst h;rfl
 .rfl
theorem nJ{s:fq}{x:ft}{f:Nat}{fs:List Field}{d:Field}{k b off:Nat}(j:o.op=.fieldAddr s x f)(e:fieldsOf P s=some fs)(g:fs[f]?=some d)(l:fJ P d.type=some (k+1))(m:a.eval x=.pointer (some ⟨b,off,none⟩)):(execOp a.eval o).run P w=.ok (.value (.pointer (some ⟨b,off+d.offset,none⟩))) w:=by
 have c:(fs.toArray)[f]?=some d:=by simpa using g
 simp[execOp,j,Instr.fieldAt,run_underlying (oG e),c,m,Instr.sureAddr,fieldPlace,hZ l,iv]
theorem tD{s:fq}{x:ft}{f:Nat}{fs:List Field}{c:Field}{k i off:Nat}(m:o.op=.fieldAddr s x f)(d:fieldsOf P s=some fs)(e:fs[f]?=some c)(n:fJ P c.type=some (k+1))(p:ρ x=.ptr i off)(q:Qm P g B0 H.length H w)(hi:Inv B0 w0 S0 g w)(j:∀x,fC g H.length w (a.eval x) (ρ x)):
  ∃v g' w',fQ P o a w v w'/\Good P B0 w0 S0 H g w (.ptr i (off+c.offset)) H v g' w':=by
 have h:=j x;rw[p]at h;generalize r:a.eval x=v at h;cases h with
 |ptr i o l=>exact⟨_,g,w,.inl (nJ m d e n r),.same q hi (.ptr _ _ l)⟩
theorem rS{s:fq}{x:ft}{f:Nat}{fs:List Field}{d:Field}{k:Nat}{cs:List fy}(m:o.op=.fieldAddr s x f)(e:fieldsOf P s=some fs)(j:fs[f]?=some d)(n:fJ P d.type=some (k+1))(p:ρ x=.iptr cs)(q:Qm P g B0 H.length H w)(hi:Inv B0 w0 S0 g w)(l:∀x,fC g H.length w (a.eval x) (ρ x)):
  ∃v g' w',fQ P o a w v w'/\Good P B0 w0 S0 H g w (.iptr (cs.drop d.offset)) H v g' w':=by
 have h:=l x;rw[p]at h;generalize r:a.eval x=v at h;cases h with
 |iptr b o cs c t u=>
  obtain⟨k1,k2⟩:=yj d.offset t u;exact⟨_,g,w,.inl (nJ m e j n r),.same q hi (.iptr _ _ _ (λi=>c (d.offset+i)) k1 k2)⟩
theorem ka{c:Type}{cs ds:List c}{off n:Nat}(h:cut cs off n=some ds):ds.length=n/\off+n<=cs.length/\∀i,i<n->ds[i]?=cs[off+i]?:=by
 unfold cut at h;split at h
 .cases h;refine⟨by simp;omega,by assumption,λi hi=>?_⟩;simp[hi]
 .cases h
theorem ji{t:fq}{b off n:Nat}{c:Bool}(us:List Value)(e:pF P t=some c)(hn:fJ P t=some n)(hl:us.length=n)(f:c=false->n=1)(h:∀(j:Nat) u,us[j]?=some u->w.cell? ⟨b,off+j,none⟩=some u):
  (loadVar t ⟨b,off,none⟩).run P w=.ok (if c then .agg us.toArray else us.headD undef) w:=by
 simp only[loadVar,Sem.run_bind,xm e,Result.andThen_ok];cases c
 .have d:=f rfl;subst d;cases us with
  |nil=>simp at hl
  |cons u us=>
   have:=h 0 u rfl;simp at this;simp[load,Sem.run,this]
 .subst hl;have:=run_loadCells_list (P:=P) w ⟨b,off,none⟩ us (λj v g=>by rw[iv];exact h j v g);simp[hZ hn,this]
theorem Ap{t:fq}{x:ft}{cs ds:List fy}{n:Nat}{s:Bool}{d:fy}(C:o.op=.load t x)(D:ρ x=.iptr cs)(E:pF P t=some s)(hn:fJ P t=some n)(hc:cut cs 0 n=some ds)(f:kL s ds=some d)(F:Qm P g B0 H.length H w)(hi:Inv B0 w0 S0 g w)(y:∀x,fC g H.length w (a.eval x) (ρ x)):
  ∃v g' w',fQ P o a w v w'/\Good P B0 w0 S0 H g w (.dat d) H v g' w':=by
 obtain⟨c1,c2,G⟩:=ka hc;have h:=y x;rw[D]at h;generalize I:a.eval x=v at h;cases h with
 |iptr b off cs c J K=>
  have q:s=false->n=1:=λe=>by
   subst e;unfold kL at f;simp only[j6,aj]at f;split at f
   .rw[<-c1];rfl
   .cases f
  have L:=ji (P:=P) (w:=w) (b:=b) (off:=off) ((List.range n).map c) E hn yA q (λj u p=>by
   simp only[jD,j5]at p;obtain⟨M,r,rfl⟩:=p;obtain⟨m,k⟩:=ae.1 r;simp at m k;subst k;exact(J j y8).1)
  refine⟨_,g,w,.inl (by simp only[execOp,C,I];simp[Instr.loadAt,Instr.sureAddr,L];rfl),.same F hi (.dat _ _ ?_)⟩
  have l:∀(j:Nat) u,ds[j]?=some u->fY w g.S (c j) u:=λj u p=>by
   have r:j<n:=by rw[<-c1];exact(ae.1 p).1
   rw[G j r]at p;exact K j u (by simpa using p)
  cases s
  .have z:=q rfl;subst z;unfold kL at f;simp only[j6,aj]at f |-;split at f
   .rename_i A;cases f;exact l 0 _ rfl
   .cases f
  .simp only[kL,ak,j9]at f;subst f;refine .agg _ _ (by simp[c1]) λj v A B N=>?_
   simp only[aO,jD,j5]at B;obtain⟨M,r,rfl⟩:=B;obtain⟨m,k⟩:=ae.1 r;simp at m k;subst k;exact l j A N
theorem kq:∀(cs:List PV) (ds:List fy),gQ cs=some ds->cs=ds.map .dat
 |[],ds,h=>by cases h;rfl
 | .dat d::r,ds,h=>by
  simp only[gQ,j5]at h;obtain⟨ds',h,rfl⟩:=h;rw[kq r ds' h];rfl
 | .agg _::_,_,h|.tup _::_,_,h|.vec ..::_,_,h|.ptr ..::_,_,h|.iptr _::_,_,h|.arr ..::_,_,h|.fn ..::_,_,h|.undef::_,_,h=>by simp[gQ]at h
theorem Aa{size len:Nat}{ds:List fy}(hl:ds.length=len*size){i j:Nat}{d u:fy}(e:(mh size len ds)[i]?=some d)(f:d.cells[j]?=some u):ds[i*size+j]?=some u/\j<size:=by
 simp only[mh,jD,j5]at e;obtain⟨q,g,rfl⟩:=e;obtain⟨q1,q2⟩:=ae.1 g;simp at q1 q2;subst q2;have c:((ds.drop (i*size)).take size)[j]?=some u:=f;rw[jR]at c;split at c
 .rename_i k;rw[zI]at c;exact⟨c,k⟩
 .cases c
theorem uj{cs:List PV}{o len cap:Nat}{es:List fy}(h:wy cs o len cap=some es):
  ∃k,0<k/\es.length=len/\(∀d,d∈es->d.num=k)/\o+len*k<=cs.length/\∀(i j:Nat) d u,es[i]?=some d->d.cells[j]?=some u->cs[o+(i*k+j)]?=some (.dat u)/\j<k:=by
 unfold wy at h;split at h
 .rename_i hc;obtain⟨rfl,h0,z⟩:=hc;generalize w:cs.length/cap=k at h;have p:0<k:=by rw[<-w];exact Nat.div_pos y8 h0
  simp only[jK]at h;obtain⟨ds,⟨r,f,g⟩,h⟩:=h;split at h
  .cases h;obtain⟨c1,c2,s⟩:=ka f;have e:=kq _ _ g;subst e;simp only[jY]at c1;refine⟨k,p,by simp[mh],λd c=>?_,c2,λi j d u c n=>?_⟩
   .simp only[mh,ar,ct]at c;obtain⟨q,A,rfl⟩:=c
    have:(q+1)*k<=len*k:=au _ y8
    rw[av]at this;simp only[fy.num,zV,y6,c1];omega
   .obtain⟨v,x⟩:=Aa c1 c n;have t:i*k+j<len*k:=by rw[<-c1];exact(ae.1 v).1
    have:=s _ t;rw[jD,v]at this;exact⟨this.symm,x⟩
  .cases h
 .simp only[jK]at h;obtain⟨ds,⟨r,f,g⟩,h⟩:=h;split at h
  .rename_i m;cases h;obtain⟨c1,c2,s⟩:=ka f;have e:=kq _ _ g;subst e;simp only[jY]at c1
   have l:∀d∈es,d.cells=[d]/\d.num=1:=λd c=>by
    have:=an.1 m d c;cases d<;>simp_all [fy.cells,fy.isCell,fy.num]
   refine⟨1,by decide,c1,λd c=>(l d c).2,by omega,λi j d u c n=>?_⟩;rw[(l d (jF c)).1]at n;have y:j=0:=by cases j with|zero=>rfl|succ j=>simp at n
   subst y;simp at n;subst n;have hi:i<len:=by rw[<-c1];exact(ae.1 c).1
   have:=s i hi;rw[jD,c]at this;exact⟨by rw[aK,zX];exact this.symm,by decide⟩
  .cases h
theorem fC.mkAgg{N:Nat}{vs:Array Value}{cs:List PV}(hl:vs.size=cs.length)(h:∀(j:Nat) v c,vs[j]?=some v->cs[j]?=some c->fC g N w v c):
  fC g N w (.agg vs) (mkAgg cs):=by
 unfold Pm.mkAgg;split
 .rename_i ds d;have:=kq cs ds d;subst this;refine .dat _ _ (.agg _ _ (by simpa using hl) λj v c e f=>?_);have:=h j v (.dat c) e (by simp[f]);cases this;assumption
 .exact .agg _ _ hl h
theorem fC.ofCells{N n:Nat}{f:Bool}{us:List Value}{cs:List PV}{p:PV}(hl:us.length=n)(hc:cs.length=n)(h:∀(j:Nat) v c,us[j]?=some v->cs[j]?=some c->fC g N w v c)(d:ofCells f cs=some p):(f=false->n=1)/\fC g N w (if f then .agg us.toArray else us.headD Go.undef) p:=by
 unfold Pm.ofCells at d;cases f
 .simp only[j6,aj]at d |-;split at d
  .rename_i c;cases d;subst hc;refine⟨λ_=>rfl,?_⟩;cases us with
   |nil=>simp at hl
   |cons u us=>exact h 0 u _ rfl rfl
  .cases d
 .simp only[ak,j9]at d;subst d;refine⟨λe=>(by cases e),?_⟩;exact fC.mkAgg y9 λj v c k l=>h j v c (by simpa using k) l
theorem Dd{t:fq}{x:ft}{cs ds:List PV}{n i off:Nat}{l:Bool}{p:PV}(r:o.op=.load t x)(s:ρ x=.ptr i off)(y:H[i]?=some (.box cs))(z:pF P t=some l)(hn:fJ P t=some n)(hc:cut cs off n=some ds)(A:ofCells l ds=some p)(m:Qm P g B0 H.length H w)(hi:Inv B0 w0 S0 g w)(f:∀x,fC g H.length w (a.eval x) (ρ x)):
  ∃v g' w',fQ P o a w v w'/\Good P B0 w0 S0 H g w p H v g' w':=by
 obtain⟨c1,c2,B⟩:=ka hc;have h:=f x;rw[s]at h;generalize k:a.eval x=v at h;cases h with
 |ptr i o C=>
  obtain⟨_,⟨vals,D,k1,k2,k3⟩,_⟩:=m.box i cs y
  have d:∀(j:Nat) u,((vals.toList.drop off).take n)[j]?=some u->j<n/\vals[off+j]?=some u:=λj u e=>by
   rw[jR]at e;split at e
   .exact⟨by assumption,by simpa using e⟩
   .cases e
  obtain⟨p1,E⟩:=fC.ofCells (g:=g) (w:=w) (N:=H.length) (us:=(vals.toList.drop off).take n) (n:=n) y9 c1 (λj v c F q=>by
   obtain⟨G,k⟩:=d j v F;rw[B j G]at q;exact k3 _ v c k q) A
  have I:=ji (P:=P) (w:=w) (b:=g.blk i) (off:=off) ((vals.toList.drop off).take n) z hn y9 p1 (λj u e=>by
   rw[cell_of_row w _ _ vals D (0,0) k1];exact(d j u e).2)
  exact⟨_,g,w,.inl (by simp only[execOp,r,k];simp[Instr.loadAt,Instr.sureAddr,I]),.same m hi E⟩
end
end Go.Pm
