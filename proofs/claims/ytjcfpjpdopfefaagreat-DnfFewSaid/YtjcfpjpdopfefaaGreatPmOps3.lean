/-
 The pure machine: soundness of indexing, slicing, fields, stores, new variables.
-/
import Derived.Test.YtjcfpjpdopfefaaGreatPmOps2
namespace Go.Pm
open Go Go.RowKit
set_option linter.all false
section
variable{P:fm}{B0:Nat}{w0:fk}{S0:Nat->Nat->Prop}{g:Gh}{H H':List fB}{w:fk}{p:PV}{o:Oper}{a:Act}{ρ:ft->PV}
def wJ:PV->Option (List fy)
 | .dat (.lst es)=>some es
 | .vec _ es=>some es
 |_=>none
theorem qm{N:Nat}{v:fu}{p:PV}{es:List fy}(h:fC g N w v p)(c:wJ p=some es):fY w g.S v (.lst es):=by
 cases h with
 |dat v d h=>cases d<;>simp[wJ]at c;subst c;exact h
 |vec v t e v0 n j f=>simp[wJ]at c;subst c;exact f
 |_=>simp[wJ]at c
theorem kj{N:Nat}{v:fu}{k:IntKind}{n:Int}(h:fC g N w v (.dat (.raw (.int k n)))):v=.int k n:=h.toVal rfl
theorem qU{t e:fq}{x d:ft}{k:IntKind}{n:Int}{b off len cap size:Nat}(f:o.op=.indexAddr t x d)(g:fA P t=some e)(j:fJ P e=some size)(c:a.eval d=.int k n)(l:a.eval x=.slice (some ⟨b,off,none⟩) len cap)(h0:0<=n)(hn:n.toNat<len):
  (execOp a.eval o).run P w=.ok (.value (.pointer (some ⟨b,off+n.toNat*size,none⟩))) w:=by
 have m:n<(len:Int):=by omega
 simp[execOp,f,Instr.indexAt,run_underlying (QM g),c,l,asIntOf,h0,m,hZ j,iv]
theorem zg{t e:fq}{len:Nat}(h:lV P t=some (len,e)):P.underlying t=some (.array len e):=by
 unfold lV at h;split at h
 .cases h;assumption
 .cases h
theorem sr{t e:fq}{x f:ft}{k:IntKind}{n:Int}{len size:Nat}{cs:List fy}(m:o.op=.indexAddr t x f)(p:lV P t=some (len,e))(q:fJ P e=some size)(j:ρ f=.dat (.raw (.int k n)))(r:ρ x=.iptr cs)(h0:0<=n)(hn:n<(len:Int))(s:Qm P g B0 H.length H w)(hi:Inv B0 w0 S0 g w)(d:∀x,fC g H.length w (a.eval x) (ρ x)):
  ∃v g' w',fQ P o a w v w'/\Good P B0 w0 S0 H g w (.iptr (cs.drop (n.toNat*size))) H v g' w':=by
 have l:=kj (by rw[<-j];exact d f);have h:=d x;rw[r]at h;generalize u:a.eval x=v at h;cases h with
 |iptr b o cs c y z=>
  obtain⟨k1,k2⟩:=yj (n.toNat*size) y z;refine⟨.pointer (some ⟨b,o+n.toNat*size,none⟩),g,w,.inl ?_,.same s hi (.iptr _ _ _ (λi=>c (n.toNat*size+i)) k1 k2)⟩;simp[execOp,m,Instr.indexAt,run_underlying (zg p),l,u,asIntOf,h0,hn,hZ q,iv,Instr.sureAddr]
theorem tj{t e:fq}{x d:ft}{k:IntKind}{n:Int}{len size i off:Nat}(m:o.op=.indexAddr t x d)(p:lV P t=some (len,e))(q:fJ P e=some size)(f:ρ d=.dat (.raw (.int k n)))(r:ρ x=.ptr i off)(h0:0<=n)(hn:n<(len:Int))(s:Qm P g B0 H.length H w)(hi:Inv B0 w0 S0 g w)(c:∀x,fC g H.length w (a.eval x) (ρ x)):
  ∃v g' w',fQ P o a w v w'/\Good P B0 w0 S0 H g w (.ptr i (off+n.toNat*size)) H v g' w':=by
 have j:=kj (by rw[<-f];exact c d);have h:=c x;rw[r]at h;generalize u:a.eval x=v at h;cases h with
 |ptr i o l=>
  refine⟨_,g,w,.inl ?_,.same s hi (.ptr _ _ l)⟩;simp[execOp,m,Instr.indexAt,run_underlying (zg p),j,u,asIntOf,h0,hn,hZ q,iv,Instr.sureAddr]
theorem nZ{t e:fq}{x q:ft}{k:IntKind}{n:Int}{size:Nat}{es:List fy}{d:fy}(C:o.op=.indexAddr t x q)(D:fA P t=some e)(E:fJ P e=some size)(r:ρ q=.dat (.raw (.int k n)))(F:wJ (ρ x)=some es)(h0:0<=n)(s:es[n.toNat]?=some d)(l:d.num=size)(G:Qm P g B0 H.length H w)(hi:Inv B0 w0 S0 g w)(m:∀x,fC g H.length w (a.eval x) (ρ x)):
  ∃v g' w',fQ P o a w v w'/\Good P B0 w0 S0 H g w (.iptr d.cells) H v g' w':=by
 have y:=kj (by rw[<-r];exact m q);have A:=qm (m x) F;have p:=(ae.1 s).1;generalize I:a.eval x=v at A;cases A with
 |nil=>simp at p
 |empty=>simp at p
 |lst b off len cap f es c R J K L M=>
  have N:f=size:=by rw[<-l];exact(K d (jF s)).symm
  subst N;refine⟨_,g,w,.inl (qU C D E y I h0 y8),.same G hi (.iptr _ _ _ (λj=>c (n.toNat*f+j)) (λj B=>?_) (λj u O=>M _ _ d u s O))⟩;have Q:j<f:=by rw[<-fy.num_eq,l]at B;exact B
  have z:n.toNat*f+j<len*f:=by
   have:(n.toNat+1)*f<=len*f:=au _ y8
   rw[av]at this;omega
  have:=L _ z;rw[show off+n.toNat*f+j=off+(n.toNat*f+j) by omega];exact this
theorem ta{t e:fq}{x d:ft}{k:IntKind}{n:Int}{size i off len cap:Nat}(m:o.op=.indexAddr t x d)(p:fA P t=some e)(q:fJ P e=some size)(f:ρ d=.dat (.raw (.int k n)))(r:ρ x=.arr i off len cap)(h0:0<=n)(s:n.toNat<len)(u:Qm P g B0 H.length H w)(hi:Inv B0 w0 S0 g w)(c:∀x,fC g H.length w (a.eval x) (ρ x)):
  ∃v g' w',fQ P o a w v w'/\Good P B0 w0 S0 H g w (.ptr i (off+n.toNat*size)) H v g' w':=by
 have j:=kj (by rw[<-f];exact c d);have l:=c x;rw[r]at l;generalize y:a.eval x=v at l;cases l with
 |arr i o len cap h z=>exact⟨_,g,w,.inl (qU m p q j y h0 s),.same u hi (.ptr _ _ h)⟩
theorem fY.slice{S:Nat->Nat->Prop}{es:List fy}{l h size b off len cap k:Nat}{c:Nat->fu}(v:len=es.length)(n:len<=cap)(p:∀d,d∈es->d.num=k)(q:∀i,i<len*k->w.cell? ⟨b,off+i,none⟩=some (c i)/\S b (off+i))(r:∀(i j:Nat) d u,es[i]?=some d->d.cells[j]?=some u->fY w S (c (i*k+j)) u)(hl:l<=h)(s:h<=es.length)(e:l=0\/k=size\/es=[]):
  fY w S (.slice (if cap=l then some ⟨b,off,none⟩else some ((⟨b,off,none⟩:Addr).add (l*size))) (h - l) (cap - l)) (.lst ((es.take h).drop l)):=by
 by_cases g:h - l=0
 .have:(es.take h).drop l=[]:=by apply aw;simp;omega
  rw[this,g];split <;>exact .empty _ _
 .rw[af y8]
  have m:l*size=l*k:=by
   rcases e with e|e|e
   .subst e;simp
   .rw[e]
   .subst e;simp at s;omega
  rw[iv,m];refine .lst b (off+l*k) (h - l) (cap - l) k _ (λi=>c (l*k+i)) y9 y8 (λd f=>p d (zR (dt f))) (λi hi=>?_) (λi j d u f t=>?_)
  .have:(h - l)*k+l*k=h*k:=by rw[<-av];congr 1;omega
   have x:h*k<=len*k:=au _ y8;have:=q (l*k+i) y8
   rwa [bP]
  .rw[zI,jR]at f;split at f
   .have:=r (l+i) j d u f t
    rwa [av,bP]at this
   .cases f
theorem ia{x:fu}{n y:Nat}{k:IntKind}(c:BoundsCode)(d:x=.int k n)(hn:n<=y)(w:fk):(Instr.sliceBound x y c).run P w=.ok n w:=by
 subst d;simp[Instr.sliceBound,asIntOf];omega
theorem Am{t e:fq}{x:ft}{lo hi:Option Operand}{l h size:Nat}{es:List fy}(G:o.op=.slice t x lo hi none)(I:fA P t=some e)(z:fJ P e=some size)(J:wJ (ρ x)=some es)(f:iD ρ 0 lo=some l)(j:iD ρ es.length hi=some h)(q:l<=h)(m:h<=es.length)(r:l=0\/∀d∈es,d.num=size)(K:Qm P g B0 H.length H w)(A:Inv B0 w0 S0 g w)(n:∀x,fC g H.length w (a.eval x) (ρ x)):
  ∃v g' w',fQ P o a w v w'/\Good P B0 w0 S0 H g w (.dat (.lst ((es.take h).drop l))) H v g' w':=by
 have C:=qm (n x) J
 obtain⟨ad,len,cap,L,p,D,s⟩:∃ad len cap,a.eval x=.slice ad len cap/\len=es.length/\len<=cap/\
   fY w g.S (.slice (if cap=l then ad else ad.map (·.add (l*size))) (h - l) (cap - l)) (.lst ((es.take h).drop l)):=by
  generalize a.eval x=v at C;cases C with
  |nil=>
   simp at m;subst m;obtain rfl:l=0:=by omega
   exact⟨none,0,0,rfl,rfl,j7 _,by simpa using fY.nil⟩
  |empty ad cap=>
   simp at m;subst m;obtain rfl:l=0:=by omega
   refine⟨some ad,0,cap,rfl,rfl,zP _,?_⟩;simp only[cB,List.take_nil,List.drop_nil,jN];split <;>exact .empty _ _
  |lst b off len cap k es c E u F M N=>
   refine⟨_,_,_,rfl,E,u,?_⟩;refine fY.slice E u F M N q m ?_;rcases r with r|r
   .exact .inl r
   .cases es with
    |nil=>exact .inr (.inr rfl)
    |cons d es=>exact .inr (.inl (by rw[<-r d yA,F d yA]))
 refine⟨_,g,w,.inl ?_,.same K A (.dat _ _ s)⟩
 have O:(Instr.sliceBounds true len cap (lo.map a.eval) (hi.map a.eval) none).run P w=.ok (l,h,cap) w:=by
  unfold Instr.sliceBounds;cases hi with
  |none=>
   cases lo with
   |none=>simp[iD]at f j;subst f j;simp[p]
   |some lo=>
    obtain⟨k,B⟩:=jd (n lo) f;simp[iD]at j;subst j;simp[ia (P:=P) .sliceB B q w,p]
  |some hi=>
   obtain⟨Q,y⟩:=jd (n hi) j;cases lo with
   |none=>simp[iD]at f;subst f;simp[ia (P:=P) .sliceAcap y (show h<=cap by omega) w]
   |some lo=>
    obtain⟨k,B⟩:=jd (n lo) f;simp[ia (P:=P) .sliceB B q w,ia (P:=P) .sliceAcap y (show h<=cap by omega) w]
 simp[execOp,G,Instr.sliceAt,Instr.slice,run_underlying (QM I),L,O,hZ z]
end
end Go.Pm
