/-
 The pure machine: operands, plain operations, and small lemmas for the soundness of each operation.
-/
import Derived.Test.YtjcfpjpdopfefaaGreatPmRep
import Derived.OrdersIn
namespace Go.Pm
open Go Go.RowKit
theorem fy.num_eq(d:fy):d.num=d.cells.length:=by cases d<;>rfl
theorem xd{v:fu}(h:isRaw v=true):v.oneCell'=true:=by
 cases v<;>simp_all [isRaw,Value.oneCell']
theorem sD{v:fu}(h:isRaw v=true):v.cells=#[v]:=by
 cases v<;>simp_all [isRaw,Value.cells]
theorem fY.cells{w:fk}{S:Nat->Nat->Prop}{v:fu}{d:fy}(h:fY w S v d):
  v.cells.size=d.cells.length/\∀(j:Nat) u c,v.cells[j]?=some u->d.cells[j]?=some c->fY w S u c:=by
 cases h with
 |raw v h=>rw[sD h];exact⟨rfl,λj u c e f=>by cases j<;>simp[fy.cells]at e f;subst e f;exact .raw _ h⟩
 |nil=>exact⟨rfl,λj u c e f=>by cases j<;>simp_all [fy.cells,Value.cells];subst e f;exact .nil⟩
 |empty a cap=>exact⟨rfl,λj u c e f=>by cases j<;>simp_all [fy.cells,Value.cells];subst e f;exact .empty a cap⟩
 |lst b off len cap k es c e g f n p=>exact⟨rfl,λj u q l m=>by cases j<;>simp[fy.cells,Value.cells]at l m;subst l m;exact .lst b off _ cap k es c e g f n p⟩
 |agg vs cs e f=>exact⟨e,f⟩
theorem fC.cells{g:Gh}{N:Nat}{w:fk}{v:fu}{p:PV}(h:fC g N w v p)(x:p≠.undef):
  v.cells.size=p.cells.length/\∀(j:Nat) u c,v.cells[j]?=some u->p.cells[j]?=some c->fC g N w u c:=by
 cases h with
 |dat v d h=>
  obtain⟨m,l⟩:=h.cells;refine⟨by simp[PV.cells,m],λj u c k e=>?_⟩;simp only[PV.cells,jD,j5]at e;obtain⟨y,e,rfl⟩:=e;exact .dat _ _ (l j u y k e)
 |agg vs cs m l=>exact⟨m,l⟩
 |tup vs cs m l=>exact⟨rfl,λj u c k e=>by cases j<;>simp_all [PV.cells,Value.cells];subst k e;exact .tup _ _ m l⟩
 |vec v t es v0 n m l q r s=>
  have hc:v.cells=#[v]:=by have:=l.cells.1;cases v<;>simp_all [Value.cells];cases l
  rw[hc];exact⟨rfl,λj u c k e=>by cases j<;>simp_all [PV.cells];subst k e;exact .vec _ _ _ _ _ m l q r s⟩
 |ptr i o h=>exact⟨rfl,λj u c k e=>by cases j<;>simp_all [PV.cells,Value.cells];subst k e;exact .ptr _ _ h⟩
 |iptr b o cs c m l=>exact⟨rfl,λj u D k e=>by cases j<;>simp_all [PV.cells,Value.cells];subst k e;exact .iptr _ _ _ c m l⟩
 |arr i o len cap h z=>exact⟨rfl,λj u c k e=>by cases j<;>simp[PV.cells,Value.cells]at k e;subst k e;exact .arr _ _ _ _ h z⟩
 |fn f vs cs m l=>exact⟨rfl,λj u c k e=>by cases j<;>simp_all [PV.cells,Value.cells];subst k e;exact .fn _ _ _ m l⟩
 |ms t gg lo len cp v v0 n m l q r s=>
  obtain⟨a,c,rfl,A,B,C⟩:=s;exact⟨rfl,λj u c k e=>by cases j<;>simp[PV.cells,Value.cells]at k e;subst k e;exact .ms _ _ _ _ _ _ v0 n m l q r ⟨_,_,rfl,A,B,C⟩⟩
 |mp t gg j v v0 n m l q r s=>
  obtain⟨a,rfl⟩:=s;exact⟨rfl,λj u c k e=>by cases j<;>simp[PV.cells,Value.cells]at k e;subst k e;exact .mp _ _ _ _ v0 n m l q r ⟨_,rfl⟩⟩
 |empv b v m l=>
  have hc:v.cells=#[v]:=by
   cases b with
   |true=>rw[m rfl];rfl
   |false=>obtain⟨a,cap,rfl⟩:=l rfl;rfl
  rw[hc];exact⟨rfl,λj u c k e=>by cases j<;>simp[PV.cells]at k e;subst k e;exact .empv _ _ m l⟩
 |mapv i h=>exact⟨rfl,λj u c k e=>by cases j<;>simp_all [PV.cells,Value.cells];subst k e;exact .mapv _ h⟩
 |undef v=>exact absurd rfl x
theorem fY.of_rawOf{w:fk}{S:Nat->Nat->Prop}{v:fu}{d:fy}(h:tX v=some d):fY w S v d:=by
 unfold tX at h;split at h
 .cases h;exact .nil
 .split at h
  .rename_i cs e;cases h;refine .agg _ _ yA λj v c f g=>?_
   simp only[jD,zH,f,jN,j9]at g;subst g;exact .raw _ (Array.all_eq_true'.1 e v (eN f))
  .cases h
 .split at h
  .cases h;exact .raw _ (by assumption)
  .cases h
theorem fC.of_const{g:Gh}{N:Nat}{w:fk}(v:fu):fC g N w v (qv v):=by
 unfold qv;split
 .split
  .rename_i vs h;have:vs=#[]:=by simpa using h
   subst this;exact .tup _ _ rfl λj v c h=>by simp at h
  .exact .undef _
 .split
  .exact .dat _ _ (.of_rawOf (by assumption))
  .exact .undef _
theorem fC.datInv{g:Gh}{N:Nat}{w:fk}{v:fu}{d:fy}(h:fC g N w v (.dat d)):fY w g.S v d:=by
 cases h;assumption
def ij(g:Gh)(w:fk):Prop:=∀gl cs,wY gl=some cs->fC g 0 w (.pointer (some ⟨gl,0,none⟩)) (.iptr cs)
theorem ij.ext{N:Nat}{g g':Gh}{w w':fk}(c:ij g w)(h:Ext N g w g' w'):ij g' w':=λgl cs hc=>(c gl cs hc).ext (h.less (zP N)) (j7 _)
theorem ij.at{N:Nat}{g:Gh}{w:fk}(c:ij g w){gl:Nat}{cs:List fy}(hc:wY gl=some cs):fC g N w (.pointer (some ⟨gl,0,none⟩)) (.iptr cs):=(c gl cs hc).ext (.refl 0 g w) (zP N)
theorem ij.ofS{g g':Gh}{w:fk}(f:ij g w)(d:∀b o,g.S b o->g'.S b o):ij g' w:=λgl cs hc=>by
 have:=f gl cs hc;cases this with
 |iptr b o cs c e j=>exact .iptr _ _ _ c (λi hi=>⟨(e i hi).1,d _ _ (e i hi).2⟩) (λi u k=>(j i u k).mono d λ_ _ _=>rfl)
structure qP (g:Gh) (N:Nat) (w:fk) (tmps:Array Value) (slots:List PV):Prop where
 size:tmps.size=slots.length
 rep:∀t,fC g N w (tmps.getD t undef) (slots.getD t (.tup []))
 glob:ij g w
theorem qP.ev{g:Gh}{N:Nat}{w:fk}{a:Act}{s:List PV}(h:qP g N w a.tmps s)(x:ft):fC g N w (a.eval x) (ev s x):=by
 cases x with
 |tmp t=>exact h.2 t
 |const v=>exact .of_const v
 |func f=>exact .dat _ _ (.raw _ rfl)
 |global gl=>
  show fC g N w (.pointer (some ⟨gl,0,none⟩)) (match wY gl with|some cs=>.iptr cs|none=>.undef)
  cases c:wY gl with
  |none=>exact .undef _
  |some cs=>exact h.glob.at c
theorem qP.ext{N N':Nat}{g g':Gh}{w w':fk}{tmps:Array Value}{s:List PV}(c:qP g N w tmps s)(h:Ext N g w g' w')(d:N<=N'):qP g' N' w' tmps s:=
 ⟨c.1,λt=>(c.2 t).ext h d,c.glob.ext h⟩
theorem qP.put{g:Gh}{N:Nat}{w:fk}{a:Act}{s:List PV}(h:qP g N w a.tmps s)(d:Option Tmp){v:fu}{p:PV}(f:fC g N w v p):
  qP g N w (a.put d v).tmps (lN s d p):=by
 cases d with
 |none=>exact h
 |some d=>
  refine⟨by simp[Act.put,lN,h.1],λt=>?_,h.glob⟩;simp only[Act.put,lN,jH,jB,cM,zE];by_cases e:d=t
  .subst e;by_cases c:d<s.length
   .simp[c,h.1,f]
   .have:=h.2 d;simp[c,h.1]at this |-
    simpa[jH,jB,c,h.1]using this
  .simpa[e,jH,jB]using h.2 t
theorem ui{w:fk}{S:Nat->Nat->Prop}:∀(cs:List fy) (vs:List Value) (us:List Value),nP cs=some us->vs.length=cs.length->
  (∀(j:Nat) v c,vs[j]?=some v->cs[j]?=some c->fY w S v c)->vs=us
 |[],vs,us,h,hl,_=>by cases h;exact aw (by simpa using hl)
 | .raw u::r,vs,us,h,hl,e=>by
  simp only[nP,j5]at h;obtain⟨d,h,rfl⟩:=h;cases vs with
  |nil=>simp at hl
  |cons v vs=>
   have h0:v=u:=by have:=e 0 v (.raw u) rfl rfl;cases this;rfl
   have:=ui r vs d h (by simpa using hl) (λj v c f g=>e (j+1) v c (by simpa using f) (by simpa using g));rw[h0,this]
 | .lst _::_,_,_,h,_,_=>by simp[nP]at h
 | .agg _::_,_,_,h,_,_=>by simp[nP]at h
theorem fC.toVal{g:Gh}{N:Nat}{w:fk}{v u:fu}{p:PV}(h:fC g N w v p)(e:p.toVal=some u):v=u:=by
 cases h with
 |dat v d h=>
  cases h with
  |raw v h=>simpa[PV.toVal]using e
  |nil=>simp[PV.toVal]at e
  |empty a cap=>simp[PV.toVal]at e
  |lst=>simp[PV.toVal]at e
  |agg vs cs f k=>
   simp only[PV.toVal,j5]at e;obtain⟨us,e,rfl⟩:=e;have:=ui cs vs.toList us e (by simpa using f) (λj v c l m=>k j v c (by simpa using l) m);rw[<-this]
 |_=>simp[PV.toVal]at e
theorem xM(P:fm){c:Type}:∀(s:Sem c) (a:c),iK P s=some a->∀w,s.run P w=.ok a w
 | .pure b,a,h,w=>by simp only[iK,j9]at h;subst h;rfl
 | .program k,a,h,w=>xM P (k P) a h w
 | .load ..,_,h,_=>by simp[iK]at h
 | .store ..,_,h,_=>by simp[iK]at h
 | .new ..,_,h,_=>by simp[iK]at h
 | .shape ..,_,h,_=>by simp[iK]at h
 | .freeze ..,_,h,_=>by simp[iK]at h
 | .frozen ..,_,h,_=>by simp[iK]at h
 | .getObj ..,_,h,_=>by simp[iK]at h
 | .setObj ..,_,h,_=>by simp[iK]at h
 | .choose ..,_,h,_=>by simp[iK]at h
 | .sys ..,_,h,_=>by simp[iK]at h
 | .mark ..,_,h,_=>by simp[iK]at h
 | .halt ..,_,h,_=>by simp[iK]at h
theorem fC.of_backOf{g:Gh}{N:Nat}{w:fk}{v:fu}{p:PV}(h:rF v=some p):fC g N w v p:=by
 unfold rF at h;split at h
 .split at h
  .rename_i vs e;cases h;refine .tup _ _ yA λj v c f k=>?_
   simp only[jD,zH,f,jN,j9]at k;subst k;exact .dat _ _ (.raw _ (Array.all_eq_true'.1 e v (eN f)))
  .cases h
 .simp only[j5]at h;obtain⟨d,h,rfl⟩:=h;exact .dat _ _ (.of_rawOf h)
def fQ(P:fm)(o:Oper)(a:Act)(w:fk)(v:fu)(w':fk):Prop:=
 (execOp a.eval o).run P w=.ok (.value v) w'\/((execOp a.eval o).run P w=.ok .skip w'/\v=undef)
theorem CX{P:fm}{g:Gh}{N:Nat}{w:fk}{o:Oper}{a:Act}{ρ:ft->PV}{H H':List fB}{p:PV}(j:∀cs b,o.op≠.select cs b)(d:∀x,fC g N w (a.eval x) (ρ x))(h:gv P o ρ H=some (p,H')):∃v,fQ P o a w v w/\fC g N w v p/\H'=H:=by
 unfold gv at h;simp only at h;split at h
 .rename_i c;split at h
  .rename_i v k;simp only[j5,jI]at h;obtain⟨n,l,rfl,rfl⟩:=h;refine⟨v,.inl ?_,.of_backOf l,rfl⟩;have:=xM P _ _ k w;rw[<-this];congr 1;refine execOp_congr o j λx m=>?_
   have e:=an.1 c ((ρ x).toVal) (ar.2 ⟨x,by simpa using m,rfl⟩);obtain⟨u,f⟩:=aA.1 e;rw[f,(d x).toVal f];rfl
  .cases h
 .cases h
end Go.Pm
