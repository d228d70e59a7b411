/-
 The pure machine: what a block lends; values that read as data.
-/
import Derived.Test.YtjcfpjpdopfefaaGreatPmSem
import Derived.LoopNIn
import Derived.TacticsIn
namespace Go.Pm
open Go Go.RowKit
set_option linter.all false
section
variable{P:fm}{B0:Nat}{w0:fk}{S0:Nat->Nat->Prop}{Nb:Nat}{F:Fence}{m:Nat}{pf:fo->Bool}{hint:fo->Hint}{call:gk}{h:Hint}
def MF(H:List fB)(i:Nat):Nat:=match H[i]? with
 |some (.box cs)=>cs.length
 |some (.mt _ _ cs)=>lK cs
 |some (.tok _ _)=>0
 |some (.map _)=>0
 |some .hole=>0
 |none=>0
def Gh.drop(g:Gh)(H:List fB)(h0:Nat):Gh:={g with S:=λb o=>g.S b o\/∃i,h0<=i/\occ g H i=some b/\o<MF H i}
theorem Ext.drop{g:Gh}{w:fk}(N:Nat)(H:List fB)(h0:Nat):Ext N g w (g.drop H h0) w:=
 ⟨λ_ _ h=>.inl h,λ_ _ _=>rfl,λ_ _ h=>⟨rfl,h⟩,λ_ _ v n h=>⟨v,n,h,j7 _,λ_=>rfl⟩⟩
theorem mI{fl:Bool}{g:Gh}{H:List fB}{h0:Nat}{w:fk}{v:fu}{p:PV}(K:Qm P g B0 H.length H w)(E:fC g H.length w v p):fC (g.drop H h0) h0 w v (jt fl H h0 p):=by
 have s:Ext H.length g w (g.drop H h0) w:=Ext.drop _ _ _;cases E with
 |dat v d e=>exact .dat _ _ (e.ext s)
 |agg=>exact .undef _
 |tup=>exact .undef _
 |vec v t es v0 n m l z x y=>
  simp only[jt];split
  .rename_i hc;exact .vec _ _ _ v0 n hc.1 (l.ext s) z x y
  .exact .dat _ _ (l.ext s)
 |ptr i o hi=>
  simp only[jt];split
  .exact .ptr (g:=g.drop H h0) i o ⟨by assumption,hi.2⟩
  .exact .undef _
 |iptr b o cs c m l=>exact .iptr b o cs c (λi hi=>⟨(m i hi).1,.inl (m i hi).2⟩) (λi u A=>(l i u A).ext s)
 |arr i o len cap hi hc=>
  simp only[jt];split
  .exact .arr (g:=g.drop H h0) i o len cap ⟨by assumption,hi.2⟩ hc
  .rename_i M;split
   .rename_i d e;refine .dat _ _ ?_;simp only[fR]at e;split at e
    .rename_i cs B;simp only[j5]at e;obtain⟨es,e,rfl⟩:=e;obtain⟨k,_,c1,c2,V,N⟩:=uj e;obtain⟨_,⟨vals,O,k1,k2,k3⟩,_⟩:=K.box i cs B;refine .lst (g.blk i) o len cap k es (λj=>vals.getD (o+j) undef) c1.symm hc c2 (λj W=>?_) (λF j d u e A=>?_)
     .have q:o+j<vals.size:=by omega
      refine⟨?_,.inr ⟨i,by omega,gw B,by simp only[MF,B];omega⟩⟩;rw[cell_of_row w _ _ vals O (0,0) k1,jH,jA q];rfl
     .obtain⟨l,_⟩:=N F j d u e A;have q:o+(F*k+j)<vals.size:=by rw[k2];exact(ae.1 l).1
      have:=(k3 (o+(F*k+j)) _ _ (jA q) l).datInv.ext s
      simpa[jH,jA q]using this
    .cases e
   .exact .undef _
 |fn f vs cs m l=>
  simp only[jt];split
  .rename_i C;refine .fn _ _ _ m λj v c Q L=>?_
   have hm:=an.1 C c (jF L);have E:=l j v c Q L;cases E with
   |dat v d e=>exact .dat _ _ (e.ext s)
   |ptr i o hi=>exact .ptr (g:=g.drop H h0) i o ⟨by simpa using hm,hi.2⟩
   |iptr b o cs c k1 k2=>exact .iptr b o cs c (λi hi=>⟨(k1 i hi).1,.inl (k1 i hi).2⟩) (λi u A=>(k2 i u A).ext s)
   |_=>simp at hm
  .exact .undef _
 |ms t gg lo len cp v v0 n m l z x y=>
  simp only[jt];split
  .exact .ms (g:=g.drop H h0) t gg lo len cp v v0 n (by assumption) l z x y
  .split
   .rename_i d e;refine .dat _ _ ?_;simp only[fR]at e;split at e
    .rename_i X g' cs B;split at e
     .rename_i G;rw[jK]at e;obtain⟨ds,D,e⟩:=e;split at e
      .rename_i I;cases e;have r:=Zb B;simp only at r;obtain⟨Y,k1,k2⟩:=K.mt t _ _ _ r;rw[l]at k1;simp only[j9,jI]at k1;obtain⟨rfl,rfl⟩:=k1;exact Fm k2 (x G.symm).1 D I (by obtain⟨a,c,R,_,T,_⟩:=y;exact⟨a,c,R,T⟩) s.S (λb o J U=>.inr ⟨t,by omega,by rw[gJ r,l];exact J,by simp only[MF,r];exact U⟩)
      .cases e
     .cases e
    .cases e
   .exact .undef _
 |mp t gg j v v0 n m l z x y=>
  simp only[jt];split
  .exact .mp (g:=g.drop H h0) t gg j v v0 n (by assumption) l z x y
  .exact .undef _
 |mapv i hi=>
  simp only[jt];split
  .exact .mapv (g:=g.drop H h0) i ⟨by assumption,hi.2⟩
  .exact .undef _
 |empv b v m l=>exact .empv b v m l
 |undef=>exact .undef _
end
section
variable{P:fm}{B0:Nat}{w0:fk}{S0:Nat->Nat->Prop}{g:Gh}{H H':List fB}{w:fk}{p:PV}
theorem mL{v:fu}{d:fy}(f:Qm P g B0 H.length H w)(e:fC g H.length w v p)(c:fR H p=some d):fY w (g.drop H 0).S v d:=by
 have h:=mI (fl:=false) (h0:=0) f e;cases p with
 |dat l=>simp[fR]at c;subst c;exact h.datInv
 |vec t es=>simp[fR]at c;subst c;simp only[jt,bL,false_and,aj]at h;exact h.datInv
 |arr i o len cap=>simp only[jt,bL,aj,c]at h;exact h.datInv
 |ms t gg lo len cp=>simp only[jt,bL,aj,c]at h;exact h.datInv
 |empv b=>
  simp[fR]at c;subst c;cases e with
  |empv b v j k=>
   cases b with
   |true=>rw[j rfl];exact .nil
   |false=>obtain⟨a,cap,rfl⟩:=k rfl;exact .empty a cap
 |_=>simp[fR]at c
theorem lL{v:fu}{d:fy}(f:Qm P g B0 H.length H w)(k:fC g H.length w v p)(c:iu H p=some d):fY w (g.drop H 0).S v d:=by
 cases p with
 |agg cs=>
  simp only[iu,j5]at c;obtain⟨ds,c,rfl⟩:=c;obtain⟨p1,m⟩:=k9 _ _ c;cases k with
  |agg vs cs r n=>
   refine .agg _ _ y8 λj v d q l=>?_
   have e:j<cs.length:=by rw[<-p1];exact(ae.1 l).1
   have hc:cs[j]?=some cs[j]:=jC e;exact mL f (n j v _ q hc) (m j _ d hc l)
 |_=>exact mL f k c
theorem mQ{S g:Nat->Nat->Prop}{w':fk}{v:fu}{d:fy}(h:fY w S v d)(e:d.scalar=true):fY w' g v d:=by
 cases h with
 |raw v h=>exact .raw v h
 |agg vs cs k l=>
  refine .agg vs cs k λj v c m f=>?_
  have hm:=an.1 e c (jF f);have n:=l j v c m f;cases c with
  |raw u=>cases n with|raw _ h=>exact .raw _ h
  |_=>simp at hm
 |_=>simp[fy.scalar]at e
end
end Go.Pm
