/-
 Models of functions, their walks, and plain laws.
-/
import Derived.Test.YtjcfpjpdopfefaaGreatPmLaw
import Derived.Test.YtjcfpjpdopfefaaGreatKDnfFewE
namespace Go.Proofs.Tryz
open Go Go.Pm
set_option linter.all false
set_option maxRecDepth 2000
theorem L0{bs:List (fj)}{m:Int}(g:bs.length<=1000)(j:1<=m)(n:m<=200):∀c k,GZ bs m c->c.kind=6->c.kids=[k]->∀l,Inv (Hx k) k.shape l->Xl (l,k.shape,c.shape)=some (lO l k.shape c.shape):=λc k e p f l h=>by
 have d:=(mK c e).2.2 k (by rw[f];simp);exact LU g j n e.1 p f (h.mono λx _ q=>q.1) λ_=>Gr (mK.chk d).1 h
theorem A8{bs:List (fj)}{m:Int}(d:bs.length<=1000)(e:1<=m)(f:m<=200){c:Qb}(g:GZ bs m c):YS (conv c)=some (mf lO c)/\Inv (Hx c) c.shape (mf lO c):=
 ⟨(by cases hc:conv c;exact Oj ⟨_,_,_,_,_,_,_,_⟩:YS (conv c)=mR (conv c)).trans (Ih (NP d e f) (L0 d e f) y8 mK (rv c) c (j7 _) g),Bb (NP d e f) mK (rv c) c (j7 _) g⟩
theorem DnfFew_ok(c:Qb)(bs:List fj)(p q:Int)(E:0<=p/\p<=255)(F:0<=q/\q<=255):R5 (c,bs,p,q)=some true:=by
 have G:RW ()=some true:=rfl;obtain⟨b,H,I⟩:=KV c bs 200 yC;unfold R5;simp only[G,Qc,jO,aj,H];cases b with
 |false=>simp only[Bool.not_false,ak,Qc]
 |true=>
  obtain⟨J,K,w,h4,h5⟩:=I rfl;obtain⟨⟨q0,q1,q2,_⟩,_⟩:=lB w;obtain⟨c1,c2,L⟩:=fE q1;have hn:∀n∈c.shape,0<=n:=λn hn=>(L n hn).1
  have f:GS bs 200 c:=⟨K,w⟩;by_cases g:(c.shape.length:Int)=0
  .simp only[bC,j6,aj,Qc,g,beq_self_eq_true,ak]
  .have x:YC c.shape=some (fw c.shape):=by rw[lZ _ (jf (show c.shape.length<=1000 by omega)),iS,ai q1]
   have gb:((c.shape.length:Int)==0)=false:=by simpa using g
   by_cases z:fw c.shape=0
   .simp only[bC,j6,aj,Qc,gb,x,z,beq_self_eq_true,ak]
   .have M:(fw c.shape==0)=false:=by simpa using z
    have y:mX (W p) (c.shape.length:Int)=some (p.tmod (c.shape.length:Int)):=by
     rw[gh y8 y8];exact af g
    have j:p.tmod (c.shape.length:Int)=p% (c.shape.length:Int):=cQ E.1;have r1:=bz p g;have r2:=aX p (show 0<(c.shape.length:Int) by omega);obtain⟨a,N⟩:∃a:Nat,p% (c.shape.length:Int)=(a:Int):=⟨(p% (c.shape.length:Int)).toNat,by omega⟩;rw[j,N]at y;have d:a<c.shape.length:=by omega
    have O:idx c.shape (a:Int)=some (c.shape.getD a 0):=qb (gy d);have P:=gu hn z;have Q:1<=c.shape.getD a 0:=P _ (by rw[iy d];exact zC _)
    have eq:mX (W q) (c.shape.getD a 0)=some (q.tmod (c.shape.getD a 0)):=by
     rw[gh y8 y8];exact af y8
    have l:q.tmod (c.shape.getD a 0)=q% (c.shape.getD a 0):=cQ F.1;have m:=bz q (show c.shape.getD a 0≠0 by omega);have r:=aX q (show 0<c.shape.getD a 0 by omega);rw[l]at eq;generalize R:q%c.shape.getD a 0=n at *;have A:GZ bs 200 c:=⟨f,by omega⟩;have gr:GZ bs 200 (Cp c a):=N0 f y8 d;have B:GZ bs 200 (vu c a n):=O3 f y8 d m r;obtain⟨S,e⟩:=A8 y8 yC yC A;obtain⟨T,U⟩:=A8 y8 yC yC gr;obtain⟨V,X⟩:=A8 y8 yC yC B;have Y:=wI y8 yC yC A e;have C:=wI y8 yC yC gr U;have D:=wI y8 yC yC B X;rw[LH q1 d]at C;rw[Mk q1 d m r]at D
    have l2:(mf lO (Cp c a)).length=(mf lO c).length:=LR e (gy d);have l3:(mf lO c).length<=(mf lO (vu c a n)).length/\(mf lO (vu c a n)).length<=2*(mf lO c).length:=MJ e (gy d) m (Int.le_of_lt r);have Z:=e.len hn;have hE:(⟨(conv c).kind,(conv c).shape,(conv c).buffer,(conv c).starts,(conv c).axis,(conv c).amount,(conv c).perm,(conv c).kids⟩:Qj)=conv c:=by generalize conv c=k;cases k;rfl
    have s:YS (⟨3,c.shape,0,([]:(fj)),(a:Int),0,([]:(fj)),[conv c]⟩:Qj)=some (mf lO (Cp c a)):=T;have t:YS (⟨4,c.shape,0,([]:(fj)),(a:Int),n,([]:(fj)),[conv c]⟩:Qj)=some (mf lO (vu c a n)):=V;have u:YQ (c.shape,mf lO (Cp c a))=some (uG c:Int):=C;have v:YQ (c.shape,mf lO (vu c a n))=some (uG c:Int):=D;have w2:W (2*((mf lO c).length:Int))=2*((mf lO c).length:Int):=gh y8 y8;have t1:((mf lO (vu c a n)).length:Int)>=((mf lO c).length:Int):=by omega
    have t2:((mf lO (vu c a n)).length:Int)<=2*((mf lO c).length:Int):=by omega
    simp only[bC,j6,aj,Qc,gb,x,M,Fk c J,y,S,hE,s,O,eq,t,l2,ak,t1,t2,w2,decide_true,Y,u,v,beq_self_eq_true]
set_option maxHeartbeats 2000000
theorem TU:prog.underlying 3=some (TypeDesc.int IntKind.i64):=by kernel_rfl
theorem PR:prog.underlying 22=some (TypeDesc.slice 3):=by kernel_rfl
theorem O1:prog.underlying 25=some (TypeDesc.struct {toList:=[{name:= "Kind",type:=3,offset:=0,embedded:=false,tag:= "",pkgPath:= "",byteOffset:=0},{name:= "Shape",type:=22,offset:=1,embedded:=false,tag:= "",pkgPath:= "",byteOffset:=8},{name:= "Buffer",type:=3,offset:=2,embedded:=false,tag:= "",pkgPath:= "",byteOffset:=32},{name:= "Starts",type:=22,offset:=3,embedded:=false,tag:= "",pkgPath:= "",byteOffset:=40},{name:= "Axis",type:=3,offset:=4,embedded:=false,tag:= "",pkgPath:= "",byteOffset:=64},{name:= "Amount",type:=3,offset:=5,embedded:=false,tag:= "",pkgPath:= "",byteOffset:=72},{name:= "Perm",type:=22,offset:=6,embedded:=false,tag:= "",pkgPath:= "",byteOffset:=80},{name:= "Kids",type:=23,offset:=7,embedded:=false,tag:= "",pkgPath:= "",byteOffset:=104}]}):=by kernel_rfl
theorem Ti:prog.underlying 23=some (TypeDesc.slice 25):=by kernel_rfl
theorem Pw:prog.underlying 26=some (TypeDesc.slice 22):=by kernel_rfl
theorem T6:prog.underlying 5=some (TypeDesc.int IntKind.u8):=by kernel_rfl
theorem ua4:prog.underlying 4=some TypeDesc.bool:=by kernel_rfl
theorem oV{e c:Type}{f:c->e}{p:c->Prop}:∀{L:List e},(∀x∈L,∃y,x=f y/\p y)->∃l:List c,L=l.map f/\∀y∈l,p y
 |[],_=>⟨[],rfl,λy h=>by cases h⟩
 |x::L,h=>by
  obtain⟨y,rfl,g⟩:=h x (jM ..);obtain⟨l,rfl,hl⟩:=oV (λx j=>h x (jG _ j))
  exact⟨y::l,rfl,λz d=>by
   rcases aq.1 d with rfl|d
   .exact g
   .exact hl z d⟩
variable{B:Nat}{n:Nat}{cs:List fy}
theorem PO(h:ry prog B n 3 cs):∃m:Int,cs=[(Qf m)]/\((-9223372036854775808)<=m/\m<=9223372036854775807):=by
 cases n with
 |zero=>exact h.elim
 |succ n=>
  simp only[ry,TU]at h;obtain⟨m,rfl,hm⟩:=h;refine⟨m,rfl,?_⟩
  simpa[Lit.wf,IntKind.min,IntKind.max,IntKind.signed,IntKind.bits]using hm
def Hh(B:Nat)(x:(fj)):Prop:=x.length<=B/\∀m∈x,((-9223372036854775808)<=m/\m<=9223372036854775807)
theorem MY(h:ry prog B n 22 cs):∃l:(fj),cs=[.lst ((List.map Qf) l)]/\Hh B l:=by
 cases n with
 |zero=>exact h.elim
 |succ n=>
  simp only[ry,PR]at h;obtain⟨L,rfl,hl,d⟩:=h;obtain⟨l,rfl,hm⟩:=oV (f:=λm=>[(Qf m)]) (p:=λm=>((-9223372036854775808)<=m/\m<=9223372036854775807)) (λx c=>PO (d x c));refine⟨l,?_,by simpa using hl,hm⟩
  have e:(l.map (λm=>[(Qf m)])).map (lD prog 3)=l.map Qf:=by
   rw[zF];exact aQ (λm _=>by simp only[Function.comp_apply];simp[lD,rK,TU])
  rw[e]
mutual
def AY (B:Nat):Qb->Prop
 |⟨kind,shape,buffer,starts,axis,amount,perm,kids⟩=>(((-9223372036854775808)<=kind/\kind<=9223372036854775807))/\((Hh B shape))/\(((-9223372036854775808)<=buffer/\buffer<=9223372036854775807))/\((Hh B starts))/\(((-9223372036854775808)<=axis/\axis<=9223372036854775807))/\(((-9223372036854775808)<=amount/\amount<=9223372036854775807))/\((Hh B perm))/\(kids.length<=B/\ur B kids)
def ur (B:Nat):List Qb->Prop
 |[]=>True
 |k::ks=>AY B k/\ur B ks
end
theorem Dn:∀{l:List Qb},(∀y∈l,AY B y)->ur B l
 |[],_=>by rw[ur];trivial
 |y::l,h=>by rw[ur];exact⟨h y (jM ..),Dn λz c=>h z (jG _ c)⟩
theorem SK(c:∀cs,ry prog B n 23 cs->∃l:List Qb,cs=[.lst (Qb.toDs l)]/\l.length<=B/\ur B l)(h:ry prog B (n+1) 25 cs):∃x:Qb,cs=[(Qf x.kind),(.lst ((List.map Qf) x.shape)),(Qf x.buffer),(.lst ((List.map Qf) x.starts)),(Qf x.axis),(Qf x.amount),(.lst ((List.map Qf) x.perm)),(.lst (Qb.toDs x.kids))]/\AY B x:=by
 simp only[ry,O1,List.foldr]at h;obtain⟨_,_,rfl,h0,_,_,rfl,d,_,_,rfl,e,_,_,rfl,f,_,_,rfl,g,_,_,rfl,j,_,_,rfl,k,_,_,rfl,m,rfl⟩:=h;obtain⟨m0,rfl,p⟩:=PO h0;obtain⟨m1,rfl,q⟩:=MY d;obtain⟨m2,rfl,r⟩:=PO e;obtain⟨m3,rfl,s⟩:=MY f;obtain⟨m4,rfl,t⟩:=PO g;obtain⟨m5,rfl,u⟩:=PO j;obtain⟨m6,rfl,v⟩:=MY k;obtain⟨m7,rfl,w⟩:=c _ m;exact⟨⟨m0,m1,m2,m3,m4,m5,m6,m7⟩,rfl,by rw[AY];exact⟨p,q,r,s,t,u,v,w⟩⟩
theorem S1(d:∀cs,ry prog B n 25 cs->∃x:Qb,cs=[(Qf x.kind),(.lst ((List.map Qf) x.shape)),(Qf x.buffer),(.lst ((List.map Qf) x.starts)),(Qf x.axis),(Qf x.amount),(.lst ((List.map Qf) x.perm)),(.lst (Qb.toDs x.kids))]/\AY B x)(h:ry prog B (n+1) 23 cs):∃l:List Qb,cs=[.lst (Qb.toDs l)]/\l.length<=B/\ur B l:=by
 simp only[ry,Ti]at h;obtain⟨L,rfl,hl,g⟩:=h;obtain⟨l,rfl,hm⟩:=oV (f:=λ(x:Qb)=>[(Qf x.kind),(.lst ((List.map Qf) x.shape)),(Qf x.buffer),(.lst ((List.map Qf) x.starts)),(Qf x.axis),(Qf x.amount),(.lst ((List.map Qf) x.perm)),(.lst (Qb.toDs x.kids))]) (p:=λx=>AY B x) (λc hc=>d c (g c hc));refine⟨l,?_,by simpa using hl,Dn hm⟩
 have e:(l.map (λ(x:Qb)=>[(Qf x.kind),(.lst ((List.map Qf) x.shape)),(Qf x.buffer),(.lst ((List.map Qf) x.starts)),(Qf x.axis),(Qf x.amount),(.lst ((List.map Qf) x.perm)),(.lst (Qb.toDs x.kids))])).map (lD prog 25)=Qb.toDs l:=by
  rw[Qb.toDs_eq,zF];exact aQ (λm _=>by rw[Qb.toD_eq];simp only[Function.comp_apply];simp[lD,rK,O1];rfl)
 rw[e]
theorem NS:∀n,(∀cs,ry prog B n 25 cs->∃x:Qb,cs=[(Qf x.kind),(.lst ((List.map Qf) x.shape)),(Qf x.buffer),(.lst ((List.map Qf) x.starts)),(Qf x.axis),(Qf x.amount),(.lst ((List.map Qf) x.perm)),(.lst (Qb.toDs x.kids))]/\AY B x)/\(∀cs,ry prog B n 23 cs->∃l:List Qb,cs=[.lst (Qb.toDs l)]/\l.length<=B/\ur B l)
 |0=>⟨λ_ h=>h.elim,λ_ h=>h.elim⟩
 |n+1=>⟨λ_ h=>SK (NS n).2 h,λ_ h=>S1 (NS n).1 h⟩
theorem Si(h:ry prog B n 25 cs):∃x:Qb,cs=[(Qf x.kind),(.lst ((List.map Qf) x.shape)),(Qf x.buffer),(.lst ((List.map Qf) x.starts)),(Qf x.axis),(Qf x.amount),(.lst ((List.map Qf) x.perm)),(.lst (Qb.toDs x.kids))]/\AY B x:=(NS n).1 cs h
def PI(B:Nat)(x:(List fj)):Prop:=x.length<=B/\∀m∈x,(Hh B m)
theorem Sz(h:ry prog B n 26 cs):∃l:(List fj),cs=[.lst ((List.map (λl=>fy.lst ((List.map Qf) l))) l)]/\PI B l:=by
 cases n with
 |zero=>exact h.elim
 |succ n=>
  simp only[ry,Pw]at h;obtain⟨L,rfl,hl,d⟩:=h;obtain⟨l,rfl,hm⟩:=oV (f:=λm=>[(.lst ((List.map Qf) m))]) (p:=λm=>(Hh B m)) (λx c=>MY (d x c));refine⟨l,?_,by simpa using hl,hm⟩
  have e:(l.map (λm=>[(.lst ((List.map Qf) m))])).map (lD prog 22)=l.map (λl=>fy.lst ((List.map Qf) l)):=by
   rw[zF];exact aQ (λm _=>by simp only[Function.comp_apply];simp[lD,rK,PR])
  rw[e]
theorem U3(h:ry prog B n 5 cs):∃m:Int,cs=[(uA .u8 m)]/\(0<=m/\m<=255):=by
 cases n with
 |zero=>exact h.elim
 |succ n=>
  simp only[ry,T6]at h;obtain⟨m,rfl,hm⟩:=h;refine⟨m,rfl,?_⟩
  simpa[Lit.wf,IntKind.min,IntKind.max,IntKind.signed,IntKind.bits]using hm
theorem ty25{d:fy}(h:Pu prog B 25 d):∃m:Qb,d=(Qb.ex m)/\(AY B m):=by
 obtain⟨n,cs,h,c⟩:=h;obtain⟨m,rfl,hm⟩:=Si h;exact⟨m,by rw[c];simp[lD,rK,O1];rfl,hm⟩
theorem ty26{d:fy}(h:Pu prog B 26 d):∃m:(List fj),d=(.lst ((List.map (λl=>fy.lst ((List.map Qf) l))) m))/\(PI B m):=by
 obtain⟨n,cs,h,c⟩:=h;obtain⟨m,rfl,hm⟩:=Sz h;exact⟨m,by rw[c];simp[lD,rK,Pw],hm⟩
theorem ty5{d:fy}(h:Pu prog B 5 d):∃m:Int,d=(uA .u8 m)/\(0<=m/\m<=255):=by
 obtain⟨n,cs,h,c⟩:=h;obtain⟨m,rfl,hm⟩:=U3 h;exact⟨m,by rw[c];simp[lD,rK,T6],hm⟩
def PX:List TypeId:=[3,22,25,23,26,5,4]
theorem argTs_closed:lC prog PX=true:=by kernel_rfl
theorem laidOut:laidOutB prog=true:=by kernel_rfl
theorem summ:EH prog env:=⟨(λf G h ds p c=>by
  unfold env at h;dsimp only at h;split at h
  .cases h;cases c
  split at h
  .cases h;cases c
  cases h),
 (λf G h=>by
  unfold env at h;dsimp only at h;split at h
  .rename_i e;subst e;cases h;exact⟨by kernel_rfl,GA⟩
  split at h
  .rename_i e;subst e;cases h;exact⟨by kernel_rfl,BB⟩
  cases h)⟩
theorem mixed:prog.follows .mixedOrders=true:=by kernel_rfl
theorem pure_of{f:fo}{c:List fy}{p:PV}(d:p.out=true)(h:PC prog env f (c.map .dat) [] p []):mH prog f c p:=by
 obtain⟨N,e⟩:=h;exact DS summ mixed (e N (j7 _)) d
end Go.Proofs.Tryz
