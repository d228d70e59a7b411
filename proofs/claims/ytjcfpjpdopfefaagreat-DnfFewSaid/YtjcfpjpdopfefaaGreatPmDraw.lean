/-
 The pure machine: a region that draws its order comes to the same in every order.
-/
import Derived.Test.YtjcfpjpdopfefaaGreatPmCode
namespace Go.Pm
open Go Go.RowKit
set_option linter.all false
theorem nq{ρ ρ':ft->PV}{d:Type}(f:Nat->PV->d):∀(l:List (Nat×Operand)),(∀x,x∈l.map (·.2)->ρ x=ρ' x)->(l.map λ(i,x)=>f i (ρ x))=(l.map λ(i,x)=>f i (ρ' x))
 |[],_=>rfl
 |(i,x)::r,h=>by
  simp only[zU];rw[h x yA,nq f r (λy c=>h y (by simp at c |-;exact .inr c))]
theorem xY{ρ ρ':ft->PV}(f:PV->Bool):∀(l:List (Nat×Operand)),(∀x,x∈l.map (·.2)->ρ x=ρ' x)->(l.any λ(_,x)=>f (ρ x))=(l.any λ(_,x)=>f (ρ' x))
 |[],_=>rfl
 |(i,x)::r,h=>by
  simp only[eX];rw[h x yA,xY f r (λy c=>h y (by simp at c |-;exact .inr c))]
theorem qt{ρ ρ':ft->PV}(f:PV->Bool):∀(l:List (Nat×Operand)),(∀x,x∈l.map (·.2)->ρ x=ρ' x)->(l.all λ(_,x)=>f (ρ x))=(l.all λ(_,x)=>f (ρ' x))
 |[],_=>rfl
 |(i,x)::r,h=>by
  simp only[bq];rw[h x yA,qt f r (λy c=>h y (by simp at c |-;exact .inr c))]
section
variable{P:fm}{call:gk}{pf:fo->Bool}{ow:List (Nat×TypeId)}{o:Oper}{ρ ρ':ft->PV}{H H':List fB}{p:PV}
theorem Bo(d:∀cs b,o.op≠.select cs b)(h:∀x∈o.op.operands,ρ x=ρ' x):gv P o ρ H=gv P o ρ' H:=by
 have e:(o.op.operands.toList.map λx=>(ρ x).toVal)=(o.op.operands.toList.map λx=>(ρ' x).toVal):=aQ λx c=>by rw[h x (by simpa using c)]
 have f:execOp (λx=>((ρ x).toVal).getD undef) o=execOp (λx=>((ρ' x).toVal).getD undef) o:=execOp_congr o d λx c=>by rw[h x c]
 unfold gv;simp only[e,f]
theorem rf{args:Array Operand}(h:∀x,x∈args.toList->ρ x=ρ' x):args.toList.map ρ=args.toList.map ρ':=aQ h
theorem tg{d:Nat}{x:Option Operand}(h:∀y,x=some y->ρ y=ρ' y):iD ρ d x=iD ρ' d x:=by
 cases x with
 |none=>rfl
 |some y=>simp only[iD];rw[h y rfl]
theorem nN(h:∀x∈o.op.operands,ρ x=ρ' x):gq P call ow o ρ H=gq P call ow o ρ' H:=by
 have q:=Bo (P:=P) (H:=H) (o:=o) (ρ:=ρ) (ρ':=ρ');cases g:o.op with
 |move x=>simp only[gq,g];rw[h x (by simp[g,Op.operands])]
 |assign x=>simp only[gq,g];rw[h x (by simp[g,Op.operands])]
 |pick c x y=>simp only[gq,g];rw[h c (by simp[g,Op.operands]),h x (by simp[g,Op.operands]),h y (by simp[g,Op.operands])]
 |alloc e=>simp only[gq,g]
 |box e x=>simp only[gq,g];rw[h x (by simp[g,Op.operands])]
 |build t l=>
  have j:∀x,x∈l.toList.map (·.2)->ρ x=ρ' x:=λx p=>h x (by simp only[g,Op.operands];simpa using p)
  simp only[gq,g,kO];rw[nq (λi v=>(i,v.cells)) _ j,qt (λv=>v.cells.all PV.cell) _ j]
 |buildSlice t n l=>
  have j:∀x,x∈l.toList.map (·.2)->ρ x=ρ' x:=λx p=>h x (by simp only[g,Op.operands];simpa using p)
  have s:∀size,qB ρ size l.toList=qB ρ' size l.toList:=λsize=>qt (λv=>v.cells.length==size &&v.cells.all PV.cell) _ j
  have w:(l.toList.flatMap λ(_,x)=>(ρ x).cells)=l.toList.flatMap λ(_,x)=>(ρ' x).cells:=by
   rw[List.flatMap_def,List.flatMap_def];exact bI List.flatten (nq (λ_ v=>v.cells) _ j)
  simp only[gq,g,uP,s,w];rw[nq (λ_ v=>v) _ j,xY PV.lends _ j,qt PV.isFn _ j]
 |load t x=>simp only[gq,g];rw[h x (by simp[g,Op.operands])]
 |store t x y=>simp only[gq,g];rw[h x (by simp[g,Op.operands]),h y (by simp[g,Op.operands])]
 |nilCheck x=>simp only[gq,g];rw[h x (by simp[g,Op.operands])]
 |makeFunc fn first cap=>
  cases fn with
  |func f=>simp only[gq,g];rw[rf (ρ:=ρ) (ρ':=ρ') (args:=cap) (λx p=>h x (by simp only[g,Op.operands];simp;exact .inr (by simpa using p)))]
  |_=>simp only[gq,g]
 |makeSlice t x y=>simp only[gq,g];rw[h x (by simp[g,Op.operands]),h y (by simp[g,Op.operands])]
 |makeMap t r=>cases r<;>simp only[gq,g]
 |range t x=>simp only[gq,g];rw[h x (by simp[g,Op.operands])]
 |next x b=>cases b<;>simp only[gq,g];rw[h x (by simp[g,Op.operands])]
 |mapUpdate t m k x|insert t m k x=>simp only[gq,g,mM];rw[h m (by simp[g,Op.operands]),h k (by simp[g,Op.operands]),h x (by simp[g,Op.operands])]
 |lookup t m k ok=>simp only[gq,g,mM];rw[h m (by simp[g,Op.operands]),h k (by simp[g,Op.operands])]
 |fieldAddr t x f=>simp only[gq,g];rw[h x (by simp[g,Op.operands])]
 |indexAddr t x y=>simp only[gq,g];rw[h x (by simp[g,Op.operands]),h y (by simp[g,Op.operands])]
 |slice t x lo hi A=>
  cases A with
  |none=>
   simp only[gq,g];rw[h x (by simp[g,Op.operands]),q (by simp[g]) h];have s:∀d,iD ρ d lo=iD ρ' d lo:=λd=>tg λy u=>h y (by subst u;simp[g,Op.operands])
   have w:∀d,iD ρ d hi=iD ρ' d hi:=λd=>tg λy u=>h y (by subst u;simp[g,Op.operands])
   simp only[s,w,sn,zu]
  |some m=>
   cases hi with
   |none=>simp[gq,g]
   |some hi=>
    have s:∀d,iD ρ d lo=iD ρ' d lo:=λd=>tg λy u=>h y (by subst u;simp[g,Op.operands])
    simp only[gq,g,s];rw[h x (by simp[g,Op.operands]),h hi (by simp[g,Op.operands]),h m (by simp[g,Op.operands])]
 |field t x f=>simp only[gq,g];rw[h x (by simp[g,Op.operands])]
 |extract x k=>simp only[gq,g];rw[h x (by simp[g,Op.operands])]
 |call c=>
  obtain⟨callee,args,ts⟩:=c;have z:args.toList.map ρ=args.toList.map ρ':=rf λx p=>h x (by simp only[g,Op.operands,Call.operands];simp;exact .inr (by simpa using p))
  cases callee with
  |value f=>
   simp only[gq,g];rw[h f (by simp[g,Op.operands,Call.operands]),z]
  |builtin b=>
   simp only[gq,g];rw[z,q (by simp[g]) h]
  |invoke x n=>simp only[gq,g]
 |binOp op t x y B=>simp only[gq,g];rw[h x (by simp[g,Op.operands]),h y (by simp[g,Op.operands]),q (by simp[g]) h]
 |unOp=>simp only[gq,g];exact q (by simp[g]) h
 |convert=>simp only[gq,g];exact q (by simp[g]) h
 |index=>simp only[gq,g];exact q (by simp[g]) h
 |_=>simp only[gq,g]
theorem gI(h:gv P o ρ H=some (p,H')):H'=H/\∀H2,gv P o ρ H2=some (p,H2):=by
 unfold gv at h |-;simp only at h |-;split at h
 .rename_i c;split at h
  .rename_i v e;simp only[j5,jI]at h;obtain⟨q,d,rfl,rfl⟩:=h;exact⟨rfl,λH2=>by rw[ai c];simp[d]⟩
  .cases h
 .cases h
def Lq(call:gk)(pf:fo->Bool):Prop:=
 ∀f args H p H',pf f=true->call f args H=some (p,H')->H'=H/\(∃ds,gp H args=some ds)/\∀H2,gp H2 args=gp H args->call f args H2=some (p,H2)
theorem I6{ts:Array TypeId}{l:List PV}(h:fZ P .len ts l H=some (p,H')):H'=H:=by
 match l,h with
 |[x],h=>
  simp only[fZ]at h;split at h
  .split at h<;>cases h;rfl
  .split at h
   .split at h<;>cases h;rfl
   .cases h
  .cases h
theorem yM(l:Lq call pf)(e:fF pf ow o ρ<=1)(h:gq P call ow o ρ H=some (p,H')):H'=H:=by
 unfold gq at h;split at h
 .rename_i x d;have m:¬jh ow=true:=λm=>by simp[fF,d,m]at e
  rw[af m]at h;cases h;rfl
 .rename_i x d;split at h
  .cases h;rfl
  .simp[fF,d]at e
 .simp only[j5]at h;obtain⟨t,_,h⟩:=h;cases h;rfl
 .rename_i d;simp[fF,d]at e
 .rename_i d;cases ow with
  |nil=>simp[fF,d]at e
  |cons =>
   simp only[j5]at h;obtain⟨ds,_,h⟩:=h;cases h;rfl
 .rename_i t g d;cases ow with
  |cons=>simp only[fF,d]at e;split at e<;>omega
  |nil=>
  simp only[kO,jh,j6,aj]at h;split at h
  .split at h
   .split at h
    .split at h
     .split at h
      .rename_i E bs A;simp only[iW,j9,jI]at A;obtain⟨rfl,rfl⟩:=A;cases h;simp
      .cases h
     .cases h
    .cases h
   .cases h
  .cases h
 .rename_i t n g d;split at h
  .split at h
   .rename_i s;cases ow with
    |nil=>cases s
    |cons=>simp[fF,d]at e
   split at h
   .rename_i u;cases ow with
    |nil=>cases u
    |cons=>simp[fF,d]at e
   split at h
   .split at h
    .split at h
     .cases h;rfl
     .simp[fF,d]at e
    .cases h
   .cases h
  .cases h
 .rename_i d;cases ow with
  |cons=>simp[fF,d]at e
  |nil=>
  simp only[jy]at h;split at h
  .split at h
   .split at h
    .simp only[j5]at h;obtain⟨q,_,h⟩:=h;cases h;rfl
    .cases h
   .simp only[j5]at h;obtain⟨q,_,h⟩:=h;cases h;rfl
   .split at h
    .split at h
     .simp only[j5]at h;obtain⟨q,_,h⟩:=h;cases h;rfl
     .split at h
      .simp only[j5]at h;obtain⟨q,_,h⟩:=h;cases h;rfl
      .cases h
    .cases h
   .cases h
  .cases h
 .rename_i d;simp[fF,d]at e
 .split at h<;>cases h<;>rfl
 .split at h
  .split at h<;>cases h<;>rfl
  .cases h
 .rename_i d;cases ow with
  |nil=>simp[fF,d]at e
  |cons v xs=>
   by_cases j:8000<=v.1
   .simp only at h;rw[ai j]at h;split at h
    .split at h
     .split at h
      .cases h;rfl
      .cases h
     .cases h
    .cases h
   .simp[fF,d,j]at e
 .rename_i d;simp[fF,d]at e
 .rename_i d;simp[fF,d]at e
 .rename_i d;simp[fF,d]at e
 .rename_i d;simp[fF,d]at e
 .rename_i d;simp[fF,d]at e
 .split at h
  .split at h
   .split at h
    .cases h;rfl
    .simp only[j5]at h;obtain⟨z,_,h⟩:=h;cases h;rfl
    .cases h
   .cases h
  .cases h
 .split at h
  .split at h
   .split at h
    .split at h<;>cases h<;>rfl
    .cases h
   .cases h
  .cases h
 .split at h
  .split at h
   .split at h
    .split at h
     .split at h
      .split at h
       .split at h<;>cases h;rfl
       .cases h
      .split at h
       .split at h<;>cases h;rfl
       .cases h
      .split at h<;>cases h;rfl
      .split at h<;>cases h;rfl
      .cases h
     .cases h
    .cases h
   .split at h
    .split at h
     .split at h<;>cases h;rfl
     .split at h<;>cases h;rfl
     .cases h
    .cases h
  .cases h
 .have key:∀(es:List fy) (x:Option (PV×List fB)),x=some (p,H')->(∀q H1,x=some (q,H1)->H1=H)->H'=H:=λ_ x F G=>G _ _ F
  split at h
  .split at h
   .split at h
    .split at h<;>cases h;rfl
    .cases h
   .cases h
  .split at h
   .split at h
    .split at h<;>cases h;rfl
    .cases h
   .cases h
  .split at h
   .split at h
    .simp only[j5]at h;obtain⟨q,_,h⟩:=h;cases h;rfl
    .cases h
   .cases h
  .split at h
   .split at h
    .simp only[j5]at h;obtain⟨q,_,h⟩:=h;cases h;rfl
    .cases h
   .cases h
  .exact(gI h).1
 .rename_i d;split at h
  .split at h
   .split at h
    .split at h
     .split at h
      .cases h;rfl
      .simp[fF,d]at e
     .cases h;rfl
    .cases h
   .cases h
  .cases h
 .split at h
  .simp only[bN,jK]at h;obtain⟨_,_,_,_,_,_,_,_,_,_,h⟩:=h;cases h;rfl
  .simp only[bN,jK]at h;obtain⟨_,_,_,_,_,_,_,_,_,_,h⟩:=h;cases h;rfl
  .cases h
 .split at h
  .simp only[j5]at h;obtain⟨q,_,h⟩:=h;cases h;rfl
  .cases h
 .rename_i c d;obtain⟨callee,args,ts⟩:=c;simp only at h;split at h
  .rename_i f;cases ow with
   |cons v xs=>
    by_cases k:13000<=v.1
    .simp only[ai k]at h;unfold oq at h;split at h
     .split at h
      .cases h;rfl
      .split at h
       .cases h;rfl
       .cases h
     .cases h
    .simp only[fF,d,af k]at e;split at e<;>(try split at e)<;>(try split at e)<;>(try split at e)<;>omega
   |nil=>
   simp only at h;split at h
   .rename_i B x y w;by_cases C:pf B=true
    .exact(l _ _ _ _ _ C h).1
    .simp[fF,d,w,C]at e
   .rename_i B cap w;simp[fF,d,w]at e
   .cases h
  .rename_i b;split at h
   .rename_i r D;cases h;cases b with
    |append=>simp only[fF,d]at e;split at e<;>(try split at e)<;>omega
    |clear|copy|cap=>simp[fF,d]at e
    |len=>exact I6 D
    |_=>simp[fZ]at D
   .exact(gI h).1
  .cases h
 .split at h
  .cases h;rfl
  .split at h
   .cases h;rfl
   .exact(gI h).1
 .exact(gI h).1
 .exact(gI h).1
 .exact(gI h).1
 .cases h
theorem lW{H2:List fB}:∀(args:List PV) (ds:List fy),gp H args=some ds->args.any PV.lends=false->gp H2 args=some ds
 |[],ds,h,_=>h
 |c::r,ds,h,hl=>by
  simp only[eX,eS]at hl
  have k:∀(c:PV) (d:fy),fR H c=some d->c.isArr=false->fR H2 c=some d:=λc d h hn=>by
   cases c with
   |arr i o len cap=>cases hn
   |ms=>cases hn
   |_=>first|(simp[fR]at h;done)|(simpa[fR]using h)
  have f:∀(cs:List PV) (ds:List fy),kC H cs=some ds->cs.any PV.isArr=false->kC H2 cs=some ds:=by
   intro cs;induction cs with
   |nil=>intro ds h _;exact h
   |cons c cs l=>
    intro ds h hn;simp only[eX,eS]at hn;simp only[kC]at h |-;split at h
    .rename_i d ds' e g;rw[k c d e hn.1,l _ g hn.2];exact h
    .cases h
  simp only[gp]at h |-;split at h
  .rename_i d ds' e g
   have j:iu H2 c=some d:=by
    cases c with
    |agg cs=>
     simp only[iu,j5]at e |-;obtain⟨es,e,rfl⟩:=e;exact⟨es,f _ _ e (by simpa[PV.lends]using hl.1),rfl⟩
    |arr i o len cap=>simp[PV.lends]at hl
    |ms=>simp[PV.lends]at hl
    |_=>first|(simp[iu,fR]at e;done)|(simpa[iu,fR]using e)
   rw[j,lW r ds' g hl.2];exact h
  .cases h
theorem G7{ts:Array TypeId}{l:List PV}{H2:List fB}(hl:l.any PV.isMap=false):fZ P .len ts l H2=(fZ P .len ts l H).map λx=>(x.1,H2):=by
 match l with
 |[]=>rfl
 |[x]=>
  simp only[fZ];split
  .split <;>rfl
  .split
   .rename_i c;simp[PV.isMap]at hl
   .rfl
  .rfl
 |_::_::_=>rfl
theorem DJ(N:Lq call pf)(j:fF pf ow o ρ=0)(h:gq P call ow o ρ H=some (p,H'))(H2:List fB):gq P call ow o ρ H2=some (p,H2):=by
 cases g:o.op with
 |move x=>
  have E:¬jh ow=true:=λE=>by simp[fF,g,E]at j
  simp only[gq,g,af E]at h |-;cases h;rfl
 |assign x=>
  cases ow with
  |nil=>simp only[gq,g]at h |-;cases h;rfl
  |cons=>simp[fF,g]at j
 |pick c x y=>
  simp only[gq,g,j5]at h |-;obtain⟨t,M,h⟩:=h;cases h;exact⟨t,M,rfl⟩
 |alloc e=>simp[fF,g]at j
 |box e x=>
  cases ow with
  |nil=>simp[fF,g]at j
  |cons =>
   simp only[gq,g,j5]at h |-;obtain⟨ds,F,h⟩:=h;cases h;exact⟨ds,F,rfl⟩
 |build t U=>
  cases ow with
  |cons=>simp only[fF,g]at j;split at j<;>cases j
  |nil=>
   simp only[gq,g,kO,jh,j6,aj]at h |-;split at h
   .split at h
    .split at h
     .split at h
      .split at h
       .rename_i W O _ cs D G X _ Y bs M;simp only[iW,j9,jI]at M;obtain⟨rfl,rfl⟩:=M;cases h;simp[W,O,D,G,iW]
       .cases h
      .cases h
     .cases h
    .cases h
   .cases h
 |buildSlice t n U=>
  cases ow with
  |cons=>simp[fF,g]at j
  |nil=>
   simp only[gq,g,EM,uP,List.isEmpty_nil,bC,cu,j6,aj]at h |-;split at h
   .split at h
    .rename_i size ds A I;split at h
     .rename_i hc;cases h
      have hl:(U.toList.map λ(_,x)=>ρ x).any PV.lends=false:=by
       have:=hc.2.2.2.2.2.2;simp only[cm]at this;rw[List.any_map];exact this
      rw[lW (H2:=H2) _ _ I hl];simp only[A,ai hc]
     .cases h
    .cases h
   .cases h
 |load t x=>
  cases ow with
  |cons=>simp[fF,g]at j
  |nil=>
  simp only[gq,jy,g]at h |-;split at h
  .split at h
   .rename_i l;simp[fF,g,l]at j
   .rename_i E A _ cs l;simp only[j5]at h;obtain⟨q,B,h⟩:=h;cases h;simp[E,A,l,B]
   .rename_i l;simp[fF,g,l]at j
   .cases h
  .cases h
 |store t x y=>simp[fF,g]at j
 |nilCheck x=>
  simp only[gq,g]at h |-;split at h<;>cases h<;>rename_i l<;>simp[l]
 |makeFunc fn first cap=>
  cases fn with
  |func f=>
   simp only[gq,g]at h |-;split at h
   .rename_i u;rw[ai u];split at h
    .rename_i s;rw[ai s];cases h;rfl
    .rename_i s;rw[af s];cases h;rfl
   .cases h
  |_=>simp[gq,g]at h
 |makeSlice t x y=>
  cases ow with
  |nil=>simp[fF,g]at j
  |cons V xs=>
   by_cases J:8000<=V.1
   .simp only[gq,g]at h |-;rw[ai J]at h |-;split at h
    .split at h
     .split at h
      .rename_i C;cases h;rw[ai C]
      .cases h
     .cases h
    .cases h
   .simp[fF,g,J]at j
 |fieldAddr t x f=>
  simp only[gq,g]at h |-;split at h
  .split at h
   .split at h
    .split at h<;>cases h<;>first|rfl|simp_all
    .cases h
   .cases h
  .cases h
 |indexAddr t x y=>
  simp only[gq,g]at h |-;split at h
  .split at h
   .split at h
    .split at h
     .rename_i u _ _ s _ _ v z;simp only[u,s,v,ai z];split at h
      .rename_i l;split at h
       .rename_i F;split at h
        .rename_i hn;cases h;simp[l,F,hn]
        .cases h
       .cases h
      .rename_i l;split at h
       .rename_i F;split at h
        .rename_i hn;cases h;simp[l,F,hn]
        .cases h
       .cases h
      .rename_i l;split at h
       .rename_i hn;cases h;simp[l,hn]
       .cases h
      .rename_i l;split at h
       .rename_i hn;cases h;simp[l,hn]
       .cases h
      .cases h
     .cases h
    .cases h
   .rename_i u _ s;split at h
    .rename_i v;split at h
     .rename_i z l;split at h
      .rename_i hn;cases h;simp only[u,s,v,z,l,ai hn]
      .cases h
     .rename_i z l;split at h
      .rename_i hn;cases h;simp only[u,s,v,z,l,ai hn]
      .cases h
     .cases h
    .cases h
  .cases h
 |slice t x lo hi Z=>
  cases Z with
  |some m=>
   cases hi with
   |none=>simp[gq,g]at h
   |some hi=>
    cases ow with
    |cons=>simp[fF,g]at j
    |nil=>
     simp only[gq,g]at h |-;split at h
     .split at h
      .split at h
       .rename_i u s v z hc;split at h
        .rename_i w;cases h;simp only[ai hc,ai w]
        .rename_i w;cases h;simp only[ai hc,af w]
       .cases h
      .cases h
     .cases h
  |none=>
   simp only[gq,g]at h |-;split at h
   .rename_i l;split at h
    .rename_i w;split at h
     .rename_i u s v;split at h
      .rename_i hc;cases h;simp only[w,u,s,v,ai hc]
      .cases h
     .cases h
    .cases h
   .rename_i l;split at h
    .rename_i w;split at h
     .rename_i u s v;split at h
      .rename_i hc;cases h;simp only[w,u,s,v,ai hc]
      .cases h
     .cases h
    .cases h
   .rename_i l;split at h
    .rename_i w;split at h
     .rename_i hc;simp only[j5]at h;obtain⟨q,B,h⟩:=h;cases h;simp only[w,ai hc,B,jN]
     .cases h
    .cases h
   .rename_i l;split at h
    .rename_i w;split at h
     .rename_i hc;simp only[j5]at h;obtain⟨q,B,h⟩:=h;cases h;simp[w,hc,B]
     .cases h
    .cases h
   .exact(gI h).2 H2
 |field t x f=>
  simp only[gq,g]at h |-;split at h
  .simp only[bN,jK]at h |-;obtain⟨fs,u,Q,s,R,v,S,z,d,T,h⟩:=h;cases h;exact⟨fs,u,Q,s,R,v,S,z,_,T,rfl⟩
  .simp only[bN,jK]at h |-;obtain⟨fs,u,Q,s,R,v,S,z,d,T,h⟩:=h;cases h;exact⟨fs,u,Q,s,R,v,S,z,_,T,rfl⟩
  .cases h
 |extract x k=>
  simp only[gq,g]at h |-;split at h
  .simp only[j5]at h |-;obtain⟨q,B,h⟩:=h;cases h;exact⟨_,B,rfl⟩
  .cases h
 |call c=>
  obtain⟨callee,args,ts⟩:=c;cases callee with
  |value f=>
   cases ow with
   |cons V xs=>(try simp only[ic,g,ite_eq_right_iff,reduceCtorEq]at L);simp only[fF,g]at j;split at j<;>(try split at j)<;>(try split at j)<;>(try split at j)<;>(try split at j)<;>first|(cases j;done)|(exfalso;exact L (by assumption))
   |nil=>
   simp only[gq,g]at h |-;split at h
   .rename_i fi x y D;by_cases I:pf fi=true
    .have hl:(args.toList.map ρ).any PV.lends=false:=by
      simp only[fF,g,D,I,ak]at j;split at j
      .cases j
      .rename_i hn;simpa using hn
     obtain⟨_,⟨ds,K⟩,k⟩:=N _ _ _ _ _ I h;exact k H2 (by rw[lW (H2:=H2) _ _ K hl,K])
    .simp[fF,g,D,I]at j
   .rename_i D;simp[fF,g,D]at j
   .cases h
  |builtin b=>
   simp only[gq,g]at h |-;cases b with
   |append=>simp only[fF,g]at j;split at j<;>(try split at j)<;>cases j
   |clear=>simp[fF,g]at j
   |copy=>simp[fF,g]at j
   |cap=>simp[fF,g]at j
   |len=>
    have hl:(args.toList.map ρ).any PV.isMap=false:=by
     simp only[fF,g]at j;split at j
     .cases j
     .rename_i hn;simpa using hn
    rw[G7 (H2:=H2) hl];split at h
    .rename_i r L;cases h;rw[L];rfl
    .rename_i L;rw[L];exact(gI h).2 H2
   |_=>
    simp only[fZ]at h |-;exact(gI h).2 H2
  |invoke x n=>simp[gq,g]at h
 |binOp op t x y yt=>
  simp only[gq,g]at h |-;split at h
  .cases h;rfl
  .split at h
   .cases h;rfl
   .exact(gI h).2 H2
 |unOp=>simp only[gq,g]at h |-;exact(gI h).2 H2
 |convert=>simp only[gq,g]at h |-;exact(gI h).2 H2
 |index=>simp only[gq,g]at h |-;exact(gI h).2 H2
 |makeMap t r=>simp[fF,g]at j
 |mapUpdate|insert|range|next=>simp[fF,g]at j
 |lookup=>simp[fF,g]at j
 |_=>simp[gq,g]at h
def PV.blk1:PV->List Nat
 | .ptr i _=>[i]
 | .mp t _ _=>[t]
 | .arr i _ _ _=>[i]
 | .ms t _ _ _ _=>[t]
 | .mapv i=>[i]
 |_=>[]
def PV.blks:PV->List Nat
 | .agg cs=>cs.flatMap PV.blk1
 |p=>p.blk1
def vM:Option fB->Prop
 |some (.tok _ _)=>True
 |_=>False
theorem wW{H2:List fB}{c:PV}(h:∀i,i∈c.blk1->H2[i]?=H[i]?):fR H2 c=fR H c:=by
 cases c with
 |arr i o len cap=>simp only[fR];rw[h i (by simp[PV.blk1])]
 |ms t g lo len cap=>simp only[fR,mtOf];rw[h t (by simp[PV.blk1])]
 |_=>rfl
theorem uh{H2:List fB}:∀(cs:List PV),(∀c,c∈cs->∀i,i∈c.blk1->H2[i]?=H[i]?)->kC H2 cs=kC H cs
 |[],_=>rfl
 |c::cs,h=>by
  simp only[kC];rw[wW (h c yA),uh cs λd hc=>h d (by simp[hc])]
theorem DE{H2:List fB}{c:PV}(h:∀i,i∈c.blks->H2[i]?=H[i]?):iu H2 c=iu H c:=by
 cases c with
 |agg cs=>simp only[iu];rw[uh cs λc hc i hi=>h i (by simp only[PV.blks,bE];exact⟨c,hc,hi⟩)]
 |_=>simp only[iu];exact wW h
theorem wS{H2:List fB}:∀(cs:List PV),(∀c,c∈cs->∀i,i∈c.blks->H2[i]?=H[i]?)->gp H2 cs=gp H cs
 |[],_=>rfl
 |c::cs,h=>by
  simp only[gp];rw[DE (h c yA),wS cs λd hc=>h d (by simp[hc])]
theorem vZ{c:PV}{d:fy}(h:fR H c=some d){i:Nat}(hi:i∈c.blk1):i<H.length/\¬vM H[i]?:=by
 cases c with
 |arr f o len cap=>
  simp[PV.blk1]at hi;subst hi;simp only[fR]at h;split at h
  .rename_i e;exact⟨(ae.1 e).1,by rw[e];exact λh=>h⟩
  .cases h
 |ms t g lo len cap=>
  simp[PV.blk1]at hi;subst hi;simp only[fR]at h;split at h
  .rename_i e;exact⟨(ae.1 (Zb e)).1,by rw[Zb e];exact λh=>h⟩
  .cases h
 |ptr|mp|mapv=>simp[fR]at h
 |_=>simp[PV.blk1]at hi
theorem Em{c:PV}{d:fy}(h:iu H c=some d){i:Nat}(hi:i∈c.blks):i<H.length/\¬vM H[i]?:=by
 cases c with
 |agg cs=>
  simp only[iu,j5]at h;obtain⟨ds,h,_⟩:=h;obtain⟨p1,f⟩:=k9 _ _ h;simp only[PV.blks,bE]at hi;obtain⟨c,hc,hi⟩:=hi;obtain⟨j,e⟩:=aL hc;have hl:=(ae.1 e).1;exact vZ (f j c _ e (jC y8)) hi
 |_=>simp only[iu]at h;exact vZ h hi
theorem M4(E:Lq call pf)(I:ic ow o ρ=none)(d:fF pf ow o ρ=1)(h:gq P call ow o ρ H=some (p,H')):∃xs:List Operand,(∀x,x∈xs->x∈o.op.operands)/\(∀x,x∈xs->∀i,i∈(ρ x).blks->i<H.length/\¬vM H[i]?)/\
  ∀H2,(∀x,x∈xs->∀i,i∈(ρ x).blks->H2[i]?=H[i]?)->gq P call ow o ρ H2=some (p,H2):=by
 cases g:o.op with
 |load t x=>
  cases ow with
  |cons=>simp[fF,g]at d
  |nil=>
  have s:∀i,i∈(ρ x).blks->i<H.length/\¬vM H[i]?:=λi hi=>by
   simp only[gq,jy,g]at h;split at h
   .split at h
    .rename_i l;rw[l]at hi;simp[PV.blks,PV.blk1]at hi;subst hi;split at h
     .rename_i u;exact⟨(ae.1 u).1,by rw[u];exact λh=>h⟩
     .cases h
    .rename_i l;rw[l]at hi;simp[PV.blks,PV.blk1]at hi
    .rename_i l;rw[l]at hi;simp[PV.blks,PV.blk1]at hi;subst hi;split at h
     .rename_i u;exact⟨(ae.1 (Zb u)).1,by rw[Zb u];exact λh=>h⟩
     .cases h
    .cases h
   .cases h
  refine⟨[x],λy w=>by rw[ca.1 w];simp[Op.operands],λy w=>by rw[ca.1 w];exact s,λH2 v=>?_⟩;replace v:=v x yA;simp only[gq,jy,g]at h |-;split at h
  .split at h
   .rename_i l;rw[<-v _ (by rw[l];simp[PV.blks,PV.blk1])]at h;split at h
    .simp only[j5]at h;obtain⟨q,D,h⟩:=h;cases h;simp[D]
    .cases h
   .rename_i l;simp[fF,g,l]at d
   .rename_i l;rw[mtOf,<-v _ (by rw[l];simp[PV.blks,PV.blk1])]at h
    change (match mtOf H2 _ with|some (_,g',cs)=>_|none=>none)=_ at h
    split at h
    .rename_i hm;split at h
     .rename_i hc;simp only[j5]at h;obtain⟨q,D,h⟩:=h;cases h;simp only[hm,ai hc,D];rfl
     .rename_i hc;split at h
      .rename_i F;simp only[j5]at h;obtain⟨q,D,h⟩:=h;cases h;simp only[hm,af hc,ai F];rw[D];rfl
      .cases h
    .cases h
   .cases h
  .cases h
 |makeSlice t x y=>cases ow<;>(simp only[fF,g]at d;try split at d)<;>(try cases d)
 |assign x=>cases ow<;>simp[fF,g]at d
 |build t K=>(cases ow<;>simp only[fF,g]at d)<;>(try split at d)<;>cases d
 |buildSlice t n K=>cases ow<;>simp[fF,g]at d
 |slice t x lo hi L=>cases hi<;>cases L<;>cases ow<;>simp[fF,g]at d
 |call c=>
  obtain⟨callee,args,ts⟩:=c;cases callee with
  |value f=>
   cases ow with
   |cons Q xs=>(try simp only[ic,g,ite_eq_right_iff,reduceCtorEq]at I);simp only[fF,g]at d;split at d<;>(try split at d)<;>(try split at d)<;>(try split at d)<;>(try split at d)<;>first|(cases d;done)|(exfalso;exact I (by assumption))
   |nil=>
   have r:=d;simp only[fF,g]at r;split at r
   .rename_i R x y J;split at r
    .rename_i M;simp only[gq,g,J]at h;obtain⟨_,⟨ds,G⟩,k⟩:=E _ _ _ _ _ M h;obtain⟨p1,N⟩:=jl _ _ G;refine⟨args.toList,λz A=>by simp only[Op.operands,Call.operands];simp;exact .inr (by simpa using A),λz A i hi=>?_,λH2 v=>?_⟩
     .obtain⟨j,C⟩:=aL A;have hl:j<ds.length:=by rw[p1,jY];exact(ae.1 C).1
      exact Em (N j (ρ z) _ (by rw[jD,C];rfl) (jC hl)) hi
     .simp only[gq,g,J];refine k H2 (wS _ λc hc=>?_);obtain⟨z,A,rfl⟩:=ar.1 hc;exact v z A
    .cases r
   .cases r
  |builtin b=>
   cases b with
   |len=>simp only[fF,g]at d;split at d<;>cases d
   |append=>simp only[fF,g]at d;split at d<;>(try split at d)<;>cases d
   |_=>simp[fF,g]at d
  |invoke x n=>simp[fF,g]at d
 |box e x=>cases ow<;>simp[fF,g]at d
 |move x=>simp only[fF,g]at d;split at d<;>cases d
 |lookup t m k ok=>
  simp only[gq,g]at h;split at h
  case h_2=>cases h
  rename_i i hm;split at h
  case h_2=>cases h
  rename_i es B;have u:=jz B;refine⟨[m],λy w=>by rw[ca.1 w];simp[Op.operands],λy w j C=>?_,λH2 v=>?_⟩
  .rw[ca.1 w,hm]at C;simp[PV.blks,PV.blk1]at C;subst C;exact⟨(ae.1 u).1,by rw[u];exact λh=>h⟩
  .have O:mapOf H2 i=some es:=by
    have:=v m yA i (by rw[hm];simp[PV.blks,PV.blk1]);unfold mapOf at B |-;rw[this];exact B
   simp only[gq,g,hm,O];split at h
   .cases h;rfl
   .simp only[j5]at h;obtain⟨z,A,h⟩:=h;cases h;simp[A]
   .cases h
 |_=>simp[fF,g]at d
theorem Lo{n:Nat}(g:ic ow o ρ=some n)(h:gq P call ow o ρ H=some (p,H')):n<=H.length/\∀H2,(∀i,i<n->H2[i]?=H[i]?)->gq P call ow o ρ H2=some (p,H2):=by
 unfold ic at g;split at g
 case h_2=>cases g
 rename_i c z;obtain⟨callee,args,ts⟩:=c;cases callee with
 |builtin b=>cases g
 |invoke x n=>cases g
 |value f=>
  cases ow with
  |nil=>cases g
  |cons v xs=>
   simp only at g;split at g
   case isFalse=>cases g
   rename_i k;simp only[j9]at g;subst g;simp only[gq,z]at h |-;rw[ai k]at h;unfold oq at h;split at h
   case h_2=>cases h
   rename_i q R d
   have hR:R=H/\q=p:=by
    split at h
    .rename_i m;cases h;exact⟨r6 m,rfl⟩
    .split at h
     .rename_i m;cases h;exact⟨m,rfl⟩
     .cases h
   obtain⟨hR,rfl⟩:=hR;generalize hn:tA (args.toList.map ρ)+v.2=n at *;unfold kF at d;split at d
   case h_2=>cases d
   rename_i E F G r;rw[hn]at d;unfold iI at d;split at d
   case isFalse=>cases d
   rename_i hc;split at d
   case h_2=>cases d
   rename_i p1 H1 s;split at d
   case isFalse=>cases d
   rename_i A;simp only[j9,jI]at d;obtain⟨rfl,l⟩:=d;have w:∀{i:Nat} {x:fB},i<n->H[i]?=some x->x∈H.take n:=λ{i x} hi B=>jF (i:=i) (by rw[jR,ai hi];exact B)
   refine⟨hc.1,λH2 C=>?_⟩
   .have j:H2.take n=H.take n:=bD λi=>by
     rw[jR,jR];split
     .rename_i hi;exact C i hi
     .rfl
    have hl:n<=H2.length:=by
     have:=bI List.length j;rw[zV,zV]at this;have:=hc.1;omega
    have t:kF call (ρ f) (args.toList.map ρ) v.2 H2=some (p1,H2):=by
     unfold kF;rw[r];simp only[hn];unfold iI;rw[ai ⟨hl,hc.2.1,by rw[j];exact hc.2.2⟩,j,s];simp only;rw[ai A]
     have D:H1.take n=H2.take n:=by
      rw[j];have e:=bI (List.take n) (l.trans hR);rw[List.take_append,List.take_take,Nat.min_self]at e
      have u:(H1.take n).length=n:=by
       have y:=bI List.length (l.trans hR);rw[jV,y6]at y;have:=hc.1;rw[zV]at y |-;omega
      rw[u,cB,List.take_zero,jU]at e;exact e
     rw[D,y7]
    rw[ai k];unfold oq;rw[t];simp only[hn,j];split
    .rfl
    .rfl
theorem s7(d:fF pf ow o ρ=2)(h:gq P call ow o ρ H=some (p,H')):∃bs,H'=H++bs:=by
 cases g:o.op with
 |alloc e=>
  simp only[gq,g]at h;split at h
  .split at h
   .cases h;exact⟨_,rfl⟩
   .cases h
  .cases h
 |box e x=>
  cases ow with
  |cons=>simp[fF,g]at d
  |nil=>
  simp only[gq,g]at h;split at h
  .cases h;exact⟨_,rfl⟩
  .cases h
 |makeSlice t x y=>
  simp only[gq,g]at h;split at h
  .split at h
   .split at h
    .split at h
     .cases h;exact⟨_,rfl⟩
     .cases h
    .cases h
   .cases h
  .rename_i k F ow';have v:¬8000<=k:=λhc=>by simp[fF,g,hc]at d
   rw[af v]at h;by_cases s:k=1000
   .rw[ai s]at h;split at h
    .split at h
     .split at h
      .unfold oJ at h;split at h
       .split at h<;>cases h<;>exact⟨_,rfl⟩
       .cases h
      .cases h
     .cases h
    .cases h
   rw[af s]at h;split at h
   .split at h
    .split at h
     .cases h;exact⟨_,rfl⟩
     .cases h
    .cases h
   .cases h
 |assign x=>
  cases ow with
  |nil=>simp[fF,g]at d
  |cons =>
   simp only[gq,g]at h;split at h
   .split at h<;>cases h<;>exact⟨_,rfl⟩
   .cases h
 |slice t x lo hi u=>
  cases ow with
  |nil=>cases hi<;>cases u<;>simp[fF,g]at d
  |cons =>
   cases hi with
   |none=>cases u<;>simp[fF,g]at d
   |some hi=>
    cases u with
    |none=>simp[fF,g]at d
    |some u=>
     simp only[gq,g]at h;split at h
     .split at h
      .split at h
       .split at h
        .split at h
         .cases h;exact⟨_,rfl⟩
         .cases h
        .cases h;exact⟨[],by simp⟩
       .cases h
      .cases h
     .cases h
 |build t B=>
  have C:jh ow=false:=by
   cases ow with
   |nil=>rfl
   |cons x xs=>
    simp only[fF,g]at d;split at d
    .cases d
    .rename_i D;simpa[jh]using D
  simp only[gq,g,kO,C,j6,aj]at h;split at h
  .split at h
   .split at h
    .split at h
     .split at h
      .cases h;exact⟨_,rfl⟩
      .cases h
     .cases h
    .cases h
   .cases h
  .cases h
 |buildSlice t n B=>
  cases ow with
  |nil=>simp[fF,g]at d
  |cons =>
   simp only[gq,g]at h;split at h
   .split at h
    .split at h
     .split at h
      .cases h;exact⟨_,rfl⟩
      .cases h
     .cases h
    split at h
    .split at h
     .cases h;exact⟨_,rfl⟩
     .cases h
    .split at h
     .split at h
      .split at h
       .split at h
        .split at h
         .cases h;exact⟨_,rfl⟩
         .split at h
          .cases h;exact⟨_,rfl⟩
          .cases h
        .cases h;exact⟨_,rfl⟩
       .cases h
      .cases h
     .cases h
   .cases h
 |makeMap t r=>
  cases r with
  |none=>
   simp only[gq,g]at h;split at h
   .cases h;exact⟨_,rfl⟩
   .cases h
  |some r=>simp[gq,g]at h
 |load t x=>
  cases ow with
  |cons=>simp[fF,g]at d
  |nil=>
  simp only[fF,g]at d;split at d<;>cases d
 |call c=>
  obtain⟨callee,args,ts⟩:=c;cases callee with
  |value f=>
   cases ow with
   |cons k xs=>
    have m:¬13000<=k.1:=λhc=>by simp only[fF,g,ai hc]at d;cases d
    have q:¬12000<=k.1:=λhc=>by simp only[fF,g,af m,ai hc]at d;cases d
    have z:¬6000<=k.1:=λhc=>by simp only[fF,g,af m,af q,ai hc]at d;cases d
    have hn:¬2000<=k.1:=λhc=>by simp only[fF,g,af m,af q,af z,ai hc]at d;cases d
    simp only[gq,g]at h;rw[af m,af q,af (show¬k.1=7000 by omega),af z]at h;split at h
    .rw[af (show¬k.1=5000 by omega),af hn]at h;unfold kf at h;split at h
     .split at h
      .split at h
       .split at h
        .cases h;exact⟨_,rfl⟩
        .cases h
       .cases h
      .split at h
       .cases h;exact⟨_,rfl⟩
       .cases h
      .cases h
     .cases h
    .cases h
   |nil=>
   simp only[fF,g]at d;split at d
   .split at d
    .split at d<;>cases d
    .cases d
   .cases d
  |builtin b=>
   cases b with
   |len=>simp only[fF,g]at d;split at d<;>cases d
   |append=>
    simp only[fF,g]at d;split at d
    .cases d
    split at d
    case isFalse=>cases d
    rename_i A;simp only[gq,g]at h;generalize hl:args.toList.map ρ=l at h A
    match l,A with
    |[.arr i off 0 0,.dat (.lst es)],_=>
     split at h
     .rename_i r j;cases h;simp only[fZ]at j;split at j
      .split at j
       .split at j
        .split at j
         .unfold wi at j;split at j
          .cases j;exact⟨_,rfl⟩
          .cases j
         .cases j
        .cases j
       .cases j
      .cases j
     .have w:gv P o ρ H=none:=by
       unfold gv
       have:(o.op.operands.toList.map λx=>(ρ x).toVal).all Option.isSome=false:=by
        rw[g];have hm:PV.arr i off 0 0∈args.toList.map ρ:=by rw[hl];simp
        obtain⟨x,E,e⟩:=ar.1 hm;rw[dQ];exact⟨none,ar.2 ⟨x,by simpa[Op.operands,Call.operands]using E,by rw[e];rfl⟩,by simp⟩
       simp only[this];rfl
      rw[w]at h;cases h
   |_=>simp[fF,g]at d
  |invoke x n=>simp[fF,g]at d
 |move x=>simp only[fF,g]at d;split at d<;>cases d
 |_=>simp[fF,g]at d
theorem wO{e size bytes t:Nat}{xs es:List fy}(h:sg H e size bytes (.vec t xs) es=some (p,H')):∃n n',H[t]?=some (.tok e n)/\H'=H.set t (.tok e n'):=by
 unfold sg at h;split at h
 .simp only at h;split at h
  .rename_i c;split at h
   .rename_i hc;obtain⟨_,rfl,_⟩:=hc;cases h;exact⟨_,_,c,rfl⟩
   .cases h
  .cases h
 .cases h
theorem Hd(d:fF pf ow o ρ=4)(h:gq P call ow o ρ H=some (p,H')):∃t e n n',H[t]?=some (.tok e n)/\H'=H.set t (.tok e n'):=by
 cases g:o.op with
 |load t x=>cases ow with|cons=>simp[fF,g]at d|nil=>simp only[fF,g]at d;split at d<;>cases d
 |makeSlice t x y=>cases ow<;>(simp only[fF,g]at d;try split at d)<;>(try cases d)
 |assign x=>cases ow<;>simp[fF,g]at d
 |build t q=>(cases ow<;>simp only[fF,g]at d)<;>(try split at d)<;>cases d
 |buildSlice t n q=>cases ow<;>simp[fF,g]at d
 |slice t x lo hi s=>cases hi<;>cases s<;>cases ow<;>simp[fF,g]at d
 |call c=>
  obtain⟨callee,args,ts⟩:=c;cases callee with
  |value f=>
   cases ow with
   |cons z xs=>(try simp only[ic,g,ite_eq_right_iff,reduceCtorEq]at hr);simp only[fF,g]at d;split at d<;>(try split at d)<;>(try split at d)<;>(try split at d)<;>(try split at d)<;>first|(cases d;done)|(exfalso;exact hr (by assumption))
   |nil=>
   simp only[fF,g]at d;split at d
   .split at d
    .split at d<;>cases d
    .cases d
   .cases d
  |builtin b=>
   cases b with
   |len=>simp only[fF,g]at d;split at d<;>cases d
   |append=>
    simp only[fF,g]at d;split at d
    .rename_i m;simp only[gq,g]at h;generalize hl:args.toList.map ρ=l at h m
     match l,m with
     | .vec t xs::r,_=>
      have k:gv P o ρ H=none:=by
       unfold gv
       have:(o.op.operands.toList.map λx=>(ρ x).toVal).all Option.isSome=false:=by
        rw[g];have hm:PV.vec t xs∈args.toList.map ρ:=by rw[hl];simp
        obtain⟨x,u,e⟩:=ar.1 hm;rw[dQ];exact⟨none,ar.2 ⟨x,by simpa[Op.operands,Call.operands]using u,by rw[e];rfl⟩,by simp⟩
       simp only[this];rfl
      cases j:fZ P .append ts (.vec t xs::r) H with
      |none=>rw[j,k]at h;cases h
      |some y=>
       rw[j]at h;cases h
       match r,j with
       |[x],j=>
        simp only[fZ]at j;split at j
        .split at j
         .split at j
          .split at j
           .obtain⟨n,n',v,w⟩:=wO j;exact⟨_,_,n,n',v,w⟩
           .cases j
          .cases j
         .cases j
        .cases j
       |[],j=>simp[fZ]at j
       |_::_::_,j=>simp[fZ]at j
    .split at d<;>cases d
   |_=>simp[fF,g]at d
  |invoke x n=>simp[fF,g]at d
 |box e x=>cases ow<;>simp[fF,g]at d
 |move x=>simp only[fF,g]at d;split at d<;>cases d
 |_=>simp[fF,g]at d
theorem IQ(g:fF pf ow o ρ=6)(h:gq P call ow o ρ H=some (p,H')):H'=H:=by
 cases j:o.op with
 |load t x=>cases ow with|cons=>simp[fF,j]at g|nil=>simp only[fF,j]at g;split at g<;>cases g
 |makeSlice t x y=>cases ow<;>(simp only[fF,j]at g;try split at g)<;>(try cases g)
 |assign x=>cases ow<;>simp[fF,j]at g
 |build t u=>(cases ow<;>simp only[fF,j]at g)<;>(try split at g)<;>cases g
 |buildSlice t n u=>cases ow<;>simp[fF,j]at g
 |slice t x lo hi v=>cases hi<;>cases v<;>cases ow<;>simp[fF,j]at g
 |call c=>
  obtain⟨callee,args,ts⟩:=c;cases callee with
  |value f=>
   cases ow with
   |cons q xs=>
    have k:¬13000<=q.1:=λhc=>by simp only[fF,j,ai hc]at g;cases g
    have l:¬12000<=q.1:=λhc=>by simp only[fF,j,af k,ai hc]at g;cases g
    by_cases s:6000<=q.1
    .simp only[gq,j]at h;rw[af k,af l]at h;by_cases m:q.1=7000
     .rw[ai m]at h;unfold oe at h;split at h
      .split at h
       .cases h
       .split at h
        .split at h
         .simp only[j5]at h;obtain⟨d,_,h⟩:=h;cases h;rfl
         .cases h
        .cases h
      .cases h
     rw[af m,ai s]at h;unfold pN at h;split at h
     .split at h
      .rename_i r;cases h;exact r.elim (λr=>(r6 r).symm) id
      .cases h
     .cases h
    .simp only[fF,j,af k,af l,af s]at g;split at g<;>(try split at g)<;>cases g
   |nil=>
   simp only[fF,j]at g;split at g
   .split at g
    .split at g<;>cases g
    .cases g
   .cases g
  |builtin b=>
   cases b with
   |len=>simp only[fF,j]at g;split at g<;>cases g
   |append=>simp only[fF,j]at g;split at g<;>(try split at g)<;>cases g
   |_=>simp[fF,j]at g
  |invoke x n=>simp[fF,j]at g
 |box e x=>cases ow<;>simp[fF,j]at g
 |move x=>simp only[fF,j]at g;split at g<;>cases g
 |_=>simp[fF,j]at g
end
end Go.Pm
