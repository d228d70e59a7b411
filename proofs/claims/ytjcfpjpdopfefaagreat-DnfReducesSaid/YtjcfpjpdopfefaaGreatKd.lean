/-
 The machine, models, walks, plain laws.
-/
import Derived.Test.YtjcfpjpdopfefaaGreatMc
import Derived.Test.YtjcfpjpdopfefaaGreatLay0
import Derived.Test.YtjcfpjpdopfefaaGreatRows
import Derived.WalkKit
import Derived.WalkSpells
import Derived.Test.YtjcfpjpdopfefaaGreatLay1
import Derived.Test.YtjcfpjpdopfefaaGreatProg
namespace Go.Proofs.Tryz
open Go Go.Pm
open Option renaming some->O,none->Z
open Bool renaming true->J,false->U
open Sum renaming inl->Naf,inr->Nag
open List renaming length->I,map->Naa,replicate->Nab,range->Nad
set_option linter.all false
set_option maxRecDepth 2000
set_option maxHeartbeats 2000000
section
def Sm(n:Nat):Prop:=n<=9223372036854775807
def hZ{n m:Nat}(h:n<=m)(V:m<=9223372036854775807:=by decide):Sm n:=jX h V
def ky{α:Type}{l:List α}{j:Nat}(h:j<I l):idx l (j:Int)=O l[j]:=by simp[idx,h]
def F5{α:Type}{b:Nat}{l es:List α}(h:(I l+I es)*b<=jd):app b l es=O (l++es):=aj h
def kP{n:Int}(c:-9223372036854775808<=n)(d:n<9223372036854775808):W n=n:=by simp only[W,IntKind.wrap,IntKind.bits,IntKind.signed];simp;split <;>omega
def Sl{j:Nat}(h:j<9223372036854775807):W ((j:Int)+1)=((j+1:Nat):Int):=by rw[kP y9 y9];omega
section
variable{α:Type}{p s:List α}{x:α}
theorem QX:((I p:Int)<(I (p++x::s):Int)):=by simp;omega
theorem Q1:¬((I p:Int)<(I (p++([]:List α)):Int)):=by simp
theorem Qv:idx (p++x::s) (I p:Int)=O x:=by simp[idx]
theorem Qs:p++x::s=(p++[x])++s:=by simp
theorem kQ(c:Sm (I (p++x::s))):W ((I p:Int)+1)=(I (p++[x]):Int):=by unfold Sm at c;rw[kP y9 (by simp at c;omega)];simp
end
def Qf{α c:Type}(a:α)(f:α->Option c):(O a>>=f)=f a:=rfl
open Go Go.RowKit Go.Sort
def iH:fJ->fJ->Int
 |[],[]=>0
 |[],_::_=>-1
 |_::_,[]=>1
 |x::a,y::b=>if x<y then -1 else if y<x then 1 else iH a b
def MR{j n:Nat}(h:j<n)(hn:n<=1000000):wrap64 ((j:Int)+1)=((j+1:Nat):Int):=by unfold wrap64;omega
def LW(x y:Int):Int:=if x<y then -1 else if y<x then 1 else 0
set_option maxHeartbeats 1600000 in
set_option maxRecDepth 1000000 in
theorem Ov(x y:Int)(w:fK):Calls prog 133 #[.int .i64 x,.int .i64 y] w λe w'=>e=.returned (.int .i64<|LW x y)/\w'=w:=by
 go_enter func133,ntmps133
 go_wp2
 all_goals (go_ret;exact⟨by rw[LW];first|rw[aj y9];rfl|rw[ae y9,aj y9];rfl|rw[ae y9,ae y9];rfl,rfl⟩)
def PR(a b:fJ):∀i (d:i<I a) (e:i<I b),iH (a.drop i) (b.drop i)=if LW a[i] b[i]=0 then iH (a.drop<|i+1) (b.drop<|i+1)else LW a[i] b[i]:=λi d e=>by
 rw[bd d,bd e,iH];unfold LW;by_cases c:a[i]<b[i]
 .simp[c]
 .by_cases f:b[i]<a[i]
  .simp[c,f]
  .simp[c,f]
def nX(w:fK)(v:fP)(a:fJ):Prop:=(a=[]/\∃ad c,v=.slice ad 0 c)\/∃b off c,v=.slice (O ⟨b,off,Z⟩) (I a) c/\∀j (h:j<I a),w.cell? ⟨b,off+j,Z⟩=O (.int .i64 a[j])
def nX.sl{w:fK}{v:fP}{a:fJ}(h:nX w v a):∃ad c,v=.slice ad (I a) c/\∀j (h:j<I a),∃b off,ad=O ⟨b,off,Z⟩/\w.cell? ⟨b,off+j,Z⟩=O (.int .i64 a[j]):=by
 rcases h with⟨rfl,ad,c,rfl⟩|⟨b,off,c,rfl,h⟩
 .exact⟨ad,c,rfl,λj h=>absurd h<|bY _⟩
 .exact⟨_,c,rfl,λj d=>⟨b,off,rfl,h j d⟩⟩
set_option maxHeartbeats 1600000 in
set_option maxRecDepth 1000000 in
theorem KB(a b:fJ)(u v:fP)(w:fK)(r:nX w u a)(s:nX w v b)(hl:I a<=1000000):Calls prog 98 #[u,v] w λe w'=>e=.returned (.int .i64<|iH a b)/\w'=w:=by
 obtain⟨A,H,rfl,t⟩:=r.sl;obtain⟨B,K,rfl,z⟩:=s.sl;have k:=λx y=>Ov x y w
 have C:Hid (∀j (h:j<I a),∃b off,A=O ⟨b,off,Z⟩/\w.cell? ⟨b,off+j,Z⟩=O (.int .i64 a[j])):=t;have D:Hid (∀j (h:j<I b),∃b' off,B=O ⟨b',off,Z⟩/\w.cell? ⟨b',off+j,Z⟩=O (.int .i64 b[j])):=z;have E:Hid (I a<=1000000):=hl;clear t z r s hl
 go_enter func98,ntmps98
 go_wp2_with fail
 go_loopw [11] (λi F=>∃j:Nat,j<=I a/\j<=I b/\i=.int .i64 j/\F=w/\iH (a.drop j) (b.drop j)=iH a b) (λi _=>I a - (Lib.intOf i).toNat)
 case atStart=>exact⟨0,zQ _,zQ _,rfl,rfl,rfl⟩
 case round=>
  obtain⟨j,L,G,rfl,rfl,l⟩:=hrel;have g:Hid (iH (a.drop j) (b.drop j)=iH a b):=l;clear l;by_cases d:j<I a
  .obtain⟨M,N,rfl,P⟩:=C.out j d;by_cases c:j<I b
   .obtain⟨Q,R,rfl,S⟩:=D.out j c;have m:¬I b<=j:=by omega
    have f:=PR a b j d c;rw[g.out]at f;have f:=@id (Hid _) f;generalize a[j]=x at *;generalize b[j]=y at *
    go_wp2_with (go_at_call 133;refine(k _ _).mono ?_;rintro e w' ⟨rfl,rfl⟩)
    .rename_i n
     go_ret
     exact⟨by rw[f.out,ae (by simpa using n)];rfl,rfl⟩
    .rename_i p;have hw:=MR d E.out;have V:I a - (j+1)<I a - j:=Nat.sub_lt_sub_left d (du j);refine⟨⟨j+1,d,c,by rw[hw],trivial,?_⟩,by rw[hw];exact V⟩;rw[f.out,aj (by simpa using p)]
   .have m:I b<=j:=by omega
    go_wp2_with fail
    go_ret
    refine⟨?_,rfl⟩;rw[<-g.out,bd d,cN m];rfl
  .have q:j=I a:=by omega
   subst q;by_cases c:I a<I b
   .go_wp2_with fail
    go_ret
    refine⟨?_,rfl⟩;rw[<-g.out,cN<|j7 _,bd c];rfl
   .go_wp2_with fail
    go_ret
    refine⟨?_,rfl⟩;rw[<-g.out,cN<|j7 _,cN y9];rfl
open Go Go.RowKit Go.Sort Go.Proofs
def nX.alloc{w:fK}{v:fP}{a:fJ}(h:nX w v a)(o:Obj):nX (w.alloc o) v a:=by
 rcases h with⟨rfl,ad,c,rfl⟩|⟨b,off,c,rfl,h⟩
 .exact .inl ⟨rfl,ad,c,rfl⟩
 .exact .inr ⟨b,off,c,rfl,λj d=>Lib.cell?_alloc_some _<|h j d⟩
set_option maxHeartbeats 1600000 in
set_option maxRecDepth 1000000 in
theorem I8(A B:fJ)(d k l m n p s t u f b1 b2 v x y z C D:fP)(w:fK)(g:nX w d A)(hB:nX w f B)(hl:I A<=1000000):
  Calls prog 51 #[.agg #[d,k,l,m,n,p,s,t,u],.agg #[f,b1,b2,v,x,y,z,C,D]] w λe w'=>e=.returned (.int .i64<|iH A B)/\∃q j,w'=grow (w.drewN q) j:=by
 have c:=λo E=>KB A B d f ((w.alloc o).alloc E) ((g.alloc _).alloc _) ((hB.alloc _).alloc _) hl
 obtain⟨F,G,rfl,_⟩:=g.sl;obtain⟨ba,H,rfl,_⟩:=hB.sl;clear g hB hl;generalize iH A B=r at c |-
 go_enter func51,ntmps51
 go_wp2_with (go_at_call 98;refine(c _ _).mono ?_;rintro e w' ⟨rfl,rfl⟩)
 go_ret
 exact⟨rfl,0,_,by rw[alloc_eq_grow,alloc_eq_grow,grow_grow];rfl⟩
open Go Go.RowKit Go.Sort Go.Proofs Go.Pm
def nO:∀a:fJ,iH a a=0
 |[]=>rfl
 |x::a=>by rw[iH,ae y9,ae y9,nO a]
def nZ:∀{a b c:fJ},iH a b<0->iH b c<0->iH a c<0
 |a,b,[],e,d=>by cases b<;>simp[iH]at d
 |[],b,z::c,e,d=>by simp[iH]
 |x::a,[],z::c,e,d=>by simp[iH]at e
 |x::a,y::b,z::c,e,d=>by
  simp only[iH]at e d |-;split at e
  .split at d
   .rw[aj y9];decide
   .split at d
    .omega
    .rw[aj y9];decide
  .split at e
   .omega
   .split at d
    .rw[aj y9];decide
    .split at d
     .omega
     .rw[ae y9,ae y9];exact nZ e d
def vn:∀{a b c:fJ},¬iH a b<0->¬iH b c<0->¬iH a c<0
 |[],b,[],e,d=>by simp[iH]
 |x::a,b,[],e,d=>by simp[iH]
 |[],[],z::c,e,d=>by simp[iH]at d
 |[],y::b,z::c,e,d=>by simp[iH]at e
 |x::a,[],z::c,e,d=>by simp[iH]at d
 |x::a,y::b,z::c,e,d=>by
  simp only[iH]at e d |-;split at e
  .exact absurd (show(-1:Int)<0 by decide) e
  .split at d
   .exact absurd (show(-1:Int)<0 by decide) d
   .rw[ae y9];split at e
    .rw[aj y9];decide
    .split at d
     .rw[aj y9];decide
     .rw[ae y9];exact vn e d
def uE:fS->Int
 |.raw (.int .i64 n)=>n
 |_=>0
def Tb:fS->Bool
 |.raw (.int .i64 _)=>J
 |_=>U
def rM:fS->fJ
 |.agg (.ew es::_)=>es.map uE
 |_=>[]
def Su:fS->Bool
 |.agg (.ew es::r)=>decide (I es<=1000000) &&es.all Tb &&fS.fits 9 (.agg (.ew es::r))
 |_=>U
def F4(x:fS):List fS->List fS
 |[]=>[x]
 |y::l=>if iH (rM y) (rM x)<0 then y::F4 x l else x::y::l
def qW(l:List fS):List fS:=l.foldr F4 []
def oS:List fS->Bool
 |a::b::l=>decide (iH (rM a) (rM b)<0) &&oS (b::l)
 |_=>J
def Bk(x:fS):∀l,(F4 x l).Perm (x::l)
 |[]=>.refl _
 |y::l=>by
  rw[F4];split
  .exact((Bk x l).cons y).trans<|.swap x y l
  .exact .refl _
def qG:∀l,(qW l).Perm l
 |[]=>.refl _
 |x::l=>(Bk x<|qW l).trans<|(qG l).cons x
def vB:∀{l:List fS},oS l=J->l.Pairwise λa b=>iH (rM a) (rM b)<0
 |[],_=>.nil
 |[a],_=>by simp
 |a::b::l,h=>by
  simp only[oS,jE,zE]at h;have d:=vB h.2;refine aM.2 ⟨λc hc=>?_,d⟩;rcases ar.1 hc with rfl|hc
  .exact h.1
  .exact nZ h.1<|(aM.1 d).1 c hc
def ry{α:Type}(lt:α->α->Prop)(g:∀a,¬lt a a):∀{l m:List α},l.Perm m->l.Pairwise lt->m.Pairwise (λa b=>¬lt b a)->l=m
 |[],m,c,_,_=>c.nil_eq
 |a::l,[],c,_,_=>(List.cons_ne_nil _ _<|List.perm_nil.1 c).elim
 |a::l,b::m,c,hl,V=>by
  have d:=aM.1 hl;have f:=aM.1 V
  have e:a=b:=by
   rcases ar.1 (c.mem_iff.1<|jM ..)with e|j
   .exact e
   .rcases ar.1 (c.mem_iff.2<|jM ..)with e|k
    .exact e.symm
    .exact absurd (d.1 b k)<|f.1 a j
  subst e;rw[ry lt g c.cons_inv d.2 f.2]
open Go Go.RowKit Go.Sort Go.Proofs Go.Pm Go.Shelf
set_option maxHeartbeats 1600000 in
set_option maxRecDepth 1000000 in
theorem Km(ad:Option Addr)(c:Nat)(f:fP)(w:fK):Calls prog 213 #[.slice ad 0 c,.int .i64 0,.int .i64 0,f] w λe w'=>e=.returned (.tuple #[])/\w'=w:=by
 go_enter func213,ntmps213
 go_wp2_with fail
 go_loopw [8] (λi d=>i=.int .i64 1/\d=w) (λ_ _=>0)
 case atStart=>exact⟨rfl,rfl⟩
 case round=>
  obtain⟨rfl,rfl⟩:=hrel
  go_wp2_with fail
  go_end0
  exact⟨rfl,rfl⟩
set_option maxHeartbeats 1600000 in
set_option maxRecDepth 1000000 in
theorem Ft(ad:Option Addr)(c:Nat)(w:fK):Calls prog 153 #[.slice ad 0 c,.func (.func 51) #[] #[]] w λe w'=>e=.returned (.tuple #[])/\w'=w:=by
 have hl:Calls prog 147 #[.int .u64 0] w λe w'=>e=.returned (.int .i64 0)/\w'=w:=
  Any.bits_Len (SlLaysF0.n15.bits (P:=prog) (ρ:=sortP_ren) {Tryz.sortP with}) 0 w y9 y9
 have hi:=λf=>Km ad c f w
 have d:∀f,Calls prog 191 #[.slice ad 0 c,.int .i64 0,.int .i64 0,.int .i64 0,f] w λe w'=>e=.returned (.tuple #[])/\w'=w:=λf=>by
  clear hl
  go_enter func191,ntmps191
  go_wp2_with fail
  go_loopw [1,2,3] (λa b l g=>a=.int .i64 0/\b=.int .i64 0/\g=w) (λ_ _ _ _=>0)
  case atStart=>exact⟨rfl,rfl,rfl⟩
  case round=>
   obtain⟨rfl,rfl,rfl⟩:=hrel
   go_wp2_with (go_at_call 213;refine(hi _).mono ?_;rintro e w' ⟨rfl,rfl⟩)
   refine bodyPost_ret (results_none rfl _ _ _) rfl ?_;exact⟨rfl,rfl⟩
 clear hi
 go_enter func153,ntmps153
 go_wp2_with (first|(go_at_call 147;refine hl.mono ?_;rintro e w' ⟨rfl,rfl⟩)|(go_at_call 191;refine(d _).mono ?_;rintro e w' ⟨rfl,rfl⟩))
 go_end0
 exact⟨rfl,rfl⟩
def IX{P:fL}{X:Nat}{w0:fK}{S0:Nat->Nat->Prop}{H H':List fU}{g g':Gh}{w c d:fK}{p:PV}{v:fP}(h:Pm.Good P X w0 S0 H g w p H' v g' c)(q:d.os=c.os)(r:d.tape=c.tape)(s:d.output=c.output)(e:c.heap.size<=d.heap.size)(f:∀b,b<c.heap.size->d.heap[b]?=c.heap[b]?):Pm.Good P X w0 S0 H g w p H' v g' d:=by
 have j:∀N,Ext N g' c g' d:=λN=>⟨λ_ _ h=>h,λb o e=>World.cell?_of_block (w:=c)<|f b<|h.inv.lt b o e,λ_ _ h=>⟨rfl,h⟩,λ_ _ v n h=>⟨v,n,h,j7 _,λ_=>rfl⟩⟩
 exact⟨h.ext.trans (j<|I H)<|j7 _,h.len,h.rep.ext (j _)<|j7 _,h.heap.ey (j _) (j7 _) (j7 _) (λi b hi=>f b (h.heap.eM hi).2.1) (λ_ _ _ _ h=>h) (λ_ _=>rfl),
  ⟨h.inv.below.trans ⟨q,r,s,e,λk t=>f k<|jP t h.inv.size⟩,jX h.inv.size e,h.inv.kk,λb o l=>jP (h.inv.lt b o l) e⟩,
  h.fr.trans ⟨e,λb m _=>f b m,λi b hi _=>⟨i,hi⟩,λ_ _ h=>.inl h⟩⟩
def H6{w:fK}{g:Nat}{cur:Array Value}{e:fN}(h:w.heap[g]?=O (.cells cur e (0,0)))(j:Nat):w.cell? ⟨g,j,Z⟩=cur[j]?/\w.frozen? ⟨g,j,Z⟩=U:=by
 constructor
 .simp[World.cell?,h]
 .simp[World.frozen?,h]
def kZ(cur:Array Value)(n i j:Nat):Value:=cur[(if i<n then i else 0)*9+j]!
def uM(cur:Array Value)(n i:Nat):List Value:=[kZ cur n i 0,kZ cur n i 1,kZ cur n i 2,kZ cur n i 3,kZ cur n i 4,kZ cur n i 5,kZ cur n i 6,kZ cur n i 7,kZ cur n i 8]
def En(cur:Array Value)(n i:Nat):∀j,j<9->(uM cur n i)[j]! =kZ cur n i j
 |0,_=>rfl|1,_=>rfl|2,_=>rfl|3,_=>rfl|4,_=>rfl|5,_=>rfl|6,_=>rfl|7,_=>rfl|8,_=>rfl
 |j+9,h=>by omega
def Li{cur:Array Value}{n i:Nat}{v:fP}(h:v∈uM cur n i):∃j,j<9/\v=kZ cur n i j:=by
 simp only[uM,jU,bT,or_false]at h;rcases h with h|h|h|h|h|h|h|h|h
 .exact⟨0,by decide,h⟩
 .exact⟨1,by decide,h⟩
 .exact⟨2,by decide,h⟩
 .exact⟨3,by decide,h⟩
 .exact⟨4,by decide,h⟩
 .exact⟨5,by decide,h⟩
 .exact⟨6,by decide,h⟩
 .exact⟨7,by decide,h⟩
 .exact⟨8,by decide,h⟩
def Gf{cur:Array Value}{n i j:Nat}(hi:i<n)(c:j<9)(hn:n*9<=cur.size):cur[i*9+j]?=O (kZ cur n i j):=by
 have:i*9+j<cur.size:=by omega
 rw[kZ,aj hi,getElem!_pos cur _ this,jA this]
def IJ{n i:Nat}(h:i<n):(Array.range n)[i]! =i:=by rw[getElem!_pos _ _ (by simpa using h)];simp
def S6{w:fK}{b n:Nat}{cur:Array Value}(c:w.heap[b]?=O (.cells cur 62 (0,0)))(hn:n*9<=cur.size):HoldsK (uM cur n) 9 w b 0 (Array.range n):=by
 intro t d;simp only[size_flatK,cX]at d;have e:t/9<n:=by omega
 have f:t%9<9:=br _ yD;have g:=get_flatK (uM cur n) 9 (Array.range n) t (by simpa using d);rw[IJ e,En cur n _ _ f]at g;rw[zZ,g];refine⟨?_,(H6 c t).2⟩;rw[(H6 c t).1,show t=t/9*9+t%9 by omega,Gf e f hn];congr 2<;>omega
def Qkz(K:Nat->fJ):SWO (ltOf λx y=>iH (K x)<|K y):=by
 refine⟨λx=>by simp[ltOf,nO],λx y z c d=>?_,λx y z c d=>?_⟩
 .simp only[ltOf,zE]at *;exact nZ c d
 .simp only[ltOf,decide_eq_false_iff_not]at *;exact vn c d
def GC{w:fK}{S:Nat->Nat->Prop}{v x:fP}(h:gL w S v (.raw x)):v=x:=by cases h;rfl
def Tt{d:fS}(h:Tb d=J):d=.raw (.int .i64<|uE d):=by
 unfold Tb at h;split at h
 .rfl
 .cases h
def Lv{w:fK}{S:Nat->Nat->Prop}{v:fP}{es:List fS}(h:gL w S v (.ew es))(f:es.all Tb=J):nX w v (es.map uE):=by
 cases h with
 |nil=>exact .inl ⟨rfl,_,_,rfl⟩
 |empty a cap=>exact .inl ⟨rfl,_,_,rfl⟩
 |ew b off len cap k es c g l m n p=>
  refine .inr ⟨b,off,cap,by rw[g,jZ],λj d=>?_⟩;simp only[jZ]at d;have e:=Tt (an.1 f es[j]<|zD d);have q:k=1:=by rw[<-m es[j] (zD d),e];rfl
  subst q;rw[(n j y9).1];have:=p j 0 es[j] (.raw<|.int .i64<|uE es[j]) (jC d) (by rw[e];rfl);rw[aW,zY]at this;rw[GC this];simp
def map_set{w:fK}{b:Nat}{cur:Array Value}{c:fN}{d:Nat×Nat}(e:w.heap[b]?=O (.cells cur c d))(f:Array Value->Array Value):mapBlock w b f=w.setRow b (f cur):=by
 unfold mapBlock World.setRow;congr 1;apply Array.ext_getElem?;intro i;simp only[fb];by_cases h:b=i
 .subst h;rw[aj rfl,aj rfl,e];rfl
 .rw[ae h,ae h]
def dO:fS:=.raw undef
def rQ{d:fS}(h:Su d=J):∃es r,d=.agg (.ew es::r)/\(I es)<=1000000/\es.all Tb=J/\fS.fits 9 d=J:=by
 unfold Su at h;split at h
 .simp only[jE,zE]at h;exact⟨_,_,rfl,h.1.1,h.1.2,h.2⟩
 .cases h
def AE{n:Nat}{c:Array Nat}(h:PermIn 0 n (Array.range n) c):c.toList.Perm (Nad n):=by
 obtain⟨d,_,e⟩:=h;simp only[cX]at d;have f:c.extract 0 n=c:=by rw[<-d];simp
 have g:(Array.range n).extract 0 n=Array.range n:=by simp
 rw[f,g,Array.toList_range]at e;exact e
def Dl{n:Nat}{d:Array Nat}{ds:List fS}(hn:n=I ds)(k:PermIn 0 n (Array.range n) d)(l:SortedIn (ltOf λx y=>iH (rM<|ds.getD (if x<n then x else 0) dO)<|rM<|ds.getD (if y<n then y else 0) dO) 0 n d)(hst:oS (qW ds)=J):
  d.toList.map (λx=>ds.getD x dO)=qW ds:=by
 have hl:=AE k
 have e:(Nad n).map (λx=>ds.getD x dO)=ds:=by
  subst hn;apply cE
  .simp
  .intro i r m;simp[jB,m]
 have p:d.size=n:=by have:=k.1;simpa using this
 have c:∀x∈d.toList,x<n:=λx q=>by simpa using hl.mem_iff.1 q
 refine(ry (λa b=>iH (rM a) (rM b)<0) (λa=>by simp[nO]) ((qG ds).trans ?_) (vB hst) ?_).symm
 .have:=(hl.map λx=>ds.getD x dO).symm
  rwa [e]at this
 .rw[List.pairwise_map,dh];intro i j hi f g;simp only[bj]at hi f;have:=l i j (zQ _) g y9;rw[getElem!_pos d j f,getElem!_pos d i hi]at this;simp only[ltOf,decide_eq_false_iff_not]at this;rw[aj (c _<|dn f),aj<|c _<|dn hi]at this
  simpa using this
def Lm{w:fK}{S:Nat->Nat->Prop}{b n cap:Nat}{cur:Array Value}{ds:List fS}(F:w.heap[b]?=O (.cells cur 62 (0,0)))(hn:n=I ds)(t:n*9<=cur.size)(h0:0<n)(V:n<=1000000)(G:ds.all Su=J)(hS:∀b' o,S b' o->b'≠b/\b'<w.heap.size)(q8:Pp w S 9 ds cur)(hst:oS (qW ds)=J):
  Calls prog 153 #[.slice (O ⟨b,0,Z⟩) n cap,.func (.func 51) #[] #[]] w λe w'=>e=.returned (.tuple #[])/\∃new m os,new.size=cur.size/\w'=grow (Sort.ahead (w.setRow b new) m) os/\Pp w S 9 (qW ds) new:=by
 have eg:∀args w,(callFunc 51 args).run prog w=.ok (.enter 51 args) w:=enters_of func51 (by kernel_rfl) rfl;have z:b<w.heap.size:=(aA.1 F).1;have W:∀x,(if x<n then x else 0)<I ds:=λx=>by split <;>omega
 have A:∀x,ds[if x<n then x else 0]?=O (ds.getD (if x<n then x else 0) dO):=λx=>by rw[jB,jC<|W x];rfl
 have f:∀x,Su (ds.getD (if x<n then x else 0) dO)=J:=λx=>an.1 G _<|jF<|A x
 have c:∀x j u,(ds.getD (if x<n then x else 0) dO).cells[j]?=O u->j<9->gL w S (kZ cur n x j) u:=λx j u H q=>by
  have l:(if x<n then x else 0)*9+j<cur.size:=by have:=W x;omega
  refine q8 _ j _ u _ (A x) H ?_;rw[kZ,getElem!_pos cur _ l,jA l]
 have h1:∀x,∀v∈uM cur n x,v.oneCell'=J:=λx v K=>by
  obtain⟨j,q,rfl⟩:=Li K;obtain⟨es,r,E,_,_,s⟩:=rQ (f x);simp only[fS.fits,jE,bE]at s;have p:j<(ds.getD (if x<n then x else 0) dO).cells.length:=by rw[<-fS.im,s.1];exact q
  have H:=jC p;have hc:=an.1 s.2 _ (zD p);have L:=c x j _ H q
  exact lZ (g:=⟨λ_=>0,λ_=>False,λ_=>Z,S⟩) (N:=0) (.b7 _ _ L) (by generalize (ds.getD (if x<n then x else 0) dO).cells[j]=u at hc;cases u<;>first|rfl|(simp[fS.ez]at hc))
 have B:CmpLays prog 51 #[] (uM cur n) 9 (λx y=>iH (rM<|ds.getD (if x<n then x else 0) dO)<|rM<|ds.getD (if y<n then y else 0) dO) b 0 n w:=λm os X hdk x y=>by
  have key:∀x,nX (sortWorldK (uM cur n) 9 w b 0 m X os) (kZ cur n x 0) (rM<|ds.getD (if x<n then x else 0) dO)/\(I<|rM<|ds.getD (if x<n then x else 0) dO)<=1000000:=λx=>by
   obtain⟨es,r,E,hl,hi,_⟩:=rQ (f x);have L:=c x 0 (.ew es) (by rw[E];rfl) yD
   have M:gL (sortWorldK (uM cur n) 9 w b 0 m X os) S (kZ cur n x 0) (.ew es):=L.mono (λ_ _ h=>h) λb' o P=>by obtain⟨s1,s2⟩:=hS b' o P;unfold sortWorldK;rw[cell?_grow _ _ _ (by show b'<(putRow _ _ _ _ _).heap.size;rw[size_putRow];exact s2),cell?_putRowK_other _ _ _ _ _ _ _ s1];rfl
   have:=Lv M hi;have hk:rM (ds.getD (if x<n then x else 0) dO)=es.map uE:=by rw[E];rfl
   rw[hk];exact⟨this,by simpa using hl⟩
  exact I8 _ _ _ _ _ _ _ _ _ _ _ _ _ _ _ _ _ _ _ _ _ (key x).1 (key y).1 (key x).2
 have k:=AnyQ.slices_SortFunc Tryz.sortP 9 isAgg62 sizeOf62 (uM cur n) yC h1 _ (Qkz λx=>rM<|ds.getD (if x<n then x else 0) dO) 51 #[] b 0 cap (Array.range n) w eg (by rw[cX];exact B) (S6 F t) z (by rw[cX];omega);rw[cX]at k
 change Calls prog 153 _ _ _ at k
 refine k.mono ?_
 rintro e w' ⟨rfl,d',m,os,hp,P,rfl⟩
 have hL:=Dl hn hp P hst;have hsz:d'.size=n:=by have:=hp.1;simpa using this
 refine⟨rfl,putCells id 0 (flatK (uM cur n) 9 d') cur,m,os,by simp[putCells],?_,?_⟩
 .unfold sortWorldK putRowK;rw[putRow_ahead,putRow,map_set F]
 .intro i j d u v g1 Y Q;rw[<-hL,jD,j5]at g1;obtain⟨x,R,rfl⟩:=g1;have C:x<n:=by simpa using(AE hp).mem_iff.1 (jF R)
  have hi:i<n:=by have:=(af.1 R).1;simp at this;omega
  have T:d'[i]! =x:=by have:=(af.1 R).2;rw[getElem!_pos d' i y9];simpa using this
  have D:=f x;rw[aj C]at D;obtain⟨es,r,E,_,_,s⟩:=rQ D;simp only[fS.fits,jE,bE]at s;have q:j<9:=by rw[<-s.1,fS.im];exact(af.1 Y).1
  have ht:i*9+j<(flatK (uM cur n) 9 d').size:=by rw[size_flatK];omega
  have l:i*9+j<cur.size:=by omega
  have K:v=kZ cur n x j:=by simp only[putCells,Array.getElem?_mapIdx,jA l,jN,j9]at Q;rw[aj ⟨zQ _,by omega⟩,Nat.sub_zero,get_flatK _ _ _ _ (by rw[<-size_flatK (uM cur n) 9 d'];exact ht),show(i*9+j)/9=i by omega,show(i*9+j)%9=j by omega,T,En _ _ _ _ q]at Q;exact Q.symm
  rw[K];have:=c x j u;rw[aj C]at this;exact this Y q
def GI(args:List PV)(H:List fU):Option (PV×List fU):=
 match args,H with
 |[.ms 0 gg 0 len _,.b7<|.raw<|.func (.func 51) c d],[.mt e g' cs]=>match iG cs with
  |some ds=>if(c.size=0/\d.size=0/\g'=gg/\e=62)/\len=I ds/\len<=1000000/\ds.all Su=J/\oS (qW ds)=J then O (.fz [],[.mt e gg ((qW ds).map .b7)])else Z
  |none=>Z
 |_,_=>Z
def No:gq prog 62=O 9:=by kernel_rfl
def HH:∀{a b:List fS},a.map PV.b7=b.map PV.b7->a=b
 |[],[],_=>rfl
 |[],_::_,h=>by simp at h
 |_::_,[],h=>by simp at h
 |x::a,y::b,h=>by simp only[zV,List.cons.injEq,PV.b7.injEq]at h;rw[h.1,HH h.2]
def Mz{w:fK}{os:Array Obj}{b:Nat}(h:b<w.heap.size):(grow w os).heap[b]?=w.heap[b]?:=by
 show(w.heap++os)[b]?=_
 rw[Array.getElem?_append_left h]
def IS(args:List PV)(H:List fU)(p:PV)(H':List fU)(h:GI args H=O (p,H')):xK prog 153 args H p H':=by
 unfold GI at h;split at h
 .rename_i gg len cp R T e g' cs;split at h
  .rename_i ds y;split at h
   .rename_i hc;cases h;obtain⟨⟨W,c0,rfl,rfl⟩,hl,V,k,hst⟩:=hc;have z:=lx _ _ y;subst z;have A:R=#[]:=dz W;have B:T=#[]:=dz c0;subst A;subst B;intro X w0 S0 g w vals hn K C hi hG;obtain⟨l⟩:=vals
    match l,hn with
    |[v0,L],_=>
    have Y:L=.func (.func 51) #[] #[]:=GC (K 1 L _ rfl rfl).hX;subst Y;have h0:=K 0 v0 _ rfl rfl;obtain⟨u0,D,j2⟩:=C.mt 0 _ _ _ rfl
    have q:(qW ds).all (fS.fits 9)=J:=an.2 λd hd=>by obtain⟨_,_,_,_,_,hf⟩:=rQ (an.1 k d<|(qG ds).mem_iff.1 hd);exact hf
    cases h0 with
    |ms _ _ _ _ _ _ u1 n k1 k2 k3 k4 k5=>
     have t:=k2;rw[k2]at D;simp only[j9,jI]at D;obtain⟨rfl,rfl⟩:=D;obtain⟨hv,_⟩:=k4 rfl;by_cases x:ds=[]
     .subst x;have E:len=0:=by simpa using hl
      subst E;obtain⟨ad,c,rfl,_⟩:=k5;refine(Ft ad c w).mono ?_
      rintro e w' ⟨rfl,rfl⟩
      exact⟨_,g,rfl,.same C hi (.fz _ _ rfl λj v c h=>by simp at h)⟩
     .have hne:0<I ds:=fA.2 x;rcases j2 with⟨u,_⟩|⟨b,M,f,cur,_,_,_,_,_,⟨_,s⟩,_⟩|⟨b,M,f,cur,size,ds',rfl,q0,q1,q2,q3,q3',q4,q5,F,q6,q7,N,q9⟩
      .exact absurd (by simpa using u) x
      .exfalso
       obtain⟨d,r,rfl⟩:=List.exists_cons_of_ne_nil x;obtain⟨es,r',rfl,_⟩:=rQ (an.1 k d yB);simp[PV.flat]at s
      .have:=HH q4;subst this;rw[No]at q3;cases q3;have G:v0=.slice (O ⟨b,0,Z⟩) len f:=by rw[hv];simp[iK,Addr.add]
       subst G;refine(Lm (S:=g.S) (n:=len) (cap:=f) q2 hl (by rw[q7];exact au _ y9) y9 V k (λb' o Q=>⟨λe=>by subst e;exact N o Q,hi.lt b' o Q⟩) q9 hst).mono ?_
       rintro e w' ⟨rfl,new,m,os,hnew,rfl,hrow⟩
       have hg:=BJ (P:=prog) (S0:=S0) (w0:=w0) (gg':=n) (l1:=M) (v:=.tuple #[]) (p:=.fz []) (ds':=qW ds) (new:=new) (H:=[.mt 62 n (ds.map .b7)]) (tt:=0) rfl t q0 q1 q2 No yD q6 q7 N q (by rw[(qG ds).length_eq];exact F) hnew hrow (.inl ⟨rfl,rfl⟩) C hi
        (.fz _ _ rfl λj v c h=>by simp at h)
       exact⟨_,_,rfl,IX hg rfl rfl rfl (by simp[grow,Sort.ahead]) λb hb=>by rw[Mz (by exact hb)];rfl⟩
   .cases h
  .cases h
 .cases h
open Go Go.RowKit Go.Proofs Go.Pm Go.Shelf
def DQ:List (Value×PV)->Option fJ
 |[]=>O []
 |(.int .i64 n,.b7<|.raw<|.bool J)::l=>if -9223372036854775808<=n/\n<=9223372036854775807 then(DQ l).map (n::·)else Z
 |_::_=>Z
def Kb(x:Int):fJ->fJ
 |[]=>[x]
 |y::l=>if x<=y then x::y::l else y::Kb x l
def vE(l:fJ):fJ:=l.foldr Kb []
def Rf:fJ->Bool
 |[]=>J
 |x::l=>!(l.contains x) &&Rf l
def Cp(args:List PV)(H:List fU):Option (PV×List fU):=
 match args with
 |[.fn 108 [.ptr b 0]]=>match H[b]? with
  |some (.box [.hC m])=>match mapOf H m with
   |some es=>match DQ es with
    |some c=>if Rf c=J/\(I c)<=1000000 then O (.b7<|.ew ((vE c).map λn=>.raw<|.int .i64 n),H)else Z
    |none=>Z
   |none=>Z
  |_=>Z
 |_=>Z
def uC(x:Int):∀l,(Kb x l).Perm (x::l)
 |[]=>.refl _
 |y::l=>by
  rw[Kb];split
  .exact .refl _
  .exact((uC x l).cons y).trans<|.swap x y l
def tb:∀l,(vE l).Perm l
 |[]=>.refl _
 |x::l=>(uC x<|vE l).trans<|(tb l).cons x
def Iu(x:Int):∀l:fJ,l.Pairwise (·<=·)->(Kb x l).Pairwise (·<=·)
 |[],_=>List.pairwise_singleton _ _
 |y::l,h=>by
  obtain⟨e,f⟩:=aM.1 h;rw[Kb];split
  .rename_i c;refine aM.2 ⟨λz d=>?_,h⟩;rcases ar.1 d with rfl|d
   .exact c
   .exact fD c<|e z d
  .rename_i c;refine aM.2 ⟨λz d=>?_,Iu x l f⟩;rcases ar.1 ((uC x l).mem_iff.1 d)with rfl|d
   .omega
   .exact e z d
def ED:∀l:fJ,(vE l).Pairwise (·<=·)
 |[]=>.nil
 |x::l=>Iu x _<|ED l
def wY:∀{l:fJ},Rf l=J->l.Nodup
 |[],_=>.nil
 |x::l,h=>by simp only[Rf,jE,cB,List.contains_eq_mem,decide_eq_false_iff_not]at h;exact eQ.2 ⟨h.1,wY h.2⟩
def vP:∀{l m:fJ},l.Perm m->l.Pairwise (·<=·)->m.Pairwise (·<=·)->l=m
 |[],m,c,_,_=>c.nil_eq
 |a::l,[],c,_,_=>(List.cons_ne_nil _ _<|List.perm_nil.1 c).elim
 |a::l,b::m,c,hl,V=>by
  have d:=aM.1 hl;have f:=aM.1 V
  have e:a=b:=by
   rcases ar.1 (c.mem_iff.1<|jM ..)with e|g
   .exact e
   .rcases ar.1 (c.mem_iff.2<|jM ..)with e|j
    .exact e.symm
    .have:=d.1 b j;have:=f.1 a g;omega
  subst e;rw[vP (c.cons_inv) d.2 f.2]
def L0(d:fJ):(d.mergeSort λx y=>decide<|x<=y).Pairwise (·<=·):=by have:=List.pairwise_mergeSort (le:=λx y:Int=>decide<|x<=y) (λa b c e f=>by simp at e f |-;omega) (λa b=>by simp;omega) d;exact this.imp λh=>by simpa using h
def Ll{P:fL}{X:Nat}{w0:fK}{S0:Nat->Nat->Prop}{g:Gh}{H:List fU}{w w':fK}{v:fP}{d:fS}(f:Qu P g X (I H) H w)(hi:Pm.Inv X w0 S0 g w)(e:Below w.heap.size w w')(k:gL w' (λb o=>g.S b o\/(w.heap.size<=b/\b<w'.heap.size)) v d):∃g',Pm.Good P X w0 S0 H g w (.b7 d) H v g' w':=by
 have j:Ext (I H) g w {g with S:=λb o=>g.S b o\/(w.heap.size<=b/\b<w'.heap.size)} w':=
  ⟨λ_ _ h=>.inl h,λb o c=>e.cell (p:=⟨b,o,Z⟩)<|hi.lt b o c,λ_ _ h=>⟨rfl,h⟩,λ_ _ v n h=>⟨v,n,h,j7 _,λ_=>rfl⟩⟩
 refine⟨_,j,j7 _,.b7 _ _ k,f.ey j (j7 _) (j7 _) (λi b h=>e.block b (f.eM h).2.1) (λi b h o c=>?_) (λ_ _=>rfl),⟨hi.below.trans<|e.mono hi.size,jX hi.size e.size,λb o c=>?_,λb o c=>?_⟩,Fr.kk e.size (λb h=>e.block b h) (λi b h _=>⟨i,iE (g:=g) h (λ_ _=>rfl) (λ_ _=>rfl)⟩) (λb o h=>h.imp id λh=>.inl h.1)⟩
 .rcases c with c|⟨c,_⟩
  .exact c
  .exact absurd (f.eM h).2.1 y9
 .rcases c with c|⟨c,_⟩
  .exact hi.kk b o c
  .exact .inr<|jX hi.size c
 .rcases c with c|⟨_,c⟩
  .exact jP (hi.lt b o c) e.size
  .exact c
def Aw:∀{es:List (Value×PV)} {c:fJ},DQ es=O c->es.map (·.1)=c.map (λn=>Value.int .i64 n)/\∀n∈c,-9223372036854775808<=n/\n<=9223372036854775807
 |[],c,h=>by simp only[DQ,j9]at h;subst h;exact⟨rfl,λn hn=>by simp at hn⟩
 |e::es,c,h=>by
  unfold DQ at h;split at h
  .rename_i h0;cases h0
  .rename_i n l h0;cases h0;split at h
   .rename_i d;simp only[j5]at h;obtain⟨f,g,rfl⟩:=h;obtain⟨k1,k2⟩:=Aw g;refine⟨by simp[k1],λm V=>?_⟩;rcases ar.1 V with rfl|V
    .exact d
    .exact k2 m V
   .cases h
  .cases h
abbrev RB:fP->Option (DataW Unit×List MemPlace):=λ_=>O (.lit (.bool J),[])
def U5{n:Int}(h:-9223372036854775808<=n/\n<=9223372036854775807):(Lit.int .i64 n).wf=J:=by
 have c:IntKind.i64.min=-9223372036854775808:=by decide
 have d:IntKind.i64.max=9223372036854775807:=by decide
 simp only[Lit.wf,c,d,h.1,h.2,decide_true,fu]
def SR(m:Nat):AnyZI.SortsIn Tryz.prog Tryz.sortedA_ren Fence.wide m:=
 ⟨λfg off cap e W f c d=>callsIn_wide.2<|AnyM.slices_Sort_int Tryz.sortA fg off cap e W f c d,
  λp cap W=>callsIn_wide.2<|AnyM.slices_Sort_int_none Tryz.sortA p cap W⟩
def Dr{g b:Nat}{d:DataW Unit}{q:Nat}{w:fK}(k:w.ownsMap Tryz.prog 3 RB b q d)(p:g<w.heap.size)(f:w.cell? ⟨g,0,Z⟩=O (.map<|O b))(l:Maps.size d<=maxLen)(c:Maps.size d*8<=140737488355328):
  Calls Tryz.prog 57 #[.func (.func 108) #[] #[.pointer (O ⟨g,0,Z⟩)]] w λe w'=>∃(v:fP) (j:fJ),e=.returned v/\j.Perm (intKeys d)/\
   w'.ownsRow w.heap.size 3 1 v (I j) ((j.mergeSort (λx y=>decide<|x<=y)).map encZ)/\(v=.slice Z 0 0↔j=[])/\Below w.heap.size w w':=by
 refine(callsIn_wide (n:=5)).1 ?_
 have m:SeqGives Fence.wide 2 Tryz.prog 108 #[.pointer (O ⟨g,0,Z⟩)] encZ (λj=>j.Perm<|intKeys d) (Maps.size d) w:=
  AnyZI.keys_gives (ρ:=Tryz.keysA_ren) {Tryz.keysA with} Fence.wide _ trivial rfl y9 g b q d _ p f k
 have r:=AnyZI.sorted_in Tryz.sortedA Fence.wide 5 trivial trivial trivial trivial rfl y9 (SR _) (enters_of Tryz.func107 (by kernel_rfl) rfl) 108 #[.pointer (O ⟨g,0,Z⟩)] trivial (enters_of Tryz.func108 (by kernel_rfl) rfl) _ _ l c _ m
 change CallsIn _ _ Tryz.prog 57 _ _ _ at r
 exact r
def Le{l:List (Lit×DataW Unit)}:Maps.size (.map l)=I l:=rfl
def Re{w:fK}{b:Nat}{arr:Array MapEntry}{clock:Nat}{c:fJ}(u:w.heap[b]?=O (.map arr clock))(t:qm arr clock)(j:arr.toList.map (·.key)=c.map (λn=>Value.int .i64 n))(hn:c.Nodup)(v:∀n∈c,-9223372036854775808<=n/\n<=9223372036854775807)(hl:I c<=1000000):
  ∃r:DataW Unit,w.ownsMap Tryz.prog 3 RB b (I c) r/\Maps.size r=I c/\(intKeys r).Perm c:=by
 have d:arr.size=I c:=by have:=bQ List.length j;simpa using this
 have f:∀x∈arr.toList,∃n∈c,x.key=.int .i64 n/\Go.WideElems.rd Tryz.prog 3 RB x=O (.int .i64 n,.lit<|.bool J):=λx s=>by
  have:x.key∈c.map (λn=>Value.int .i64 n):=by rw[<-j];exact aq.2 ⟨x,s,rfl⟩
  obtain⟨n,m,q⟩:=aq.1 this;refine⟨n,m,q.symm,?_⟩;have:=Go.WideElems.rd_mk (P:=Tryz.prog) (k:=3) (R:=RB) (key:=x.key) (val:=x.val) (born:=x.born) (kl:=.int .i64 n) (yv:=(.lit<|.bool J,[])) (by rw[<-q];exact Go.Maps.keyOf_int_mk Tryz.underlying3<|U5<|v n m) rfl;exact this
 have g:arr.toList.map (Go.WideElems.rg Tryz.prog 3 RB)=c.map λn=>((.int .i64 n:Lit),(.lit (.bool J):DataW Unit)):=by
  refine cE (by simp[d]) λi m q=>?_
  simp only[eC];have hi:i<I arr.toList:=by simpa using m
  obtain⟨n,_,k1,k2⟩:=f _ (zD hi);rw[Go.WideElems.rg_of k2];have e:=bQ (λl=>l[i]?) j;simp only[jD]at e;rw[jC hi,jC (by simpa using q)]at e;simp only[jN,j9,k1,Value.int.injEq,true_and]at e;rw[e]
 refine⟨.map<|(arr.toList.map<|Go.WideElems.rg Tryz.prog 3 RB).foldr DataW.insert [],⟨arr,clock,u,⟨by rw[d];exact jX hl yD,⟨t.1,t.2,?_⟩,λx s=>?_⟩,by omega,rfl⟩,?_,?_⟩
 .rw[j];exact List.Pairwise.map _ (λa b h=>λe=>h (by simpa using e)) hn
 .obtain⟨n,_,_,k2⟩:=f x s;exact⟨_,k2⟩
 .rw[Le,length_sorted,g];simp
 .have:=(Go.WideShapes.sorted_perm<|arr.toList.map<|Go.WideElems.rg Tryz.prog 3 RB).map λp=>Go.intOf p.1
  rw[g]at this |-;simp only[intKeys];refine this.trans ?_;rw[zG]
  have e:(λp:Lit×DataW Unit=>Go.intOf p.1)∘ (λn:Int=>((.int .i64 n:Lit),(.lit (.bool J):DataW Unit)))=id:=by funext n;rfl
  rw[e,cD]
def EA(args:List PV)(H:List fU)(p:PV)(H':List fU)(h:Cp args H=O (p,H')):xK prog 57 args H p H':=by
 unfold Cp at h;split at h
 case h_2=>cases h
 rename_i b;split at h
 case h_2=>cases h
 rename_i m T;split at h
 case h_2=>cases h
 rename_i es V;split at h
 case h_2=>cases h
 rename_i k F;split at h
 case isFalse=>cases h
 rename_i hc;cases h;intro X w0 S0 g w vals hn W G hi hG;obtain⟨l⟩:=vals
 match l,hn with
 |[v0],_=>
 have h0:=W 0 v0 _ rfl rfl;cases h0 with
 |fn f vs cs q1 q2=>
  obtain⟨Y⟩:=vs
  match Y,q1 with
  |[u],_=>
  have hu:=q2 0 u _ rfl rfl;cases hu with
  |ptr i o hio=>
   obtain⟨_,⟨cv,ty,c1,c2,c3⟩,_⟩:=G.box b _ T;obtain⟨cl⟩:=cv
   match cl,c2 with
   |[z],_=>
   have N:=c3 0 z _ rfl rfl;cases N with
   |hC i B=>
    obtain⟨_,⟨arr,o1,⟨m1,m2⟩,m3,m4⟩,_⟩:=G.map m es (kS V);obtain⟨clock,rfl,_,hst⟩:=rO m2 m3 (λj x c g1 C=>(m4 j x c g1 C).1) (ln V);obtain⟨k1,k2⟩:=Aw F
    have hk:arr.toList.map (·.key)=k.map (λn=>Value.int .i64 n):=by
     rw[<-k1];refine cE (by simpa using m3) λi h1 h2=>?_
     simp only[eC];have K:i<arr.size:=by simpa using h1
     have B:i<I es:=by simpa using h2
     have:=(m4 i arr[i] es[i] (jA K)<|jC B).1
     simpa using this
    obtain⟨D0,d1,P,d3⟩:=Re m1 hst hk (wY hc.1) k2 hc.2;have L:g.fg b<w.heap.size:=(aA.1 c1).1
    have r:w.cell? ⟨g.fg b,0,Z⟩=O (.map<|O<|g.fg m):=by rw[cell_of_row _ _ _ _ ty (0,0) c1];rfl
    refine(Dr d1 L r (by rw[P];exact jX hc.2 yD) (by rw[P];have:=hc.2;omega)).mono ?_
    rintro e w' ⟨v,A,rfl,hp,hrow,hnil,hbw⟩
    have D:=hp.trans d3;have s:A.mergeSort (λx y=>decide<|x<=y)=vE k:=vP ((List.mergeSort_perm A _).trans<|D.trans (tb k).symm) (L0 A) (ED k);rw[s]at hrow;have q:I A=I (vE k):=by rw[D.length_eq,(tb k).length_eq]
    have hv:gL w' (λb o=>g.S b o\/(w.heap.size<=b/\b<w'.heap.size)) v (.ew ((vE k).map λn=>.raw<|.int .i64 n)):=by
     rcases hrow.2 with⟨rfl,N⟩|⟨gb,cap,cur,rfl,t,E,r1,r2,r3,Q⟩
     .have:vE k=[]:=aw y9
      rw[this];exact .nil
     .rw[aW]at r3 Q;refine .ew gb 0 (I A) cap 1 _ (λj=>cur.getD j undef) (by simp[q]) r1 (λd hd=>?_) (λi hi=>⟨?_,.inr ⟨t,(aA.1 E).1⟩⟩) (λi j d u g1 C=>?_)
      .obtain⟨n,_,rfl⟩:=aq.1 hd;rfl
      .rw[cell_of_row _ _ _ cur 3 (0,0) E]
       have:i<cur.size:=by omega
       simp[jH,this]
      .rw[jD,j5]at g1;obtain⟨n,g1,rfl⟩:=g1
       have hj:j=0/\u=.raw (.int .i64 n):=by
        cases j with
        |zero=>simp[fS.cells]at C;exact⟨rfl,C.symm⟩
        |succ j=>simp[fS.cells]at C
       obtain⟨rfl,rfl⟩:=hj;have M:i<I A:=by rw[q];exact(af.1 g1).1
       have R:=bQ (λl=>l[i]?) Q;simp only[jR,jD,g1,jN,M,ak]at R;have e5:cur[i]?=O (encZ n):=by simpa using R
       rw[aW,zY,jH,e5];exact .raw _ rfl
    obtain⟨g',hg⟩:=Ll G hi hbw hv;exact⟨v,g',rfl,hg⟩
set_option maxHeartbeats 2000000
def Tf:fM->Pm.Hint
 |3=>{own:=[],ey:=[(10,[7,8,9])]}
 |4=>{own:=[],ey:=[(8,[1,5,6,7,8,9])]}
 |9=>{own:=[((0,0),[(9000,3)]),((4,2),[(12500,0)])],ey:=[]}
 |10=>{own:=[((1,14),[(7,33)]),((1,15),[(7,33)])],ey:=[(3,[1,2,3,4])]}
 |12=>{own:=[],ey:=[(4,[0,1,5])]}
 |13=>{own:=[((1,0),[(0,83)])],ey:=[(3,[0,3,4])]}
 |14=>{own:=[((1,0),[(0,80)])],ey:=[(3,[0,1,5,6])]}
 |15=>{own:=[((1,0),[(0,60)])],ey:=[(3,[0,1,5,8,9,10])]}
 |16=>{own:=[((1,0),[(0,45)])],ey:=[(4,[1,5,6,7])]}
 |17=>{own:=[((1,0),[(0,45)])],ey:=[(4,[1,3,4,5])]}
 |18=>{own:=[((1,0),[(0,62)])],ey:=[(3,[0,3,4])]}
 |19=>{own:=[],ey:=[(3,[3,7,8,9])]}
 |20=>{own:=[],ey:=[(2,[0,1,5])]}
 |21=>{own:=[],ey:=[(3,[2,3,6,7,8])]}
 |22=>{own:=[],ey:=[(3,[0,1,5,6])]}
 |23=>{own:=[],ey:=[(4,[1,3])]}
 |25=>{own:=[],ey:=[(4,[1,3])]}
 |26=>{own:=[],ey:=[(7,[6,7,8])]}
 |27=>{own:=[],ey:=[(4,[0,1,5])]}
 |30=>{own:=[],ey:=[(4,[1,2,5])]}
 |32=>{own:=[((0,0),[(9000,3)]),((1,0),[(0,29)]),((5,3),[(12500,0)])],ey:=[(3,[1,2,3,5,9,10,11])]}
 |34=>{own:=[((6,0),[(0,3),(1,3)]),((6,1),[(0,3),(1,3)]),((14,0),[(0,3),(1,3)]),((14,1),[(0,3),(1,3)])],ey:=[(3,[0,1,2,3,9,10]),(8,[0,1,2,3,9,10,11,12,13]),(16,[1,2,3,9,14,15]),(22,[9,16,17])]}
 |35=>{own:=[],ey:=[(3,[0,1,2,7,8])]}
 |36=>{own:=[],ey:=[(3,[0,1,2,3,9,10])]}
 |37=>{own:=[((5,0),[(0,3),(1,3)]),((5,1),[(0,3),(1,3)])],ey:=[(3,[0,1,2,7,8]),(7,[0,1,2,7,8,9,10]),(12,[0,1,2,7,8,9,10,11,12,13])]}
 |38=>{own:=[],ey:=[(3,[0,1,2,3,9,10]),(7,[1,2,3,9,11])]}
 |39=>{own:=[((0,0),[(1000,3)]),((14,0),[(1000,83)]),((25,4),[(1,3)]),((25,5),[(1,3)]),((30,0),[(3,3)]),((32,26),[(1000,3)]),((36,2),[(5000,3)])],ey:=[(18,[0,1,5,7,8,9,10]),(27,[0,1,5,7,8,9,10,11,12,14,15])],flat:=[(24,[(5,[1]),(6,[1])]),(25,[(4,[2,1,0,1])]),(36,[(4,[3]),(5,[4])]),(37,[(0,[5])])]}
 |40=>{own:=[((1,0),[(0,126)])],ey:=[(3,[0,3,4]),(5,[0,3,4,5])]}
 |43=>{own:=[],ey:=[(4,[1,3])]}
 |44=>{own:=[],ey:=[(2,[1,3])]}
 |46=>{own:=[],ey:=[(2,[0,1,5])]}
 |47=>{own:=[],ey:=[(2,[0,1,5]),(7,[0,1,5,6]),(13,[1,7,8]),(17,[1,7,8,9,10])]}
 |48=>{own:=[],ey:=[(4,[1,19,20,21])]}
 |50=>{own:=[((1,17),[(0,3)])],ey:=[]}
 |53=>{own:=[],ey:=[(3,[0,1,5,12,13,14]),(9,[0,1,5,7,12,13,14,29,30,31])]}
 |54=>{own:=[((5,0),[(0,22)]),((12,1),[(0,3)])],ey:=[(3,[0,3,4]),(7,[0,3,4,5,6]),(10,[0,3,4,5,6,7])]}
 |55=>{own:=[],ey:=[(2,[0,1,4,6])]}
 |59=>{own:=[],ey:=[(2,[0,3])]}
 |60=>{own:=[],ey:=[(3,[0,4,5]),(9,[0,4,6]),(17,[0,7,8])]}
 |61=>{own:=[],ey:=[(5,[1,2,5])]}
 |62=>{own:=[],ey:=[(3,[1,3,4])]}
 |63=>{own:=[],ey:=[(4,[1,2,5])]}
 |64=>{own:=[],ey:=[(5,[0,1,5,6])]}
 |66=>{own:=[((1,1),[(7000,3)])],ey:=[]}
 |68=>{own:=[((1,0),[(0,62)]),((13,2),[(8000,3)]),((14,1),[(7000,3)])],ey:=[(3,[1,2,3,9,18,19,20]),(7,[1,2,3,9,11,12,18,19,20,26,27,28]),(15,[9,63,64,65])]}
 |70=>{own:=[((0,0),[(9000,3)]),((1,0),[(0,62)])],ey:=[(3,[1,5,7,10,11,12])]}
 |72=>{own:=[((1,0),[(0,62)])],ey:=[(3,[1,2,3,9,12,13,14])]}
 |74=>{own:=[((1,0),[(0,62)]),((12,8),[(5000,3)])],ey:=[(3,[1,2,7,13,14,15]),(7,[1,2,7,9,10,13,14,15,21,22,23])]}
 |78=>{own:=[((1,1),[(0,62)]),((12,0),[(5000,62)])],ey:=[(3,[0,2,3,9,16,17,18]),(8,[2,9,33,34,35])]}
 |79=>{own:=[((6,0),[(0,83)])],ey:=[(4,[0,3,5])]}
 |83=>{own:=[((6,0),[(0,80)]),((13,0),[(0,3),(1,3)])],ey:=[(8,[2,5,7,8]),(11,[2,5,7,8,9]),(15,[2,5,7,8,9,10,11])]}
 |84=>{own:=[((0,0),[(9000,3)]),((1,0),[(1001,3)]),((1,4),[(1001,3)])],ey:=[]}
 |85=>{own:=[((0,0),[(9000,3)]),((3,0),[(1000,3)]),((5,9),[(5000,3)])],ey:=[]}
 |86=>{own:=[((3,0),[(0,3)])],ey:=[(5,[1,2,3,6,7,8]),(9,[1,2,3,6,7,8,9,10])]}
 |87=>{own:=[],ey:=[(3,[0,3,4])]}
 |88=>{own:=[((1,2),[(8000,3)])],ey:=[]}
 |89=>{own:=[((1,1),[(0,3)])],ey:=[(3,[1,5,6])]}
 |90=>{own:=[],ey:=[(2,[0,1,5])]}
 |91=>{own:=[],ey:=[(2,[0,3])]}
 |92=>{own:=[],ey:=[(2,[1,2,5])]}
 |93=>{own:=[],ey:=[(4,[1,2,5])]}
 |94=>{own:=[],ey:=[(3,[0,1,5,9,10]),(9,[0,1,5,24,25])]}
 |97=>{own:=[((0,0),[(9000,3)]),((0,1),[(9000,3)])],ey:=[]}
 |98=>{own:=[],ey:=[(2,[0,1,9,10,11])]}
 |100=>{own:=[],ey:=[(4,[0,19,20,21])]}
 |104=>{own:=[],ey:=[(5,[0,1,5,6])]}
 |105=>{own:=[((3,0),[(1000,3)]),((18,0),[(0,3)])],ey:=[(8,[2,7,8,9]),(20,[1,2,7,8,10])]}
 |108=>{own:=[],ey:=[(1,[0,5])]}
 |109=>{own:=[],ey:=[(15,[2,6])]}
 |110=>{own:=[((1,1),[(0,62)])],ey:=[]}
 |111=>{own:=[((1,2),[(1000,3)]),((1,4),[(0,3)])],ey:=[]}
 |114=>{own:=[((1,0),[(0,3),(1,3)])],ey:=[(3,[0,1,2,8,9,13,14,15])]}
 |115=>{own:=[((3,2),[(7000,3)]),((3,5),[(7000,3)]),((3,7),[(1001,60)]),((4,0),[(0,60)]),((9,27),[(1001,60)])],ey:=[(7,[2,5,7,8,30,31])]}
 |116=>{own:=[((0,1),[(9000,3)]),((1,3),[(0,3)]),((1,7),[(0,3)]),((2,17),[(6000,3)]),((3,0),[(5000,3)])],ey:=[],late:=[(2,1),(2,4),(2,22),(2,24)]}
 |119=>{own:=[((0,1),[(9000,3)]),((0,2),[(9000,3)]),((0,3),[(9000,3)])],ey:=[]}
 |122=>{own:=[((5,1),[(7000,3)]),((10,0),[(0,62)])],ey:=[(12,[0,1,5,6,7,8,9])]}
 |123=>{own:=[((1,0),[(0,193)])],ey:=[(3,[0,3,4]),(5,[0,3,4,5])]}
 |124=>{own:=[((1,2),[(1000,198)])],ey:=[(3,[3,5,16,17,18])]}
 |125=>{own:=[((2,0),[(1000,62)]),((3,0),[(1000,62)])],ey:=[]}
 |126=>{own:=[((2,0),[(1000,3)]),((3,0),[(1000,3)])],ey:=[(5,[0,3,4]),(11,[0,3,4,5,6])]}
 |128=>{own:=[],ey:=[(2,[1,3])]}
 |129=>{own:=[((3,0),[(0,3),(1,3)])],ey:=[(5,[2,3,4,6,7])]}
 |131=>{own:=[],ey:=[(2,[0,1,7,8])]}
 |132=>{own:=[],ey:=[(4,[0,1,12,13])]}
 |139=>{own:=[((1,0),[(0,3)])],ey:=[(3,[1,2,7,10,11,12])]}
 |142=>{own:=[],ey:=[(3,[0,1,5,6])]}
 |143=>{own:=[],ey:=[(4,[0,1,5])]}
 |144=>{own:=[],ey:=[(3,[0,1,5,6])]}
 |146=>{own:=[],ey:=[(2,[0,1,2,3,8,9])]}
 |149=>{own:=[],ey:=[(5,[1,3,4]),(10,[1,3,5]),(14,[1,3,5,6,7])]}
 |150=>{own:=[],ey:=[(6,[1,3,4,5])]}
 |151=>{own:=[((1,0),[(1000,62)])],ey:=[(3,[1,5,8,9,10])]}
 |154=>{own:=[((2,0),[(1000,3)]),((3,0),[(1000,3)])],ey:=[]}
 |155=>{own:=[],ey:=[(8,[0,3,4,18,19])]}
 |160=>{own:=[((1,2),[(0,3)]),((1,5),[(0,3)])],ey:=[],late:=[(2,1),(2,4),(2,9),(2,11)]}
 |165=>{own:=[((0,1),[(1000,3)])],ey:=[(2,[0,6,11,12,13])]}
 |166=>{own:=[((1,1),[(7000,3)])],ey:=[]}
 |169=>{own:=[((1,0),[(0,62)]),((5,1),[(0,3)]),((5,3),[(0,3)]),((17,1),[(5000,62)])],ey:=[(2,[0,1,2,3,4,11]),(7,[0,1,2,3,4,11,12,13,15,16,44,45])]}
 |172=>{own:=[((1,1),[(7000,3)]),((1,3),[(7000,3)])],ey:=[]}
 |178=>{own:=[],ey:=[(2,[0,1,7,8])]}
 |179=>{own:=[],ey:=[(3,[2,8,13,14,15])]}
 |180=>{own:=[],ey:=[(1,[0,1,2,6]),(4,[0,1,2,6,7])]}
 |181=>{own:=[],ey:=[(4,[0,6,7,8,9]),(8,[0,6,7,10])]}
 |182=>{own:=[],ey:=[(5,[0,1,6,7,8,9])]}
 |184=>{own:=[],ey:=[(2,[0,6,7])]}
 |185=>{own:=[],ey:=[(3,[0,1,2,7,8]),(5,[0,1,2,7,8]),(14,[0,1,2,7,8,9]),(20,[0,1,2,7,8,10])]}
 |187=>{own:=[],ey:=[(3,[0,1,9,10]),(5,[0,1,9,10])]}
 |188=>{own:=[],ey:=[(3,[0,1,10,11]),(5,[0,1,10,11]),(13,[0,1,10,11]),(15,[0,1,10,11])]}
 |191=>{own:=[],ey:=[(2,[0,1,2,3,4,10,11])]}
 |192=>{own:=[((1,4),[(0,3)])],ey:=[]}
 |194=>{own:=[],ey:=[(5,[0,1,5,6])]}
 |196=>{own:=[],ey:=[(3,[3,6,7,8])]}
 |197=>{own:=[((1,0),[(0,3)])],ey:=[(3,[1,5,8,9,10])]}
 |199=>{own:=[],ey:=[(3,[1,5,13,14,15])]}
 |202=>{own:=[((0,1),[(0,3)]),((4,2),[(5000,3)])],ey:=[(2,[0,1,2,4,5])]}
 |203=>{own:=[],ey:=[(2,[0,1,2,7])]}
 |204=>{own:=[],ey:=[(4,[0,12,13,14])]}
 |208=>{own:=[],ey:=[(1,[0,2,3,8])]}
 |213=>{own:=[],ey:=[(1,[0,1,2,3,8]),(4,[0,1,2,3,8,9])]}
 |214=>{own:=[],ey:=[(4,[0,3,8,9,10,11]),(8,[0,3,8,9,12])]}
 |215=>{own:=[],ey:=[(5,[0,1,8,9,10,11])]}
 |217=>{own:=[],ey:=[(2,[0,8,9])]}
 |218=>{own:=[],ey:=[(3,[0,1,2,3,9,10]),(5,[0,1,2,3,9,10]),(14,[0,1,2,3,9,10,11]),(20,[0,1,2,3,9,10,12])]}
 |219=>{own:=[],ey:=[(3,[0,1,4,11,12]),(5,[0,1,4,11,12])]}
 |220=>{own:=[],ey:=[(3,[0,1,4,12,13]),(5,[0,1,4,12,13]),(13,[0,1,4,12,13]),(15,[0,1,4,12,13])]}
 |221=>{own:=[],ey:=[(2,[0,1,7,8])]}
 |222=>{own:=[],ey:=[(3,[0,1,2,8,9,10])]}
 |224=>{own:=[],ey:=[(3,[0,1,5,11,12])]}
 |226=>{own:=[],ey:=[(1,[0,2,3,4,10])]}
 |_=>{}
def env:Env where
 pa:=λf=>if f=153 then O (λ_=>Z)else if f=57 then O (λ_=>Z)else Z
 nf:=λf=>if f=153 then O GI else if f=57 then O Cp else Z
 hint:=Tf
 pure:=λf=>f !=31 &&f !=32 &&f !=57 &&f !=58 &&f !=111 &&f !=116 &&f !=117 &&f !=125 &&f !=126 &&f !=151 &&f !=153 &&f !=154 &&f !=156 &&f !=157 &&f !=158 &&f !=159 &&f !=161 &&f !=162 &&f !=163 &&f !=164 &&f !=165 &&f !=168 &&f !=169 &&f !=191 &&f !=192 &&f !=193 &&f !=194 &&f !=199 &&f !=203 &&f !=213 &&f !=221
 split:=λf=>f==154||f==125
abbrev FQ:=FP prog env
abbrev LQ:=LP prog env
abbrev FFQ:=FF prog env
structure Qb where
 bx:Int
 aa:(fJ)
 bc:Int
 cx:(fJ)
 ch:Int
 cS:Int
 eh:(fJ)
 ea:(List Qb)
mutual
def Qb.b8:Qb->fS
 |⟨kind,shape,buffer,starts,axis,amount,perm,kids⟩=>.agg [(Qg kind),(.ew<|(Naa Qg) shape),(Qg buffer),(.ew<|(Naa Qg) starts),(Qg axis),(Qg amount),(.ew<|(Naa Qg) perm),(.ew<|Qb.hE kids)]
def Qb.hE:List Qb->List fS
 |[]=>[]
 |k::ks=>Qb.b8 k::Qb.hE ks
end
def Qb.fa:∀l:List Qb,Qb.hE l=l.map Qb.b8
 |[]=>rfl
 |k::ks=>by rw[Qb.hE,Qb.fa ks];rfl
def Qb.ex(x:Qb):fS:=.agg [(Qg x.bx),(.ew<|(Naa Qg) x.aa),(Qg x.bc),(.ew<|(Naa Qg) x.cx),(Qg x.ch),(Qg x.cS),(.ew<|(Naa Qg) x.eh),(.ew<|Qb.hE x.ea)]
def Qb.i6(x:Qb):x.b8=x.ex:=by cases x;rfl
def Qb.fit(x:Qb):fS.fits 8 x.b8=J:=by cases x;rfl
structure Qr where
 bx:Int
 aa:(fJ)
 bc:Int
 cx:(fJ)
 ch:Int
 cS:Int
 eh:(fJ)
 ea:(List Qr)
mutual
def Qr.b8:Qr->fS
 |⟨kind,shape,buffer,starts,axis,amount,perm,kids⟩=>.agg [(Qg kind),(.ew<|(Naa Qg) shape),(Qg buffer),(.ew<|(Naa Qg) starts),(Qg axis),(Qg amount),(.ew<|(Naa Qg) perm),(.ew<|Qr.hE kids)]
def Qr.hE:List Qr->List fS
 |[]=>[]
 |k::ks=>Qr.b8 k::Qr.hE ks
end
def Qr.fa:∀l:List Qr,Qr.hE l=l.map Qr.b8
 |[]=>rfl
 |k::ks=>by rw[Qr.hE,Qr.fa ks];rfl
def Qr.ex(x:Qr):fS:=.agg [(Qg x.bx),(.ew<|(Naa Qg) x.aa),(Qg x.bc),(.ew<|(Naa Qg) x.cx),(Qg x.ch),(Qg x.cS),(.ew<|(Naa Qg) x.eh),(.ew<|Qr.hE x.ea)]
def Qr.i6(x:Qr):x.b8=x.ex:=by cases x;rfl
def Qr.fit(x:Qr):fS.fits 8 x.b8=J:=by cases x;rfl
structure Qo where
 lo:(fJ)
 hi:(fJ)
def Qo.b8(x:Qo):fS:=.agg [(.ew<|(Naa Qg) x.lo),(.ew<|(Naa Qg) x.hi)]
def Qo.fit(x:Qo):fS.fits 2 x.b8=J:=rfl
structure Qj where
 bx:Int
 bc:Int
 ek:Int
 bm:(fJ)
 ed:Int
 dk:Int
 ep:Int
def Qj.b8(x:Qj):fS:=.agg [(Qg x.bx),(Qg x.bc),(Qg x.ek),(.ew<|(Naa Qg) x.bm),(Qg x.ed),(Qg x.dk),(Qg x.ep)]
def Qj.fit(x:Qj):fS.fits 7 x.b8=J:=rfl
structure Qa where
 box:Qo
 be:Qj
def Qa.b8(x:Qa):fS:=.agg [(.ew<|(Naa Qg) x.box.lo),(.ew<|(Naa Qg) x.box.hi),(Qg x.be.bx),(Qg x.be.bc),(Qg x.be.ek),(.ew<|(Naa Qg) x.be.bm),(Qg x.be.ed),(Qg x.be.dk),(Qg x.be.ep)]
def Qa.fit(x:Qa):fS.fits 9 x.b8=J:=rfl
structure QC where
 fill:Bool
 bc:Int
 offset:Int
def QC.b8(x:QC):fS:=.agg [(UN x.fill),(Qg x.bc),(Qg x.offset)]
def QC.fit(x:QC):fS.fits 3 x.b8=J:=rfl
structure JM where
 bm:(fJ)
 Hn:(fJ)
def JM.b8(x:JM):fS:=.agg [(.ew<|(Naa Qg) x.bm),(.ew<|(Naa Qg) x.Hn)]
def JM.fit(x:JM):fS.fits 2 x.b8=J:=rfl
structure Jt where
 first:Int
 bm:(fJ)
def Jt.b8(x:Jt):fS:=.agg [(Qg x.first),(.ew<|(Naa Qg) x.bm)]
def Jt.fit(x:Jt):fS.fits 2 x.b8=J:=rfl
structure Qw where
 er:Int
 len:Int
 fill:Bool
 bc:Int
 offset:Int
 dk:Int
def Qw.b8(x:Qw):fS:=.agg [(Qg x.er),(Qg x.len),(UN x.fill),(Qg x.bc),(Qg x.offset),(Qg x.dk)]
def Qw.fit(x:Qw):fS.fits 6 x.b8=J:=rfl
structure We where
 c0:Int
 c1:Int
 c2:Int
def We.b8(x:We):fS:=.agg [(Qg x.c0),(Qg x.c1),(Qg x.c2)]
def We.fit(x:We):fS.fits 3 x.b8=J:=rfl
structure Qk where
 lo:(fJ)
 hi:(fJ)
def Qk.b8(x:Qk):fS:=.agg [(.ew<|(Naa Qg) x.lo),(.ew<|(Naa Qg) x.hi)]
def Qk.fit(x:Qk):fS.fits 2 x.b8=J:=rfl
structure Qt where
 bx:Int
 bc:Int
 ek:Int
 bm:(fJ)
 ed:Int
 dk:Int
 ep:Int
def Qt.b8(x:Qt):fS:=.agg [(Qg x.bx),(Qg x.bc),(Qg x.ek),(.ew<|(Naa Qg) x.bm),(Qg x.ed),(Qg x.dk),(Qg x.ep)]
def Qt.fit(x:Qt):fS.fits 7 x.b8=J:=rfl
structure Qc where
 box:Qk
 be:Qt
def Qc.b8(x:Qc):fS:=.agg [(.ew<|(Naa Qg) x.box.lo),(.ew<|(Naa Qg) x.box.hi),(Qg x.be.bx),(Qg x.be.bc),(Qg x.be.ek),(.ew<|(Naa Qg) x.be.bm),(Qg x.be.ed),(Qg x.be.dk),(Qg x.be.ep)]
def Qc.fit(x:Qc):fS.fits 9 x.b8=J:=rfl
structure Qi where
 fill:Bool
 bc:Int
 offset:Int
def Qi.b8(x:Qi):fS:=.agg [(UN x.fill),(Qg x.bc),(Qg x.offset)]
def Qi.fit(x:Qi):fS.fits 3 x.b8=J:=rfl
structure Qq where
 er:Int
 len:Int
 fill:Bool
 bc:Int
 offset:Int
 dk:Int
def Qq.b8(x:Qq):fS:=.agg [(Qg x.er),(Qg x.len),(UN x.fill),(Qg x.bc),(Qg x.offset),(Qg x.dk)]
def Qq.fit(x:Qq):fS.fits 6 x.b8=J:=rfl
abbrev Qz:=λc d=>((.box [(La c),(La d)]):fU)
abbrev QI:=λc=>((.mt 3 1 (cellsOf Qg c)):fU)
abbrev ZU:=λc d=>((.mt 3 c (cellsOf Qg d)):fU)
abbrev Oj:=λc=>((.vec 2 ((Naa Qg) c)):PV)
abbrev TR:=λc=>((.vec 0 ((Naa Qg) c)):PV)
abbrev QhR:=λc=>((.vec 5 ((Naa Qg) c)):PV)
abbrev QhP:=λc=>((.vec 1 ((Naa Qg) c)):PV)
abbrev JN:=λc d=>((.mt 3 (gb 0 c) (cellsOf Qg d)):fU)
abbrev Vc:=λc=>((.vec 0 ((Naa Qo.b8) c)):PV)
abbrev Tm:=((.mt 3 2 (cellsOf Qg ([]:fJ))):fU)
abbrev Uj:=λc=>((.vec 0 ((Naa Qw.b8) c)):PV)
abbrev TH:=((.mt 3 0 (cellsOf Qg ([]:fJ))):fU)
abbrev U8:=λd e c=>((.box [(La d),(.ms 0 e 0 c c)]):fU)
abbrev XG:=λc=>((.vec 3 ((Naa Qk.b8) c)):PV)
abbrev RT:=λc=>((.vec 0 ((Naa Qq.b8) c)):PV)
abbrev U1:=λc=>((.vec 0 ((Naa Qk.b8) c)):PV)
abbrev Jx:=λc=>((.vec 0 ((Naa Qa.b8) c)):PV)
abbrev UO:=λc=>((.vec 1 ((Naa Qa.b8) c)):PV)
abbrev TO:=λc=>((.vec 3 ((Naa Qa.b8) c)):PV)
abbrev Ng:=λc d=>((.mt 62 c (cellsOf Qa.b8 d)):fU)
abbrev O8:=λc=>((.b7 (.ew ((Naa Qo.b8) c))):PV)
abbrev R1:=λc=>((.b7 (.ew ((Naa QC.b8) c))):PV)
abbrev Jf:=λc=>((.b7 (.ew ((Naa Qw.b8) c))):PV)
abbrev UI:=((.mt 3 (1+1) (cellsOf Qg ([]:fJ))):fU)
abbrev Oc:=λc=>((.b7 (.ew ((Naa Qk.b8) c))):PV)
abbrev KL:=λc=>((.b7 (.ew ((Naa Qq.b8) c))):PV)
abbrev Qiy:=λc d e f=>((.box [(La c),(La d),(La e),(La f)]):fU)
abbrev Jy:=λc=>((.b7 (.ew ((Naa Qi.b8) c))):PV)
abbrev Q7:=λc=>((.b7 (.ew ((Naa Qa.b8) c))):PV)
abbrev QL:=λc=>((.b7 (.ew ((Naa Qc.b8) c))):PV)
abbrev TG:=λc d=>((.box [(.ms 4 1 0 c c),(.ms 5 1 0 d d)]):fU)
abbrev QiA:=λc d=>((.box [(.ms 3 1 0 c c),(.ms 4 1 0 d d)]):fU)
abbrev Ui:=λc d=>((.box [(.ms 5 1 0 c c),(.ms 6 1 0 d d)]):fU)
abbrev Wd:=λc d=>((.mt 62 (c+1) (cellsOf Qa.b8 d)):fU)
abbrev QiB:=λe c d=>((.box [(.ms 1 e 0 c c),(.ms 2 1 0 d d)]):fU)
abbrev OS:=λe c d=>((.box [(.ms 3 e 0 c c),(.ms 4 1 0 d d)]):fU)
abbrev Qiz:=λc d e f=>((.mt 83 c (rT Qc.b8 1 0 d e f)):fU)
abbrev V8:=λc d e=>((.mt 3 (gb c ([d]:fJ).isEmpty) (cellsOf Qg e)):fU)
abbrev Wt:=λc=>((.vec 0 ((Naa (λl=>fS.ew ((Naa Qg) l))) c)):PV)
abbrev Zq:=λc=>((.b7 (.ew ((Naa (λl=>fS.ew ((Naa Qg) l))) c))):PV)
abbrev QiD:=λc d=>((.box [(.vec 5 ((Naa Qg) c)),(.vec 6 ((Naa Qg) d))]):fU)
abbrev QiC:=λc d=>((.box [(.vec 0 ((Naa Qg) c)),(.vec 1 ((Naa Qg) d))]):fU)
abbrev Za:=((.box [(Qd 0),(Qd 0),(Qd 0),Ea,(Qd 0),(Qd 0),(Qd 0)]):fU)
abbrev U9:=((.box [(Qd 0),(Qd 0),(Qp U),(Qd 0),(Qd 0),(Qd 0)]):fU)
abbrev WT:=λc d e f=>((.box [(Qd c),(Qd 1),(Qp d),(Qd e),(Qd f),(Qd 0)]):fU)
abbrev RY:=((.box [Ea,Ea,(Qd 0),(Qd 0),(Qd 0),Ea,(Qd 0),(Qd 0),(Qd 0)]):fU)
abbrev Mb:=λc d e f g j=>((.box [(Qd c),(Qd d),(Qp e),(Qd f),(Qd g),(Qd j)]):fU)
abbrev Oi:=λc d e f g j=>((.box [(Qd c),(Qd d),(Qd e),Ea,(Qd f),(Qd g),(Qd j)]):fU)
abbrev QB:=λc d e f g j k=>((.box [(Qd c),(Qd d),(Qd e),(La f),(Qd g),(Qd j),(Qd k)]):fU)
abbrev Ld:=λc d e f g j k=>((.b7 (.agg [(Qg c),(Qg d),(Qg e),(Lb f),(Qg g),(Qg j),(Qg k)])):PV)
abbrev Of:=λd e f c g j k=>((.box [(Qd d),(Qd e),(Qd f),(.ms 7 1 0 c c),(Qd g),(Qd j),(Qd k)]):fU)
abbrev U2:=λd e f g c j k l=>((.box [(Qd d),(Qd e),(Qd f),(.ms 9 g 0 c c),(Qd j),(Qd k),(Qd l)]):fU)
abbrev Zp:=λc d e f g j k l m=>((.box [(La c),(La d),(Qd e),(Qd f),(Qd g),(La j),(Qd k),(Qd l),(Qd m)]):fU)
abbrev R6:=λc d e f g j k l m=>((.b7 (.agg [(Lb c),(Lb d),(Qg e),(Qg f),(Qg g),(Lb j),(Qg k),(Qg l),(Qg m)])):PV)
abbrev KE:=λc d e f g j k l=>((.box [(Qd c),(La d),(Qd e),(La f),(Qd g),(Qd j),(La k),(.b7 (.ew (Qb.hE l)))]):fU)
abbrev Oa:=λd c e f g j k l m=>((.box [(Qd d),(.ms 7 1 0 c c),(Qd e),(Qd f),(Qd g),(La j),(Qd k),(Qd l),(Qd m)]):fU)
abbrev QgT:=λd e c f g j k l m n=>((.box [(Qd d),(.ms 9 e 0 c c),(Qd f),(Qd g),(Qd j),(La k),(Qd l),(Qd m),(Qd n)]):fU)
abbrev Vl:=λd e f=>((.mt 83 d (Aa Qc.b8 (th (λ(c:Qc) (g:fJ)=>(⟨⟨c.box.lo,g⟩,c.be⟩:Qc)) e f))):fU)
abbrev O9:=λc d=>([Za,(ZU c d)]:List fU)
abbrev QO:=λc d e f g j k l=>([(KE c d e f g j k l)]:List fU)
abbrev TL:=λc d e f g=>([(ZU c d),(Qiz e c f g)]:List fU)
abbrev Uu:=λc d e f g=>([(QiB c d e),(ZU c f),(QI g)]:List fU)
abbrev Sc:=λc d e f=>([(.tok 62 c),(Qz d e),(.box (cellsOf Qg f))]:List fU)
abbrev Vk:=λc d e f g j k=>([(Qz c d),(Qz e f),(Qz g j),(.tok 80 k)]:List fU)
abbrev VN:=λc d e f g=>([(.tok 62 c),(Qz d e),(.box (cellsOf Qg f)),(.tok 62 g)]:List fU)
abbrev Oe:=λc d e f g j k l=>([(Qz c d),(Qz e f),(Qz g j),(Qz k l)]:List fU)
abbrev Rx:=λc d e f=>([(.tok 3 c),(.tok 3 d),(QiC e f),(.tok 3 (I ([]:fJ))),(.tok 3 (I ([]:fJ)))]:List fU)
abbrev Vn:=λe f g j k l m n p q c d=>([(.tok 62 e),(.tok 62 f),(Mb g j k l m n),(QI p),(QI q),(QiA c d)]:List fU)
abbrev J2:=λd e f g j k l m n p c=>([(Qz d e),(Qz f g),(Qz j k),(.tok 80 l),(QiD m n),(.tok 3 p),(.tok 3 c)]:List fU)
abbrev J3:=λf g j k l m n p q r c d e=>([(Qz f g),(Qz j k),(Qz l m),(.tok 60 n),(Qz p q),(Qiy r c d e)]:List fU)
abbrev QhQ:=λc d e f g j k l m=>([(QB c d e f g j k),(.box [(Qd l)]),(.box [(Qd m)]),Za,(QB c d e f g j k),(QB c d e f g j k)]:List fU)
abbrev QgR:=λc d e f g j k n p q l m=>([(QB c d e f g j k),(.box [(La n)]),(.box [(Qd p)]),Za,(QB c d e f g j k),Za,(QB c d e f g j k),(QI q),(Oa l m c d e f g j k)]:List fU)
abbrev KF:=λc d e f g j k n p q l m=>([(QB c d e f g j k),(.box [(Qd n)]),(.box [(Qd p)]),Za,(QB c d e f g j k),Za,(QB c d e f g j k),(QI q),(Oa l m c d e f g j k)]:List fU)
abbrev QgS:=λd e f g j k l q r s m c n p=>([(QB d e f g j k l),(.box [(La q)]),(.box [(Qd r)]),Za,(QB d e f g j k l),Za,(QB d e f g j k l),(QI s),(QgT m c n d e f g j k l),(ZU c p)]:List fU)
def tE(x:Qa):List Qa->List Qa
 |[]=>[x]
 |y::l=>if iH y.box.lo x.box.lo<0 then y::tE x l else x::y::l
def iY(l:List Qa):List Qa:=l.foldr tE []
def jw:List Qa->Bool
 |a::b::l=>decide (iH a.box.lo b.box.lo<0) &&jw (b::l)
 |_=>J
def Eu(l:List Qa):Option (List Qa):=if I l<=1000000/\(l.all λp=>decide<|I p.box.lo<=1000000)=J/\jw (iY l)=J then O (iY l)else Z
def xi(p:Qa):rM p.b8=p.box.lo:=by
 show(p.box.lo.map Qg).map uE=p.box.lo
 rw[zG];exact List.map_id' _
def C8(x:Qa):∀l:List Qa,F4 x.b8 (l.map Qa.b8)=(tE x l).map Qa.b8
 |[]=>rfl
 |y::l=>by
  rw[zV,F4,tE,xi,xi];split
  .rw[zV,C8 x l]
  .rfl
def uX:∀l:List Qa,qW (l.map Qa.b8)=(iY l).map Qa.b8
 |[]=>rfl
 |x::l=>by
  show F4 x.b8 (qW<|l.map Qa.b8)=_
  rw[uX l,C8];rfl
def vH:∀l:List Qa,oS (l.map Qa.b8)=jw l
 |[]=>rfl
 |[_]=>rfl
 |a::b::l=>by have:=vH (b::l);simp only[zV]at this;simp only[zV,oS,jw,xi,this]
def Po(l:fJ):(l.map Qg).all Tb=J:=by rw[j8];intro d c;obtain⟨n,_,rfl⟩:=aq.1 c;rfl
def PB(p:Qa)(h:I p.box.lo<=1000000):Su p.b8=J:=by
 show(decide (I (p.box.lo.map Qg)<=1000000) &&(p.box.lo.map Qg).all Tb &&fS.fits 9 p.b8)=J
 rw[Po,Qa.fit,jZ];simp[h]
def nU(x:Qa):∀l,(tE x l).Perm (x::l)
 |[]=>.refl _
 |y::l=>by
  rw[tE];split
  .exact((nU x l).cons y).trans<|.swap x y l
  .exact .refl _
def mT:∀l,(iY l).Perm l
 |[]=>.refl _
 |x::l=>(nU x<|iY l).trans<|(mT l).cons x
def Kj{l r:List Qa}(h:Eu l=O r):(I l<=1000000/\(l.all λp=>decide<|I p.box.lo<=1000000)=J/\jw (iY l)=J)/\r=iY l:=by
 unfold Eu at h;split at h
 .exact⟨by assumption,(jS h).symm⟩
 .cases h
def OM{P:fL}{E:Env}{f:fM}{F:List fS->Option PV}{G:List PV->List fU->Option (PV×List fU)}{args:List PV}{H H':List fU}{p:PV}(c:ox P f=J)(d:E.pa f=O F)(e:E.nf f=O G)(h:G args H=O (p,H')):PC P E f args H p H':=
 ⟨1,λk g=>by obtain⟨n,rfl⟩:∃n,k=n+1:=⟨k - 1,by omega⟩;simp[kI,c,d,e,h]⟩
def QiX{l r:List Qa}{g cap:Nat}(h:Eu l=O r):
  PC prog env 153 [.ms 0 g 0 (I l) cap,.b7<|.raw<|.func (.func 51) #[] #[]] [.mt 62 g (cellsOf Qa.b8 l)] (.fz []) [.mt 62 g (cellsOf Qa.b8 r)]:=by
 obtain⟨⟨e,f,j⟩,rfl⟩:=Kj h;refine OM (by kernel_rfl) rfl rfl ?_;have k:iG (cellsOf Qa.b8 l)=O (l.map Qa.b8):=me _ _
 have c:(l.map Qa.b8).all Su=J:=by rw[j8];intro d m;obtain⟨p,n,rfl⟩:=aq.1 m;exact PB p<|of_decide_eq_true<|an.1 f p n
 simp only[GI,k];rw[aj ⟨by simp,by simp,e,c,by rw[uX,vH];exact j⟩,uX];simp only[cellsOf,zG];rfl
def Qio{P:fL}{E:Env}{c:List (Nat×Nat)}{o:Oper}{D:fO->PV}{H:List fU}{K:PV->List fU->Prop}{α:Type}(f:α->fS){l:List α}{x:fO}{tt e g m cap:Nat}(hl:I l=m)(j:∀a,(f a).ez=J)(k:o.op=.move x)(n:D x=.ms tt g 0 m cap)(d:H[tt]?=O (.mt e g<|cellsOf f l))(p:kq c=J)(q:K (.b7<|.ew<|l.map f) (H.set tt<|.mt e (g+1)<|cellsOf f ([]:List α))):jt P E c o D H K:=iJ (λcall=>by simp only[gU,k,p,ak,n,iw,jx f l hl j d,Zt d,jN];rfl) q
def Ty{P:fL}{E:Env}{g:List (Nat×Nat)}{o:Oper}{D:fO->PV}{H:List fU}{f:PV->List fU->Prop}{t kt e:fN}{m k:fO}{i j:Nat}{es:List (Value×PV)}{n K:Int}{ik:IntKind}{v:PV}(hc:n=K)(l:P.underlying t=O (.map kt e))(c:P.underlying kt=O (.int ik))(p:o.op=.lookup t m k U)(V:D m=.hC i)(q:mapOf H i=O es)(hn:D k=.b7 (.raw<|.int ik n))(r:AW (.int ik) (.int ik K) es 0=O (O (j,v)))(s:f v H):jt P E g o D H f:=by
 subst hc;have u:(D k).e6=O (.int ik n):=by rw[hn];rfl
 have d:oh P D k t es=O (.int ik n,e,O (j,v)):=by simp only[oh,l,u,c,yR,ak,r,jN]
 exact Qim p V q d s
def kc{n K:Int}{α:Type}{e f:Option α}{c:α}{d:Prop}(V:(if n=K then e else f)=O c)(g:n=K->e=O c->d)(j:f=O c->d):d:=by
 by_cases h:n=K
 .rw[aj h]at V;exact g h V
 .rw[ae h]at V;exact j V
def Qig{P:fL}{E:Env}{d:List (Nat×Nat)}{o:Oper}{D:fO->PV}{H:List fU}{K:PV->List fU->Prop}{t e:fN}{x y:fO}{tt g len cap h:Nat}(f:h<=len)(j:fV P t=O e)(k:(gq P e).isSome=J)(l:o.op=.slice t x Z (O y) Z)(m:D x=.ms tt g 0 len cap)(n:D y=Qd (h:Int))(p:K (.ms tt g 0 h<|max len cap) H):jt P E d o D H K:=by
 have c:jc D len (O y)=O h:=by simp[jc,rv,n,Qd]
 have hc:tj D Z (O y) tt g 0 len cap=O (.ms tt g 0 h<|max len cap):=by simp only[tj,jc]at c |-;rw[c];simp[jX f (Nat.le_max_left _ _)]
 exact iJ (λcall=>by simp only[gU,l,m,j,k,Option.isNone_none,and_self,or_true,ak,hc,jN]) p
def Qh0{P:fL}{E:Env}{d:List (Nat×Nat)}{o:Oper}{D:fO->PV}{H:List fU}{K:PV->List fU->Prop}{t e:fN}{x c:fO}{tt g len cap size:Nat}{n:Int}(hn:0<=n/\n.toNat<len)(f:fV P t=O e)(j:gq P e=O size)(k:o.op=.indexAddr t x c)(hi:D c=Qd n)(l:D x=.ms tt g 0 len cap)(m:K (.mp tt g<|0+mO size n.toNat) H):jt P E d o D H K:=
 iJ (λcall=>by simp[gU,k,hi,Qd,f,j,hn.1,l,hn.2]) m
def Bf{size j:Nat}(h:1<size):(0+mO size j)%size=0/\(0+mO size j)/size=j:=by rw[zZ,mO,ae y9];exact⟨Nat.mul_mod_left _ _,Nat.mul_div_cancel _ y9⟩
def QiR{P:fL}{E:Env}{d:List (Nat×Nat)}{o:Oper}{D:fO->PV}{H:List fU}{K:PV->List fU->Prop}{α:Type}(f:α->fS){l:List α}{n:Int}{y:α}{t e:fN}{x:fO}{tt g size:Nat}(k:idx l n=O y)(m:∀a,(f a).fits size=J)(c:decide (1<size)=J)(p:qh P t=O J)(hn:gq P t=O size)(q:o.op=.load t x)(hw:d=[])(r:D x=.mp tt g (0+mO size n.toNat))(s:H[tt]?=O (.mt e g<|cellsOf f l))(u:K (.b7<|f y) H):jt P E d o D H K:=by
 have c:=of_decide_eq_true c;obtain⟨q1,q2⟩:=Bf (j:=n.toNat) c;have hc:(cellsOf f l)[n.toNat]?=O (.b7<|f y):=by have:=gM f k;rwa [zZ]at this
 exact iJ (λcall=>by simp only[gU,kR,hw,q,r,p,hn,Zt s];rw[ae (λh=>by omega),aj ⟨trivial,c,trivial,q1,by rw[q2,hc];simp[PV.numOf,ia<|m y]⟩,q2,hc];rfl) u
def Qir{P:fL}{E:Env}{d:List (Nat×Nat)}{o:Oper}{D:fO->PV}{H:List fU}{K:PV->List fU->Prop}{α:Type}(f:α->fS){l l2:List α}{n:Int}{y z:α}{t e:fN}{x w:fO}{tt g size:Nat}(p:iM l n y=O l2)(q:idx l n=O z)(k:∀a,(f a).fits size=J)(c:decide (1<size)=J)(hn:gq P t=O size)(r:o.op=.store t x w)(hw:d=[])(s:D x=.mp tt g (0+mO size n.toNat))(u:H[tt]?=O (.mt e g<|cellsOf f l))(v:D w=.b7 (f y))(m:K (.fz []) (H.set tt<|.mt e g<|cellsOf f l2)):jt P E d o D H K:=by
 have c:=of_decide_eq_true c;obtain⟨q1,q2⟩:=Bf (j:=n.toNat) c;obtain⟨q3,rfl⟩:=yF p;have hc:(cellsOf f l)[n.toNat]?=O (.b7<|f z):=by have:=gM f q;rwa [zZ]at this
 rw[<-rB]at m;exact iJ (λcall=>by simp only[gU,r,hw,s,v,nw,hn,Zt u];rw[ae (λh=>by omega),aj ⟨trivial,c,k y,q1,by rw[q2,hc];simp[PV.numOf,ia<|k z]⟩,q2]) m
def Sf{H:List fU}:gy H []=O ([],H):=rfl
def sY{H H2:List fU}{d:fS}{cs:List PV}{ds:List fS}(h:gy H cs=O (ds,H2)):gy H (.b7 d::cs)=O (d::ds,H2):=by simp only[gy,iw,h]
def Rk{H H2:List fU}{α:Type}(f:α->fS)(l:List α){t g m cap e:Nat}{cs:List PV}{ds:List fS}(hl:I l=m)(d:∀a,(f a).ez=J)(c:H[t]?=O (.mt e g<|cellsOf f l))(h:gy (H.set t<|.mt e (g+1)<|cellsOf f ([]:List α)) cs=O (ds,H2)):gy H (.ms t g 0 m cap::cs)=O (.ew (l.map f)::ds,H2):=by have j:gy (H.set t<|.mt e (g+1) []) cs=O (ds,H2):=h;simp only[gy,iw,jx f l hl d c,Zt c,j]
def QiS{P:fL}{E:Env}{c:List (Nat×Nat)}{o:Oper}{D:fO->PV}{H:List fU}{K:PV->List fU->Prop}{α:Type}(f:α->fS){l:List α}{x:fO}{tt e g m cap:Nat}(hl:I l=m)(j:∀a,(f a).ez=U)(k:o.op=.move x)(n:D x=.ms tt g 0 m cap)(d:H[tt]?=O (.mt e g<|cellsOf f l))(p:kq c=J)(q:K (.b7<|.ew<|l.map f) (H.set tt<|.mt e (g+1)<|cellsOf f ([]:List α))):jt P E c o D H K:=iJ (λcall=>by simp only[gU,k,p,ak,n,iw,Ms f l hl j d,Zt d,jN];rfl) q
def Qid{P:fL}{E:Env}{d:List (Nat×Nat)}{o:Oper}{D:fO->PV}{H H2:List fU}{K:PV->List fU->Prop}{t:fN}{c:Array (Nat×Operand)}{cs:List PV}{ds:List fS}(e:o.op=.build t c)(f:kq d=J)(g:lM P [] D t c H=O (.agg cs,H))(hc:gy H cs=O (ds,H2))(j:K (.b7<|.agg ds) H2):jt P E d o D H K:=
 iJ (λcall=>by simp only[gU,e,f,ak,g,hc]) j
def Qh6(N:Nat){P:fL}{E:Env}{j:List (Nat×Nat)}{o:Oper}{D:fO->PV}{H:List fU}{K:PV->List fU->Prop}{α:Type}(f:α->fS){es l2:List α}{ts e:fN}{x s:fO}{bytes i off:Nat}(k:app bytes ([]:List α) es=O l2)(l:∀a,(f a).ez=J)(m:fV P ts=O e)(n:gq P e=O 1)(p:bytesOf P e=O bytes)(q:(gB P e).map fS.num=O 1)(h0:decide (0<bytes)=J)(r:o.op=.call {callee:=.builtin .append,args:=#[s,x],argTypes:=#[ts,ts]})(g:D s=.arr i off 0 0)(t:D x=.b7 (.ew<|es.map f))(u:K (.ms N (mg l2) 0 (I l2)<|I l2) (H++[.mt e (mg l2) (cellsOf f l2)]))(v:I H=N:=by kernel_rfl):jt P E j o D H K:=by
 subst v;obtain⟨c,d⟩:=qb k;have d:es=l2:=by simpa using d.symm
 subst d;refine iJ (λcall=>?_) u;have hc:(es.map f).all fS.ez=J:=by simp only[aV,j8];intro a _;exact l a
 have:gF P .append #[ts,ts] [D s,D x] H=O (.ms (I H) (mg es) 0 (I es)<|I es,H++[.mt e (mg es) (cellsOf f es)]):=by rw[g,t];simp only[gF,m,p,n,q,of_decide_eq_true h0,and_self,ak,ve,hc,jZ];rw[aj ⟨trivial,by simpa using c⟩];cases es<;>simp[mg,cellsOf]
 simp only[gU,r,zV,aH,this]
def Bj{α c:Type}(f:α->c->Option c):List α->c->Option c
 |[],b=>O b
 |a::l,b=>f a b>>=Bj f l
def C4{α c:Type}{Y:Nat->Nat->List fS->Bg->Option (Bool×Bg)}(g:α->fS)(Hp:c->List fU){f:α->c->Option c}(d:∀a b b',f a b=O b'->YE Y [g a] ⟨Hp b,Z⟩ J ⟨Hp b',Z⟩):∀(l:List α) (b b1:c),Bj f l b=O b1->Rp Y ⟨Hp b1,Z⟩ (l.map g) ⟨Hp b,Z⟩
 |[],b,b1,h=>by cases h;exact .done
 |a::l,b,b1,h=>by obtain⟨b',e,j⟩:=Yf h;exact .go (d a b b' e)<|C4 g Hp d l b' b1 j
def QiW{P:fL}{E:Env}{hint:Pm.Hint}{f:fO}{k:Array Tmp}{assign body:Code}{st:St}{K:Ex->St->Prop}{gf:fM}{caps:List PV}{fn:Func}{c:Code}{α j:Type}(g:α->fS)(Hp:j->List fU){step:α->j->Option j}{l:List α}{m b1:j}(t:Bj step l m=O b1)(u:ev st.b6 f= .fn gf caps)(v:P.funcs[gf]?=O fn)(n:(fn.name== "runtime.NumGoroutine")=U)(w:fn.body=O c)(hst:(caps.all PV.still &&fn.results.isEmpty)=J)(h0:st.heap=Hp m)(p:∀(Y:Nat->Nat->List fS->Bg->Option (Bool×Bg)) (fin s:Bg),Rp Y fin (l.map g) s->IR P E Y (E.hint gf) c ⟨⟨.undef::caps++Nab (fn.ntmps - (I caps+1)) (.fz []),[]⟩,[0],s⟩ λe is=>(match e with|.exit _=>False|_=>True)/\is.out=fin)(x:∀a b b',step a b=O b'->R P E hint U assign ⟨(tM st.b6 k.toList [g a]).getD [],Hp b⟩ λe s=>e=.normal/\R P E hint U body s λq r=>q=.normal/\(jz (I st.heap) (O []) r).heap=Hp b')(y:K .normal ⟨st.b6,Hp b1⟩)(d:∀a,(tM st.b6 k.toList [g a]).isSome=J:=by intro a;kernel_rfl):R P E hint J (.rangeFunc f k assign body) st K:=by
 refine QiN u v n w hst ?_;rw[h0];refine(p _ _ _ (C4 g Hp (λa b b' h=>?_) l m b1 t)).mono λe is h=>⟨h.1,by rw[h.2];exact y⟩
 obtain⟨sl,e⟩:=aC.1 (d a);have:=x a b b' h;rw[e,h0]at this;refine Mf e ?_;obtain⟨C,D,z,rfl,q,r,A,rfl,B⟩:=this;exact⟨_,_,z,rfl,_,_,A,⟨rfl,by rw[B]⟩⟩
def MT{h0:Nat}{st:St}{sl:List PV}{H:List fU}(h:jz h0 (O []) st=⟨sl,H⟩):(jz h0 (O []) st).heap=H:=by rw[h]
def QiJ(N:Nat){P:fL}{E:Env}{p:List (Nat×Nat)}{o:Oper}{D:fO->PV}{H:List fU}{K:PV->List fU->Prop}{α:Type}(f:α->fS){z:α}{l:List α}{n:Int}{t e:fN}{os:List (Nat×TypeId)}{g j:fO}{bytes size:Nat}(d:kj bytes n z=O l)(q:fV P t=O e)(r:gB P e=O (f z))(s:gq P e=O size)(u:bytesOf P e=O bytes)(v:decide (1<size)=J)(w:(f z).fits size=J)(h0:decide (0<bytes)=J)(x:o.op=.makeSlice t g j)(hl:D g=Qd n)(hc:D j=Qd n)(hw:p=(1000,e)::os)(y:K (.ms N (mg l) 0 (I l)<|I l) (H++[.mt e (mg l) (cellsOf f l)]))(A:I H=N:=by kernel_rfl):jt P E p o D H K:=by
 subst A;unfold kj at d;split at d
 .rename_i k;cases d;have m:D g=.b7 (.raw<|.int .i64 n):=hl;have c:D j=.b7 (.raw<|.int .i64 n):=hc;refine iJ (λcall=>?_) y;simp only[gU,x,hw,show¬8000<=1000 by omega,ai,ak,q,r,s,u,m,c,and_self,qw];rw[aj ⟨k.1,k.2.1,k.2.2,of_decide_eq_true h0,.inr ⟨of_decide_eq_true v,w⟩⟩];by_cases hn:n=0
  .subst hn;simp[mg,cellsOf]
  .have:n.toNat≠0:=by omega
   have B:mg (Nab n.toNat z)=1:=by simp[mg,this]
   have C:cellsOf f (Nab n.toNat z)=Nab n.toNat (.b7<|f z):=by simp[cellsOf]
   rw[ae hn,B,C,zK]
 .cases d
def VR(x:Unit):Option Bool:=O J
def Qhc:Unit->Bool->Prop:=λx r=>∀H,PC prog env 7 ([].map .b7) H (Qp r) H
def QfR:∀x r,VR x=O r->Qhc x r:=by intro x r V;cases V;intro H;exact Mn (n:=200) (by kernel_rfl)
mutual
def YW (x:(Qb×Int×Int)):Option Int:=match x with|(p0,c,d)=>(if d<(I p0.ea:Int)then O (decide<|c>=0)else O U)>>=λ(e:Bool)=>if e=J then idx p0.ea d>>=λf=>Tx (f,c)>>=λg=>YW (p0,g,(W<|d+1))else O c
 partial_fixpoint
def Tx (x:(Qb×Int)):Option Int:=match x with|(p0,p1)=>((if(I p0.aa:Int)>40 then O J else O (decide<|(I p0.cx:Int)>40))>>=λ(v2:Bool)=>if v2=J then O J else O (decide<|(I p0.eh:Int)>40))>>=λ(k:Bool)=>if k=J then O (-1)else YW (p0,(W<|p1 - 1),0)>>=λj=>O j
 partial_fixpoint
end
def Wp:(Qb×Int×Int)->Int->Prop:=λx r=>match x with|(p0,c,e)=>LQ f61 61 [1,1,1,0,1,0,0] 1 ⟨kp 43 [(1,(Qd c)),(2,(.ptr 0 0)),(5,(Qd e))],(QO p0.bx p0.aa p0.bc p0.cx p0.ch p0.cS p0.eh p0.ea)⟩<|P1 (.exit 0) (λf d=>⟨sl d 43 [(1,(Qd f))],(QO p0.bx p0.aa p0.bc p0.cx p0.ch p0.cS p0.eh p0.ea)⟩) r
def VH:(Qb×Int)->Int->Prop:=λx r=>match x,r with|(p0,p1),c=>∀H,PC prog env 61 ([(Qb.ex p0),(Qg p1)].map .b7) H (Qd c) H
def qP:(∀x r,YW x=O r->Wp x r)/\(∀x r,Tx x=O r->VH x r):=by
 refine YW.mutual_partial_correctness Wp VH ?_ ?_
 .intro YW Tx VB Qfd x r V;unfold Wp;obtain⟨p0,f,e⟩:=x;exact lp<|Qh<|Qh (bi V λg k V=>Zm (λd=>⟨sl d 43 [(1,(Qd f)),(2,(.ptr 0 0)),(5,(Qd e)),(32,(Qp g))],(QO p0.bx p0.aa p0.bc p0.cx p0.ch p0.cS p0.eh p0.ea)⟩) (have V:=k;gp (Qe 3<|Ff Qb.b8 p0.ea (es:=Qb.hE p0.ea) (Qb.fa _)<|Qe 2<|gs 29 V (λV=>re 3 zf) (λV=>re 3 zf))) (λd=>lf V (λV=>Qm<|Qh<|Ql<|gp<|Qe 3 (bi V λc l V=>X9 8 Qb.b8 p0.ea e c (es:=Qb.hE p0.ea) (d:=(Qb.ex c)) (Qb.fa _) l (Qb.i6 c) rfl<|Qe 2 (bi V λm l V=>XF (Qfd _ _ l [])<|re 1<|gp<|re 3<|VB _ _ V _ kr))) (λV=>QD zf)))
 .intro YW VB x q V;unfold VH;obtain⟨p0,p1⟩:=x;intro H;refine sF (ds:=[(Qb.ex p0),(Qg p1)]) (fn:=f61) rfl ?_;exact ge 2<|ge 3<|Qh<|Qh (bi V λp k V=>Zm (λd=>⟨sl d 43 [(1,(Qd<|W<|p1 - 1)),(2,(.ptr 0 0)),(23,(Qp p))],(QO p0.bx p0.aa p0.bc p0.cx p0.ch p0.cS p0.eh p0.ea)⟩) (have V:=k;CK (Qe 2<|QM Qg p0.aa<|Qe 2 (bi V λv2 k V=>ZF (j:=10) (λd=>⟨sl d 43 [(1,(Qd<|W<|p1 - 1)),(2,(.ptr 0 0)),(17,(Qp v2))],(QO p0.bx p0.aa p0.bc p0.cx p0.ch p0.cS p0.eh p0.ea)⟩) (λd=>Qe 1<|lJ 18 V (λV=>re 5 ⟨kr,zf⟩) (λV=>Qe 2<|QM Qg p0.eh<|re 2 ⟨kr,zf⟩)) (λhJ=>gs 12 k (λV=>Qe 5 zf) (λV=>Qe 2<|QM Qg p0.cx<|Qe 2 zf))))) (λd=>lf V (λV=>ge 1<|Qn zf) (λV=>Qm<|Qh<|ge 1<|Ql (kY V (VB _) λn d V=>ge 2<|Qn zf))))
def VB:∀x r,YW x=O r->Wp x r:=qP.1
def Qfd:∀x r,Tx x=O r->VH x r:=qP.2
def Up:(Qb×Int)->Option Bool|(p0,p1)=>Tx (p0,p1)>>=λc=>O<|decide<|c>=0
def QhW{p0 p1 r0}(V:Up (p0,p1)=O r0):FQ 28 [(Qb.ex p0),(Qg p1)] (Qp r0):=by unfold Up at V;exact fp (fn:=f28) rfl<|ge 2<|gr 2 (bi V λd c V=>XF (Qfd _ _ c [])<|re 2<|Qn zf)
mutual
def Yq (x:(Qb×Int×Int)):Option Int:=match x with|(p0,c,d)=>if d<(I p0.ea:Int)then idx p0.ea d>>=λf=>Sa f>>=λe=>Yq (p0,(if c<e then e else c),(W<|d+1))else O c
 partial_fixpoint
def Sa (x:Qb):Option Int:=match x with|p0=>Yq (p0,0,0)>>=λg=>O<|W<|g+1
 partial_fixpoint
end
def Vm:(Qb×Int×Int)->Int->Prop:=λx r=>match x with|(p0,c,e)=>LQ f62 62 [1,1,0,1,0,0] 1 ⟨kp 22 [(1,(.ptr 0 0)),(3,(Qd c)),(4,(Qd e))],(QO p0.bx p0.aa p0.bc p0.cx p0.ch p0.cS p0.eh p0.ea)⟩<|P1 (.exit 0) (λf d=>⟨sl d 22 [(3,(Qd f))],(QO p0.bx p0.aa p0.bc p0.cx p0.ch p0.cS p0.eh p0.ea)⟩) r
def VQ:Qb->Int->Prop:=λx r=>match x,r with|p0,c=>∀H,PC prog env 62 ([(Qb.ex p0)].map .b7) H (Qd c) H
def pP:(∀x r,Yq x=O r->Vm x r)/\(∀x r,Sa x=O r->VQ x r):=by
 refine Yq.mutual_partial_correctness Vm VQ ?_ ?_
 .intro Yq Sa Wu QeQ x r V;unfold Vm;obtain⟨p0,e,f⟩:=x;exact lp<|Qh<|gr 3<|Ff Qb.b8 p0.ea (es:=Qb.hE p0.ea) (Qb.fa _)<|re 1<|ri V (λV=>Qm<|Qh<|Ql<|gp<|Qe 4 (bi V λc j V=>X9 8 Qb.b8 p0.ea f c (es:=Qb.hE p0.ea) (d:=(Qb.ex c)) (Qb.fa _) j (Qb.i6 c) rfl<|Qe 1 (bi V λg j V=>XF (QeQ _ _ j [])<|QA rfl (λ_=>Ki (k:=.i64) (m:=e) (n:=g) rfl kr kr)<|re 1<|gp<|re 3<|Wu _ _ V _ kr))) (λV=>QD zf)
 .intro Yq Wu p0 p V;unfold VQ;intro H;refine sF (ds:=[(Qb.ex p0)]) (fn:=f62) rfl ?_;exact ge 2<|ge 1<|Qh<|ge 1<|Ql (kY V (Wu _) λl d V=>ge 3<|Qn zf)
def Wu:∀x r,Yq x=O r->Vm x r:=pP.1
def QeQ:∀x r,Sa x=O r->VQ x r:=pP.2
def ZL:(fJ×Bool×Int)->Option (Unit⊕ Bool)|(p0,d,c)=>if c<(I p0:Int)then idx p0 c>>=λe=>if e<0 then O (Naf ())else if d=J then ZL (p0,J,(W<|c+1))else idx p0 c>>=λf=>ZL (p0,(f==0),(W<|c+1))else O (Nag d)
 partial_fixpoint
def VX:∀x r,ZL x=O r->match x with|(p0,c,e)=>LQ f60 60 [1,1,0,1,0,0] 0 ⟨kp 55 [(0,(La p0)),(4,(Qp c)),(5,(Qd e))],[]⟩ (P2 .ret (λ_ d=>⟨sl d 55 [(2,(Qd 0)),(3,(Qd 6))],[]⟩) (.exit 0) (λf d=>⟨sl d 55 [(0,(La p0)),(4,(Qp f))],[]⟩) r):=by refine ZL.partial_correctness _ (λZL VX x r V=>?_);obtain⟨p0,c,e⟩:=x;exact lp<|Qh<|gr 2<|QM Qg p0<|re 1<|ri V (λV=>Qm<|Qh<|Ql<|Qh<|gr 2 (QE 1 Qg V λg V=>re 2<|ri V (λV=>ge 2<|Qn zf) (λV=>Qm<|gp<|Qe 2<|lJ 21 V (λV=>re 7<|gp<|re 3<|VX _ _ V _ kr) (λV=>Qe 2 (QE 1 Qg V λj V=>re 4<|gp<|re 3<|VX _ _ V _ kr))))) (λV=>QD zf)
def Z3:(fJ×Bool×Int)->Option (Unit⊕ Unit)|(p0,e,c)=>if c<(I p0:Int)then idx p0 c>>=λd=>if d>65536 then O (Naf ())else Z3 (p0,e,(W<|c+1))else O (Nag ())
 partial_fixpoint
def QcD:∀x r,Z3 x=O r->match x with|(p0,c,e)=>LQ f60 60 [1,1,1,0,1,0,0] 0 ⟨kp 55 [(0,(La p0)),(4,(Qp c)),(6,(Qd e))],[]⟩ (P2 .ret (λ_ d=>⟨sl d 55 [(2,(Qd 0)),(3,(Qd 7))],[]⟩) (.exit 2) (λ_ d=>⟨sl d 55 [(0,(La p0)),(4,(Qp c))],[]⟩) r):=by refine Z3.partial_correctness _ (λZ3 QcD x r V=>?_);obtain⟨p0,c,e⟩:=x;exact lp<|Qh<|gr 2<|QM Qg p0<|re 1<|ri V (λV=>Qm<|Qh<|Ql<|gr 2 (QE 1 Qg V λf V=>re 2<|ri V (λV=>ge 2<|Qn zf) (λV=>Qm<|gp<|re 3<|QcD _ _ V _ kr))) (λV=>QD zf)
def Z4:(fJ×Int×Int)->Option (Unit⊕ Int)|(p0,c,d)=>if d<(I p0:Int)then idx p0 d>>=λe=>if(W<|c*e)>65536 then O (Naf ())else Z4 (p0,(W<|c*e),(W<|d+1))else O (Nag c)
 partial_fixpoint
def QcE:∀x r,Z4 x=O r->match x with|(p0,c,e)=>LQ f60 60 [1,1,1,1,1,1,0,1,0,0] 0 ⟨kp 55 [(0,(La p0)),(7,(Qd c)),(8,(Qd e))],[]⟩ (P2 .ret (λ_ d=>⟨sl d 55 [(2,(Qd 0)),(3,(Qd 7))],[]⟩) (.exit 4) (λf d=>⟨sl d 55 [(7,(Qd f))],[]⟩) r):=by refine Z4.partial_correctness _ (λZ4 QcE x r V=>?_);obtain⟨p0,c,e⟩:=x;exact lp<|Qh<|gr 2<|QM Qg p0<|re 1<|ri V (λV=>Qm<|Qh<|Ql<|gr 3 (QE 1 Qg V λg V=>re 3<|ge 2<|ri V (λV=>ge 2<|Qn zf) (λV=>Qm<|gp<|re 3<|QcE _ _ V _ kr))) (λV=>QD zf)
def JZ:fJ->Option (Int×Int)|p0=>(ZL (p0,U,0)>>=λ|.inl _=>O (0,6)|.inr c=>(Z3 (p0,c,0)>>=λ|.inl _=>O (0,7)|.inr _=>if c=J then O (0,0)else(Z4 (p0,1,0)>>=λ|.inl _=>O (0,7)|.inr d=>O (d,0))))
def Qfk{p0 r0 r1}(V:JZ p0=O (r0,r1)):FQ 60 [(Lb p0)] (.fz [(Qd r0),(Qd r1)]):=by unfold JZ at V;exact fp (fn:=f60) rfl<|ge 2<|ge 1<|Qh<|ge 1<|Ql (pG V (VX _) (λ_ d V=>zf) λe d V=>Qh<|ge 1<|Ql (pG V (QcD _) (λ_ d V=>zf) λ_ d V=>Qh<|ge 1<|lf V (λV=>ge 2<|Qn zf) (λV=>Qm<|ge 1<|Qh<|ge 1<|Ql (pG V (QcE _) (λ_ d V=>zf) λc d V=>ge 3<|Qn zf))))
def Y1:(fJ×Int)->Option (Unit⊕ Unit)|(p0,c)=>if c<(I p0:Int)then idx p0 c>>=λd=>if d<0 then O (Naf ())else Y1 (p0,(W<|c+1))else O (Nag ())
 partial_fixpoint
def Qdn:∀x r,Y1 x=O r->match x with|(p0,c)=>LQ f59 59 [1,0,1,0,0] 0 ⟨kp 29 [(0,(La p0)),(3,(Qd c))],[]⟩ (P2 .ret (λ_ d=>⟨sl d 29 [(2,(Qd 6))],[]⟩) (.exit 0) (λ_ d=>⟨sl d 29 [(0,(La p0))],[]⟩) r):=by refine Y1.partial_correctness _ (λY1 Qdn x r V=>?_);obtain⟨p0,c⟩:=x;exact lp<|Qh<|gr 2<|QM Qg p0<|re 1<|ri V (λV=>Qm<|Qh<|Ql<|gr 2 (QE 1 Qg V λe V=>re 2<|ri V (λV=>ge 1<|Qn zf) (λV=>Qm<|gp<|re 3<|Qdn _ _ V _ kr))) (λV=>QD zf)
def Ja:fJ->Option Int|p0=>(Y1 (p0,0)>>=λ|.inl _=>O 6|.inr _=>JZ p0>>=λ(e,c)=>(if(I p0:Int)>16 then O J else O (c !=0))>>=λ(d:Bool)=>if d=J then O 7 else O 0)
def UA{p0 r0}(V:Ja p0=O r0):FQ 59 [(Lb p0)] (Qd r0):=by unfold Ja at V;exact fp (fn:=f59) rfl<|ge 1<|Qh<|ge 1<|Ql (pG V (Qdn _) (λ_ d V=>zf) λ_ d V=>gr 1 (sB V λe f g V=>cp (Qfk g)<|re 5<|Qh<|Qh (bi V λc j V=>Zm (λd=>⟨sl d 29 [(28,(Qp c))],[]⟩) (have V:=j;gp (Qe 1<|QM Qg p0<|Qe 2<|gs 25 V (λV=>re 3 zf) (λV=>re 3 zf))) (λd=>lf V (λV=>ge 1<|Qn zf) (λV=>Qm<|ge 1<|Qn zf)))))
def Y2:(fJ×fJ×Int)->Option (Unit⊕ Unit)|(p0,p1,c)=>if c<(I p0:Int)then idx p0 c>>=λd=>idx p1 c>>=λe=>if d≠e then O (Naf ())else Y2 (p0,p1,(W<|c+1))else O (Nag ())
 partial_fixpoint
def Qdo:∀x r,Y2 x=O r->match x with|(p0,p1,c)=>LQ f27 27 [1,1,0,1,0,0] 0 ⟨kp 26 [(0,(La p0)),(1,(La p1)),(5,(Qd c))],[]⟩ (P2 .ret (λ_ d=>⟨sl d 26 [(4,(Qp U))],[]⟩) (.exit 0) (λ_ d=>⟨sl d 26 [],[]⟩) r):=by refine Y2.partial_correctness _ (λY2 Qdo x r V=>?_);obtain⟨p0,p1,c⟩:=x;exact lp<|Qh<|gr 2<|QM Qg p0<|re 1<|ri V (λV=>Qm<|Qh<|Ql<|Qh<|Zd<|Qe 2 (QE 1 Qg V λe V=>Qe 3 (QE 1 Qg V λf V=>re 2 ⟨kr,zz V (λV=>ge 1<|Qn zf) (λV=>Qm<|gp<|re 3<|Qdo _ _ V _ kr)⟩))) (λV=>QD zf)
def YV:(fJ×fJ)->Option Bool|(p0,p1)=>if(I p0:Int)≠(I p1:Int)then O U else(Y2 (p0,p1,0)>>=λ|.inl _=>O U|.inr _=>O J)
def TZ{p0 p1 r0}(V:YV (p0,p1)=O r0):FQ 27 [(Lb p0),(Lb p1)] (Qp r0):=by unfold YV at V;exact fp (fn:=f27) rfl<|ge 1<|Qh<|gr 1<|QM Qg p0<|Qe 1<|QM Qg p1<|re 1<|zz V (λV=>ge 1<|Qn zf) (λV=>Qm<|Qh<|ge 1<|Ql (pG V (Qdo _) (λ_ d V=>zf) λ_ d V=>ge 1<|Qn zf))
def T3:Qb->Option Bool|p0=>idx p0.ea 0>>=λc=>YV (c.aa,p0.aa)>>=λv2=>(if v2=J then O (decide<|p0.ch>=0)else O U)>>=λ(d:Bool)=>if d=J then O (decide<|p0.ch<(I p0.aa:Int))else O U
def QfT{p0 r0}(V:T3 p0=O r0):FQ 148 [(Qb.ex p0)] (Qp r0):=by unfold T3 at V;exact fp (fn:=f148) rfl<|ge 2<|Qh<|Pj<|Qe 2 (bi V λc e V=>X9 8 Qb.b8 p0.ea 0 c (es:=Qb.hE p0.ea) (d:=(Qb.ex c)) (Qb.fa _) e (Qb.i6 c) rfl<|Qe 4 (bi V λv2 e V=>cp (TZ e)<|Qe 1 (bi V λf g V=>ZF (j:=13) (λd=>⟨sl d 24 [(1,(.ptr 0 0)),(2,(Qp U)),(15,(Qp f))],(QO p0.bx p0.aa p0.bc p0.cx p0.ch p0.cS p0.eh p0.ea)⟩) (λd=>Qe 1<|lJ 16 V (λV=>Qe 4<|QM Qg p0.aa<|re 3 ⟨kr,Qn zf⟩) (λV=>re 8 ⟨kr,Qn zf⟩)) (λhJ=>lJ 11 g (λV=>Qe 4 zf) (λV=>Qe 4 zf)))))
def Zn:(Qb×Qb×Int)->Option (Unit⊕ Unit)|(g,p0,c)=>if c<(I g.aa:Int)then(idx p0.eh c>>=λd=>if d<0 then O J else idx p0.eh c>>=λe=>O<|decide<|e>=(I p0.aa:Int))>>=λ(f:Bool)=>if f=J then O (Naf ())else Zn (g,p0,(W<|c+1))else O (Nag ())
 partial_fixpoint
def Qbj:∀x r,Zn x=O r->match x with|(e,p0,c)=>LQ f149 149 [1,1,1,0,1,0,0] 1 ⟨kp 85 [(1,(.ptr 0 0)),(3,(La e.aa)),(4,(Qd c))],(QO p0.bx p0.aa p0.bc p0.cx p0.ch p0.cS p0.eh p0.ea)⟩ (P2 .ret (λ_ d=>⟨sl d 85 [(2,(Qp U))],(QO p0.bx p0.aa p0.bc p0.cx p0.ch p0.cS p0.eh p0.ea)⟩) (.exit 0) (λ_ d=>⟨sl d 85 [(1,(.ptr 0 0)),(3,(La e.aa))],(QO p0.bx p0.aa p0.bc p0.cx p0.ch p0.cS p0.eh p0.ea)⟩) r):=by refine Zn.partial_correctness _ (λZn Qbj x r V=>?_);obtain⟨e,p0,c⟩:=x;exact lp<|Qh<|gr 2<|QM Qg e.aa<|re 1<|ri V (λV=>Qm<|Qh<|Ql<|Qh (bi V λf k V=>Zm (λd=>⟨sl d 85 [(1,(.ptr 0 0)),(3,(La e.aa)),(4,(Qd c)),(41,(Qp f))],(QO p0.bx p0.aa p0.bc p0.cx p0.ch p0.cS p0.eh p0.ea)⟩) (have V:=k;Zd (Qe 3 (QE 1 Qg V λg V=>Qe 3<|gs 31 V (λV=>re 10 ⟨kr,zf⟩) (λV=>Qe 3 (QE 1 Qg V λj V=>Qe 3<|QM Qg p0.aa<|re 2 ⟨kr,zf⟩))))) (λd=>lf V (λV=>ge 1<|Qn zf) (λV=>Qm<|gp<|re 3<|Qbj _ _ V _ kr)))) (λV=>QD zf)
def QT:(Qb×Qb×Int×Int×Int)->Option Int|(l,p0,e,d,c)=>if c<(I l.aa:Int)then(idx p0.eh c>>=λf=>if f=e then if d<0 then O J else idx l.aa c>>=λg=>O (decide<|g<d)else O U)>>=λ(j:Bool)=>if j=J then idx l.aa c>>=λk=>QT (l,p0,e,k,(W<|c+1))else QT (l,p0,e,d,(W<|c+1))else O d
 partial_fixpoint
def JV:∀x r,QT x=O r->match x with|(k,p0,f,c,e)=>LQ f149 149 [1,1,1,1,0,1,0,0,1,0,0,1,0,1,0,0] 1 ⟨kp 85 [(1,(.ptr 0 0)),(3,(La k.aa)),(5,(Qd f)),(6,(Qd c)),(7,(Qd e))],(QO p0.bx p0.aa p0.bc p0.cx p0.ch p0.cS p0.eh p0.ea)⟩ (P1 (.exit 4) (λg d=>⟨sl d 85 [(1,(.ptr 0 0)),(3,(La k.aa)),(5,(Qd f)),(6,(Qd g))],(QO p0.bx p0.aa p0.bc p0.cx p0.ch p0.cS p0.eh p0.ea)⟩) r):=by refine QT.partial_correctness _ (λQT JV x r V=>?_);obtain⟨k,p0,f,c,e⟩:=x;exact lp<|Qh<|gr 2<|QM Qg k.aa<|re 1<|ri V (λV=>Qm<|Qh<|Ql<|Qh (bi V λj p V=>Zm (λd=>⟨sl d 85 [(1,(.ptr 0 0)),(3,(La k.aa)),(5,(Qd f)),(6,(Qd c)),(7,(Qd e)),(73,(Qp j))],(QO p0.bx p0.aa p0.bc p0.cx p0.ch p0.cS p0.eh p0.ea)⟩) (have V:=p;gp (Qe 3 (QE 1 Qg V λl V=>Qe 4<|Ba 62 V (λV=>Qe 3<|gs 65 V (λV=>re 8 zf) (λV=>Qe 2 (QE 1 Qg V λm V=>re 5 zf))) (λV=>re 11 zf)))) (λd=>lf V (λV=>gp<|Qe 2 (QE 1 Qg V λn V=>re 2<|gp<|re 3<|JV _ _ V _ kr)) (λV=>Qm<|gp<|re 3<|JV _ _ V _ kr)))) (λV=>QD zf)
def Q8:(Qb×Qb×Int)->Option (Unit⊕ Unit)|(p0,f,c)=>if c<(I p0.aa:Int)then QT (f,p0,c,(-1),0)>>=λd=>idx p0.aa c>>=λe=>if d≠e then O (Naf ())else Q8 (p0,f,(W<|c+1))else O (Nag ())
 partial_fixpoint
def Qbk:∀x r,Q8 x=O r->match x with|(p0,g,c)=>LQ f149 149 [1,1,1,1,0,1,0,0] 1 ⟨kp 85 [(1,(.ptr 0 0)),(3,(La g.aa)),(5,(Qd c))],(QO p0.bx p0.aa p0.bc p0.cx p0.ch p0.cS p0.eh p0.ea)⟩ (P2 .ret (λ_ d=>⟨sl d 85 [(2,(Qp U))],(QO p0.bx p0.aa p0.bc p0.cx p0.ch p0.cS p0.eh p0.ea)⟩) (.exit 2) (λ_ d=>⟨sl d 85 [],(QO p0.bx p0.aa p0.bc p0.cx p0.ch p0.cS p0.eh p0.ea)⟩) r):=by refine Q8.partial_correctness _ (λQ8 Qbk x r V=>?_);obtain⟨p0,g,c⟩:=x;exact lp<|Qh<|gr 3<|QM Qg p0.aa<|re 1<|ri V (λV=>Qm<|Qh<|Ql<|ge 1<|Qh<|ge 1<|Ql (kY V (JV _) λe d V=>gr 4 (QE 1 Qg V λf V=>re 2<|zz V (λV=>ge 1<|Qn zf) (λV=>Qm<|gp<|re 3<|Qbk _ _ V _ kr)))) (λV=>QD zf)
def Xu:Qb->Option Bool|p0=>idx p0.ea 0>>=λc=>if(I p0.eh:Int)≠(I c.aa:Int)then O U else(Zn (c,p0,0)>>=λ|.inl _=>O U|.inr _=>(Q8 (p0,c,0)>>=λ|.inl _=>O U|.inr _=>O J))
def Qgb{p0 r0}(V:Xu p0=O r0):FQ 149 [(Qb.ex p0)] (Qp r0):=by unfold Xu at V;exact fp (fn:=f149) rfl<|ge 2<|gr 2 (bi V λc e V=>X9 8 Qb.b8 p0.ea 0 c (es:=Qb.hE p0.ea) (d:=(Qb.ex c)) (Qb.fa _) e (Qb.i6 c) rfl<|re 3<|Qh<|gr 2<|QM Qg p0.eh<|Qe 1<|QM Qg c.aa<|re 1<|zz V (λV=>ge 1<|Qn zf) (λV=>Qm<|Qh<|ge 1<|Ql (pG V (Qbj _) (λ_ d V=>zf) λ_ d V=>Qh<|ge 1<|Ql (pG V (Qbk _) (λ_ d V=>zf) λ_ d V=>ge 1<|Qn zf))))
def YK:(Qb×Qb×Qb×Int)->Option (Unit⊕ Unit)|(d,p0,v2,c)=>if c<(I d.aa:Int)then((if c=p0.ch then idx p0.aa c>>=λe=>idx d.aa c>>=λf=>idx v2.aa c>>=λg=>O (e !=(W<|f+g))else O U)>>=λ(j:Bool)=>if j=J then O J else if c≠p0.ch then idx d.aa c>>=λk=>idx v2.aa c>>=λl=>(if k≠l then O J else idx d.aa c>>=λm=>idx p0.aa c>>=λn=>O<|m !=n)>>=λ(p:Bool)=>O p else O U)>>=λ(q:Bool)=>if q=J then O (Naf ())else YK (d,p0,v2,(W<|c+1))else O (Nag ())
 partial_fixpoint
def WL:∀x r,YK x=O r->match x with|(e,p0,v2,c)=>LQ f150 150 [1,1,1,1,0,1,0,0] 1 ⟨kp 97 [(1,(.ptr 0 0)),(3,(La e.aa)),(4,(La v2.aa)),(5,(Qd c))],(QO p0.bx p0.aa p0.bc p0.cx p0.ch p0.cS p0.eh p0.ea)⟩ (P2 .ret (λ_ d=>⟨sl d 97 [(2,(Qp U))],(QO p0.bx p0.aa p0.bc p0.cx p0.ch p0.cS p0.eh p0.ea)⟩) (.exit 0) (λ_ d=>⟨sl d 97 [],(QO p0.bx p0.aa p0.bc p0.cx p0.ch p0.cS p0.eh p0.ea)⟩) r):=by
 refine YK.partial_correctness _ (λYK WL x r V=>?_);obtain⟨e,p0,v2,c⟩:=x
 exact lp<|Qh<|gr 2<|QM Qg e.aa<|re 1<|ri V (λV=>Qm<|Qh<|Ql<|Qh (bi V λf g V=>Zm (λd=>⟨sl d 97 [(1,(.ptr 0 0)),(3,(La e.aa)),(4,(La v2.aa)),(5,(Qd c)),(96,(Qp f))],(QO p0.bx p0.aa p0.bc p0.cx p0.ch p0.cS p0.eh p0.ea)⟩) (have V:=g;Pj (Qe 5 (bi V λk g V=>ZF (j:=21) (λd=>⟨sl d 97 [(1,(.ptr 0 0)),(3,(La e.aa)),(4,(La v2.aa)),(5,(Qd c)),(67,(Qp k))],(QO p0.bx p0.aa p0.bc p0.cx p0.ch p0.cS p0.eh p0.ea)⟩) (λd=>Qe 1<|lJ 68 V (λV=>re 28 ⟨kr,zf⟩) (λV=>Qe 5<|KP 73 V (λV=>Qe 2 (QE 1 Qg V λm V=>Qe 3 (QE 1 Qg V λn V=>Qe 3 (bi V λl g V=>ZF (j:=48) (λd=>⟨sl d 97 [(1,(.ptr 0 0)),(3,(La e.aa)),(4,(La v2.aa)),(5,(Qd c)),(68,(Qp U)),(73,(Qp J)),(94,(Qp l))],(QO p0.bx p0.aa p0.bc p0.cx p0.ch p0.cS p0.eh p0.ea)⟩) (λd=>re 2 ⟨kr,zf⟩) (λhJ=>KP 83 g (λV=>Qe 11 zf) (λV=>Qe 2 (QE 1 Qg V λp V=>Qe 4 (QE 1 Qg V λq V=>Qe 3 zf)))))))) (λV=>re 23 ⟨kr,zf⟩))) (λhJ=>Ba 51 g (λV=>Qe 3 (QE 1 Qg V λs V=>Qe 3 (QE 1 Qg V λt V=>Qe 3 (QE 1 Qg V λu V=>Qe 4 zf)))) (λV=>Qe 16 zf))))) (λd=>lf V (λV=>ge 1<|Qn zf) (λV=>Qm<|gp<|re 3<|WL _ _ V _ kr)))) (λV=>QD zf)
def Vf:Qb->Option Bool|p0=>idx p0.ea 0>>=λc=>idx p0.ea 1>>=λv2=>((if(I c.aa:Int)≠(I v2.aa:Int)then O J else O ((I c.aa:Int) !=(I p0.aa:Int)))>>=λ(d:Bool)=>(if d=J then O J else O (decide<|p0.ch<0))>>=λ(e:Bool)=>if e=J then O J else O (decide<|p0.ch>=(I c.aa:Int)))>>=λ(f:Bool)=>if f=J then O U else(YK (c,p0,v2,0)>>=λ|.inl _=>O U|.inr _=>O J)
def Qg3{p0 r0}(V:Vf p0=O r0):FQ 150 [(Qb.ex p0)] (Qp r0):=by
 unfold Vf at V
 exact fp (fn:=f150) rfl<|ge 2<|gr 2 (bi V λc f V=>X9 8 Qb.b8 p0.ea 0 c (es:=Qb.hE p0.ea) (d:=(Qb.ex c)) (Qb.fa _) f (Qb.i6 c) rfl<|re 3<|gr 2 (bi V λv2 f V=>X9 8 Qb.b8 p0.ea 1 v2 (es:=Qb.hE p0.ea) (d:=(Qb.ex v2)) (Qb.fa _) f (Qb.i6 v2) rfl<|re 3<|Qh<|Qh (bi V λg e V=>Zm (λd=>⟨sl d 97 [(1,(.ptr 0 0)),(3,(La c.aa)),(4,(La v2.aa)),(40,(Qp g))],(QO p0.bx p0.aa p0.bc p0.cx p0.ch p0.cS p0.eh p0.ea)⟩) (have V:=e;CK (Qe 1<|QM Qg c.aa<|Qe 1<|QM Qg v2.aa<|Qe 2 (bi V λk e V=>ZF (j:=13) (λd=>⟨sl d 97 [(1,(.ptr 0 0)),(3,(La c.aa)),(4,(La v2.aa)),(28,(Qp k))],(QO p0.bx p0.aa p0.bc p0.cx p0.ch p0.cS p0.eh p0.ea)⟩) (λd=>Qe 1 (bi V λl e V=>ZF (j:=18) (λd=>⟨sl d 97 [(1,(.ptr 0 0)),(3,(La c.aa)),(4,(La v2.aa)),(33,(Qp l))],(QO p0.bx p0.aa p0.bc p0.cx p0.ch p0.cS p0.eh p0.ea)⟩) (λd=>Qe 1<|lJ 34 V (λV=>re 6 ⟨kr,zf⟩) (λV=>Qe 3<|QM Qg c.aa<|re 2 ⟨kr,zf⟩)) (λhJ=>lJ 29 e (λV=>Qe 4 zf) (λV=>Qe 4 zf)))) (λhJ=>KP 21 e (λV=>Qe 7 zf) (λV=>Qe 1<|QM Qg c.aa<|Qe 2<|QM Qg p0.aa<|Qe 2 zf))))) (λd=>lf V (λV=>ge 1<|Qn zf) (λV=>Qm<|Qh<|ge 1<|Ql (pG V (WL _) (λ_ d V=>zf) λ_ d V=>ge 1<|Qn zf))))))
def Xq:(Qb×Int)->Option (Unit⊕ Unit)|(p0,c)=>if c<(I p0.cx:Int)then(idx p0.cx c>>=λd=>if d<(-65536)then O J else idx p0.cx c>>=λe=>O<|decide<|e>65536)>>=λ(f:Bool)=>if f=J then O (Naf ())else Xq (p0,(W<|c+1))else O (Nag ())
 partial_fixpoint
def Qd7:∀x r,Xq x=O r->match x with|(p0,c)=>LQ f109 109 [1,1,1,1,1,1,0,1,0,1,1,1,0,0,1,0,0] 1 ⟨kp 197 [(2,(.ptr 0 0)),(6,(Qd c))],(QO p0.bx p0.aa p0.bc p0.cx p0.ch p0.cS p0.eh p0.ea)⟩ (P2 .ret (λ_ d=>⟨sl d 197 [(4,(Qp U))],(QO p0.bx p0.aa p0.bc p0.cx p0.ch p0.cS p0.eh p0.ea)⟩) (.exit 1) (λ_ d=>⟨sl d 197 [(2,(.ptr 0 0))],(QO p0.bx p0.aa p0.bc p0.cx p0.ch p0.cS p0.eh p0.ea)⟩) r):=by refine Xq.partial_correctness _ (λXq Qd7 x r V=>?_);obtain⟨p0,c⟩:=x;exact lp<|Qh<|gr 3<|QM Qg p0.cx<|re 1<|ri V (λV=>Qm<|Qh<|Ql<|Qh (bi V λe j V=>Zm (λd=>⟨sl d 197 [(2,(.ptr 0 0)),(6,(Qd c)),(140,(Qp e))],(QO p0.bx p0.aa p0.bc p0.cx p0.ch p0.cS p0.eh p0.ea)⟩) (have V:=j;gp (Qe 3 (QE 1 Qg V λf V=>Qe 3<|gs 133 V (λV=>re 7 zf) (λV=>Qe 3 (QE 1 Qg V λg V=>re 3 zf))))) (λd=>lf V (λV=>ge 1<|Qn zf) (λV=>Qm<|gp<|re 3<|Qd7 _ _ V _ kr)))) (λV=>QD zf)
def SM:(Qb×(List fJ))->Option Bool|(p0,p1)=>(if p0.bx=1 then O 0 else O 1)>>=λ(s:Int)=>(if p0.bx=7 then O 2 else O s)>>=λ(v2:Int)=>((if p0.bx<1 then O J else O (decide<|p0.bx>7))>>=λ(t:Bool)=>(if t=J then O J else O ((I p0.ea:Int) !=v2))>>=λ(u:Bool)=>if u=J then O J else Ja p0.aa>>=λv=>O<|v !=0)>>=λ(w:Bool)=>if w=J then O U else((if p0.bx≠1 then O (p0.bc !=0)else O U)>>=λ(y:Bool)=>(if y=J then O J else if p0.bx≠2 then O (decide<|(I p0.cx:Int)>0)else O U)>>=λ(z:Bool)=>(if z=J then O J else(if p0.bx≠3 then O (p0.bx !=4)else O U)>>=λ(k:Bool)=>(if k=J then O (p0.bx !=7)else O U)>>=λ(l:Bool)=>if l=J then O (p0.ch !=0)else O U)>>=λ(m:Bool)=>(if m=J then O J else if p0.bx≠4 then O (p0.cS !=0)else O U)>>=λ(n:Bool)=>if n=J then O J else if p0.bx≠5 then O (decide<|(I p0.eh:Int)>0)else O U)>>=λ(A:Bool)=>if A=J then O U else if p0.bx=1 then(if p0.bc>=0 then O (decide<|p0.bc<(I p1:Int))else O U)>>=λ(p:Bool)=>if p=J then idx p1 p0.bc>>=λq=>YV (q,p0.aa)>>=λr=>O r else O U else if p0.bx=2 then(Xq (p0,0)>>=λ|.inl _=>O U|.inr _=>if(I p0.cx:Int)=(I p0.aa:Int)then idx p0.ea 0>>=λc=>O ((I c.aa:Int)==(I p0.aa:Int))else O U)else if p0.bx=3 then T3 p0>>=λd=>O d else if p0.bx=4 then T3 p0>>=λe=>(if e=J then O (decide<|p0.cS>=0)else O U)>>=λ(f:Bool)=>if f=J then if p0.cS=0 then O J else idx p0.aa p0.ch>>=λg=>O (decide<|p0.cS<g)else O U else if p0.bx=5 then Xu p0>>=λj=>O j else if p0.bx=7 then Vf p0>>=λv626=>O v626 else O J
def QhD{p0 p1 r0}(V:SM (p0,p1)=O r0):FQ 109 [(Qb.ex p0),(.ew<|(Naa (λl=>fS.ew<|(Naa Qg) l)) p1)] (Qp r0):=by
 unfold SM at V
 exact fp (fn:=f109) rfl<|ge 2<|ge 1<|Qh<|ge 3 (bi V λw c V=>Zm (λd=>⟨sl d 197 [(1,(Zq p1)),(2,(.ptr 0 0)),(5,(Qd w))],(QO p0.bx p0.aa p0.bc p0.cx p0.ch p0.cS p0.eh p0.ea)⟩) (have V:=c;mQ V (λV=>gp<|re 1 zf) (λV=>Qm zf)) (λd=>Qh<|ge 3 (bi V λv2 c V=>Zm (λd=>⟨sl d 197 [(1,(Zq p1)),(2,(.ptr 0 0)),(5,(Qd v2))],(QO p0.bx p0.aa p0.bc p0.cx p0.ch p0.cS p0.eh p0.ea)⟩) (have V:=c;mQ V (λV=>gp<|re 1 zf) (λV=>Qm zf)) (λd=>Qh<|Qh (bi V λx c V=>Zm (λd=>⟨sl d 197 [(1,(Zq p1)),(2,(.ptr 0 0)),(33,(Qp x))],(QO p0.bx p0.aa p0.bc p0.cx p0.ch p0.cS p0.eh p0.ea)⟩) (have V:=c;CK (Qe 4 (bi V λy c V=>ZF (j:=8) (λd=>⟨sl d 197 [(1,(Zq p1)),(2,(.ptr 0 0)),(5,(Qd v2)),(20,(Qp y))],(QO p0.bx p0.aa p0.bc p0.cx p0.ch p0.cS p0.eh p0.ea)⟩) (λd=>Qe 1 (bi V λz c V=>ZF (j:=15) (λd=>⟨sl d 197 [(1,(Zq p1)),(2,(.ptr 0 0)),(27,(Qp z))],(QO p0.bx p0.aa p0.bc p0.cx p0.ch p0.cS p0.eh p0.ea)⟩) (λd=>Qe 1<|lJ 28 V (λV=>re 5 ⟨kr,zf⟩) (λV=>Qe 2 (bi V λE e V=>cp (UA e)<|re 2 ⟨kr,zf⟩))) (λhJ=>lJ 21 c (λV=>Qe 6 zf) (λV=>Qe 2<|Ff Qb.b8 p0.ea (es:=Qb.hE p0.ea) (Qb.fa _)<|Qe 3 zf)))) (λhJ=>gs 16 c (λV=>Qe 4 zf) (λV=>Qe 4 zf))))) (λd=>lf V (λV=>ge 1<|Qn zf) (λV=>Qm<|Qh<|Qh (bi V λA c V=>Zm (λd=>⟨sl d 197 [(1,(Zq p1)),(2,(.ptr 0 0)),(93,(Qp A))],(QO p0.bx p0.aa p0.bc p0.cx p0.ch p0.cS p0.eh p0.ea)⟩) (have V:=c;CK (Qe 4 (bi V λB c V=>ZF (j:=8) (λd=>⟨sl d 197 [(1,(Zq p1)),(2,(.ptr 0 0)),(41,(Qp B))],(QO p0.bx p0.aa p0.bc p0.cx p0.ch p0.cS p0.eh p0.ea)⟩) (λd=>Qe 1 (bi V λC c V=>ZF (j:=19) (λd=>⟨sl d 197 [(1,(Zq p1)),(2,(.ptr 0 0)),(52,(Qp C))],(QO p0.bx p0.aa p0.bc p0.cx p0.ch p0.cS p0.eh p0.ea)⟩) (λd=>Qe 1 (bi V λm c V=>ZF (j:=39) (λd=>⟨sl d 197 [(1,(Zq p1)),(2,(.ptr 0 0)),(72,(Qp m))],(QO p0.bx p0.aa p0.bc p0.cx p0.ch p0.cS p0.eh p0.ea)⟩) (λd=>Qe 1 (bi V λn c V=>ZF (j:=49) (λd=>⟨sl d 197 [(1,(Zq p1)),(2,(.ptr 0 0)),(82,(Qp n))],(QO p0.bx p0.aa p0.bc p0.cx p0.ch p0.cS p0.eh p0.ea)⟩) (λd=>Qe 1<|lJ 83 V (λV=>re 10 ⟨kr,zf⟩) (λV=>Qe 4<|KP 87 V (λV=>Qe 2<|QM Qg p0.eh<|re 3 ⟨kr,zf⟩) (λV=>re 6 ⟨kr,zf⟩))) (λhJ=>lJ 73 c (λV=>Qe 9 zf) (λV=>Qe 4<|KP 77 V (λV=>Qe 5 zf) (λV=>Qe 5 zf))))) (λhJ=>lJ 53 c (λV=>Qe 19 zf) (λV=>Qe 4 (bi V λp c V=>ZF (j:=28) (λd=>⟨sl d 197 [(1,(Zq p1)),(2,(.ptr 0 0)),(53,(Qp U)),(61,(Qp p))],(QO p0.bx p0.aa p0.bc p0.cx p0.ch p0.cS p0.eh p0.ea)⟩) (λd=>Qe 1 (bi V λq c V=>ZF (j:=33) (λd=>⟨sl d 197 [(1,(Zq p1)),(2,(.ptr 0 0)),(53,(Qp U)),(66,(Qp q))],(QO p0.bx p0.aa p0.bc p0.cx p0.ch p0.cS p0.eh p0.ea)⟩) (λd=>Qe 1<|lJ 67 V (λV=>Qe 5 zf) (λV=>Qe 5 zf)) (λhJ=>lJ 62 c (λV=>Qe 4 zf) (λV=>Qe 4 zf)))) (λhJ=>KP 57 c (λV=>Qe 4 zf) (λV=>Qe 4 zf))))))) (λhJ=>lJ 42 c (λV=>Qe 10 zf) (λV=>Qe 4<|KP 46 V (λV=>Qe 2<|QM Qg p0.cx<|Qe 3 zf) (λV=>Qe 6 zf))))) (λhJ=>KP 37 c (λV=>Qe 4 zf) (λV=>Qe 4 zf))))) (λd=>lf V (λV=>ge 1<|Qn zf) (λV=>Qm<|Qh<|ge 2<|Ql<|ge 2<|mQ V (λV=>Qh<|Pj<|Qe 4 (bi V λr c V=>ZF (j:=10) (λd=>⟨sl d 197 [(1,(Zq p1)),(2,(.ptr 0 0)),(107,(Qp r))],(QO p0.bx p0.aa p0.bc p0.cx p0.ch p0.cS p0.eh p0.ea)⟩) (λd=>Qe 1<|lJ 108 V (λV=>Qe 3 (bi V λg e V=>X9 1 (λl=>fS.ew<|(Naa Qg) l) p1 p0.bc g (es:=(Naa (λl=>fS.ew<|(Naa Qg) l)) p1) (d:=(Lb g)) rfl e rfl rfl<|Qe 3 (bi V λD e V=>cp (TZ e)<|re 2 ⟨kr,Qn zf⟩))) (λV=>re 10 ⟨kr,Qn zf⟩)) (λhJ=>gs 101 c (λV=>Qe 3<|Ff (λl=>fS.ew<|(Naa Qg) l) p1 (es:=(Naa (λl=>fS.ew<|(Naa Qg) l)) p1) rfl<|Qe 2 zf) (λV=>Qe 6 zf)))) (λV=>ge 2<|mQ V (λV=>Qh<|ge 1<|Ql (pG V (Qd7 _) (λ_ d V=>zf) λ_ d V=>Qh<|Zd<|Qe 2<|QM Qg p0.cx<|Qe 2<|QM Qg p0.aa<|Qe 2<|Ba 148 V (λV=>Qe 2 (bi V λf e V=>X9 8 Qb.b8 p0.ea 0 f (es:=Qb.hE p0.ea) (d:=(Qb.ex f)) (Qb.fa _) e (Qb.i6 f) rfl<|Qe 2<|QM Qg f.aa<|Qe 2<|QM Qg p0.aa<|re 3 ⟨kr,Qn zf⟩)) (λV=>re 12 ⟨kr,Qn zf⟩))) (λV=>ge 2<|mQ V (λV=>gr 1 (bi V λs e V=>cp (QfT e)<|re 1<|Qn zf)) (λV=>ge 2<|mQ V (λV=>Qh<|Pj<|Qe 1 (bi V λt e V=>cp (QfT e)<|Qe 1 (bi V λk c V=>ZF (j:=7) (λd=>⟨sl d 197 [(2,(.ptr 0 0)),(172,(Qp k))],(QO p0.bx p0.aa p0.bc p0.cx p0.ch p0.cS p0.eh p0.ea)⟩) (λd=>Qe 1<|lJ 173 V (λV=>Qe 4<|Ba 177 V (λV=>re 12 ⟨kr,Qn zf⟩) (λV=>Qe 6 (QE 1 Qg V λu V=>re 5 ⟨kr,Qn zf⟩))) (λV=>re 16 ⟨kr,Qn zf⟩)) (λhJ=>lJ 168 c (λV=>Qe 4 zf) (λV=>Qe 4 zf))))) (λV=>ge 2<|mQ V (λV=>gr 1 (bi V λv e V=>cp (Qgb e)<|re 1<|Qn zf)) (λV=>ge 2<|mQ V (λV=>gr 1 (bi V λv626 e V=>cp (Qg3 e)<|re 1<|Qn zf)) (λV=>Qm<|ge 1<|Qn zf))))))))))))))))
mutual
def Ys (x:(Qb×(List fJ)×Int)):Option (Unit⊕ Unit):=match x with|(p0,p1,c)=>if c<(I p0.ea:Int)then idx p0.ea c>>=λd=>SG (d,p1)>>=λe=>if e=U then O (Naf ())else Ys (p0,p1,(W<|c+1))else O (Nag ())
 partial_fixpoint
def SG (x:(Qb×(List fJ))):Option Bool:=match x with|(p0,p1)=>SM (p0,p1)>>=λf=>if f=U then O U else(Ys (p0,p1,0)>>=λ|.inl _=>O U|.inr _=>O J)
 partial_fixpoint
end
def Wa:(Qb×(List fJ)×Int)->(Unit⊕ Unit)->Prop:=λx r=>match x with|(p0,p1,c)=>LQ f63 63 [1,1,0,1,0,0] 1 ⟨kp 25 [(1,(Zq p1)),(2,(.ptr 0 0)),(5,(Qd c))],(QO p0.bx p0.aa p0.bc p0.cx p0.ch p0.cS p0.eh p0.ea)⟩<|P2 .ret (λ_ d=>⟨sl d 25 [(4,(Qp U))],(QO p0.bx p0.aa p0.bc p0.cx p0.ch p0.cS p0.eh p0.ea)⟩) (.exit 0) (λ_ d=>⟨sl d 25 [],(QO p0.bx p0.aa p0.bc p0.cx p0.ch p0.cS p0.eh p0.ea)⟩) r
def Wy:(Qb×(List fJ))->Bool->Prop:=λx r=>match x,r with|(p0,p1),c=>∀H,PC prog env 63 ([(Qb.ex p0),(.ew<|(Naa (λl=>fS.ew<|(Naa Qg) l)) p1)].map .b7) H (Qp c) H
def pM:(∀x r,Ys x=O r->Wa x r)/\(∀x r,SG x=O r->Wy x r):=by
 refine Ys.mutual_partial_correctness Wa Wy ?_ ?_
 .intro Ys SG VA WR x r V;unfold Wa;obtain⟨p0,p1,e⟩:=x;exact lp<|Qh<|gr 3<|Ff Qb.b8 p0.ea (es:=Qb.hE p0.ea) (Qb.fa _)<|re 1<|ri V (λV=>Qm<|Qh<|Ql<|gr 3 (bi V λc f V=>X9 8 Qb.b8 p0.ea e c (es:=Qb.hE p0.ea) (d:=(Qb.ex c)) (Qb.fa _) f (Qb.i6 c) rfl<|Qe 2 (bi V λg f V=>XF (WR _ _ f [])<|re 1<|zb V (λV=>ge 1<|Qn zf) (λV=>Qm<|gp<|re 3<|VA _ _ V _ kr)))) (λV=>QD zf)
 .intro Ys VA x j V;unfold Wy;obtain⟨p0,p1⟩:=x;intro H;refine sF (ds:=[(Qb.ex p0),(.ew<|(Naa (λl=>fS.ew<|(Naa Qg) l)) p1)]) (fn:=f63) rfl ?_;exact ge 2<|Qh<|gr 2 (bi V λk f V=>cp (QhD f)<|re 1<|zb V (λV=>ge 1<|Qn zf) (λV=>Qm<|Qh<|ge 1<|Ql (pG V (VA _) (λ_ d V=>zf) λ_ d V=>ge 1<|Qn zf)))
def VA:∀x r,Ys x=O r->Wa x r:=pM.1
def WR:∀x r,SG x=O r->Wy x r:=pM.2
def Vz:(Qb×(List fJ))->Option Bool|(p0,p1)=>Sa p0>>=λc=>if c<=300 then SG (p0,p1)>>=λv2=>O v2 else O U
def Qhl{p0 p1 r0}(V:Vz (p0,p1)=O r0):FQ 29 [(Qb.ex p0),(.ew<|(Naa (λl=>fS.ew<|(Naa Qg) l)) p1)] (Qp r0):=by unfold Vz at V;exact fp (fn:=f29) rfl<|ge 2<|gr 1 (bi V λd c V=>XF (QeQ _ _ c [])<|Qe 2<|gs 8 V (λV=>Qe 2 (bi V λv2 c V=>XF (WR _ _ c [])<|re 2<|Qn zf)) (λV=>re 5<|Qn zf))
def Yn:fJ->Option Int|p0=>Ja p0>>=λc=>if c≠0 then O 0 else JZ p0>>=λ(v2,d)=>O v2
def TV{p0 r0}(V:Yn p0=O r0):FQ 24 [(Lb p0)] (Qd r0):=by unfold Yn at V;exact fp (fn:=f24) rfl<|ge 1<|Qh<|gr 1 (bi V λd c V=>cp (UA c)<|re 1<|zz V (λV=>ge 1<|Qn zf) (λV=>Qm<|gr 1 (sB V λv2 e c V=>cp (Qfk c)<|re 5<|ge 2<|Qn zf)))
def Y3:(fJ×Int×Int×Int)->Option (Unit⊕ Unit)|(p0,p1,e,d)=>if d<(I p0:Int)then idx p0 d>>=λc=>if(W<|e*(if c<1 then 1 else c))>(W<|100*p1)then O (Naf ())else Y3 (p0,p1,(W<|e*(if c<1 then 1 else c)),(W<|d+1))else O (Nag ())
 partial_fixpoint
def Qdp:∀x r,Y3 x=O r->match x with|(p0,p1,c,e)=>LQ f64 64 [1,1,1,0,1,0,0] 0 ⟨kp 38 [(0,(La p0)),(1,(Qd p1)),(5,(Qd c)),(6,(Qd e))],[]⟩ (P2 .ret (λ_ d=>⟨sl d 38 [(4,(Qp U))],[]⟩) (.exit 0) (λ_ d=>⟨sl d 38 [],[]⟩) r):=by refine Y3.partial_correctness _ (λY3 Qdp x r V=>?_);obtain⟨p0,p1,c,e⟩:=x;exact lp<|Qh<|gr 2<|QM Qg p0<|re 1<|ri V (λV=>Qm<|Qh<|Ql<|gr 3 (QE 1 Qg V λf V=>Qe 1<|QA rfl (λ_=>Ki (k:=.i64) (m:=f) (n:=1) rfl kr kr)<|re 2<|ge 4<|ri V (λV=>ge 1<|Qn zf) (λV=>Qm<|gp<|re 3<|Qdp _ _ V _ kr))) (λV=>QD zf)
def UG:(fJ×Int)->Option Bool|(p0,p1)=>((if(I p0:Int)>6 then O J else Ja p0>>=λc=>O<|c !=0)>>=λ(v2:Bool)=>if v2=J then O J else Yn p0>>=λd=>O<|decide<|d>p1)>>=λ(e:Bool)=>if e=J then O U else(Y3 (p0,p1,1,0)>>=λ|.inl _=>O U|.inr _=>O J)
def Qhh{p0 p1 r0}(V:UG (p0,p1)=O r0):FQ 64 [(Lb p0),(Qg p1)] (Qp r0):=by unfold UG at V;exact fp (fn:=f64) rfl<|ge 1<|Qh<|Qh (bi V λf c V=>Zm (λd=>⟨sl d 38 [(0,(La p0)),(1,(Qd p1)),(20,(Qp f))],[]⟩) (have V:=c;CK (Qe 1<|QM Qg p0<|Qe 2 (bi V λv2 c V=>ZF (j:=8) (λd=>⟨sl d 38 [(0,(La p0)),(1,(Qd p1)),(14,(Qp v2))],[]⟩) (λd=>Qe 1<|lJ 15 V (λV=>re 5 ⟨kr,zf⟩) (λV=>Qe 1 (bi V λg e V=>cp (TV e)<|re 3 ⟨kr,zf⟩))) (λhJ=>gs 10 c (λV=>Qe 4 zf) (λV=>Qe 1 (bi V λk e V=>cp (UA e)<|Qe 2 zf)))))) (λd=>lf V (λV=>ge 1<|Qn zf) (λV=>Qm<|ge 1<|Qh<|ge 1<|Ql (pG V (Qdp _) (λ_ d V=>zf) λ_ d V=>ge 1<|Qn zf))))
mutual
def Yr (x:(Qb×Int×Int)):Option (Unit⊕ Unit):=match x with|(p0,p1,c)=>if c<(I p0.ea:Int)then idx p0.ea c>>=λd=>R8 (d,p1)>>=λe=>if e=U then O (Naf ())else Yr (p0,p1,(W<|c+1))else O (Nag ())
 partial_fixpoint
def R8 (x:(Qb×Int)):Option Bool:=match x with|(p0,p1)=>UG (p0.aa,p1)>>=λf=>if f=U then O U else(Yr (p0,p1,0)>>=λ|.inl _=>O U|.inr _=>O J)
 partial_fixpoint
end
def Vx:(Qb×Int×Int)->(Unit⊕ Unit)->Prop:=λx r=>match x with|(p0,p1,c)=>LQ f30 30 [1,1,0,1,0,0] 1 ⟨kp 26 [(1,(Qd p1)),(2,(.ptr 0 0)),(5,(Qd c))],(QO p0.bx p0.aa p0.bc p0.cx p0.ch p0.cS p0.eh p0.ea)⟩<|P2 .ret (λ_ d=>⟨sl d 26 [(4,(Qp U))],(QO p0.bx p0.aa p0.bc p0.cx p0.ch p0.cS p0.eh p0.ea)⟩) (.exit 0) (λ_ d=>⟨sl d 26 [],(QO p0.bx p0.aa p0.bc p0.cx p0.ch p0.cS p0.eh p0.ea)⟩) r
def Wn:(Qb×Int)->Bool->Prop:=λx r=>match x,r with|(p0,p1),c=>∀H,PC prog env 30 ([(Qb.ex p0),(Qg p1)].map .b7) H (Qp c) H
def pV:(∀x r,Yr x=O r->Vx x r)/\(∀x r,R8 x=O r->Wn x r):=by
 refine Yr.mutual_partial_correctness Vx Wn ?_ ?_
 .intro Yr R8 VM QeR x r V;unfold Vx;obtain⟨p0,p1,e⟩:=x;exact lp<|Qh<|gr 3<|Ff Qb.b8 p0.ea (es:=Qb.hE p0.ea) (Qb.fa _)<|re 1<|ri V (λV=>Qm<|Qh<|Ql<|gr 3 (bi V λc f V=>X9 8 Qb.b8 p0.ea e c (es:=Qb.hE p0.ea) (d:=(Qb.ex c)) (Qb.fa _) f (Qb.i6 c) rfl<|Qe 2 (bi V λg f V=>XF (QeR _ _ f [])<|re 1<|zb V (λV=>ge 1<|Qn zf) (λV=>Qm<|gp<|re 3<|VM _ _ V _ kr)))) (λV=>QD zf)
 .intro Yr VM x j V;unfold Wn;obtain⟨p0,p1⟩:=x;intro H;refine sF (ds:=[(Qb.ex p0),(Qg p1)]) (fn:=f30) rfl ?_;exact ge 2<|Qh<|gr 3 (bi V λk f V=>cp (Qhh f)<|re 1<|zb V (λV=>ge 1<|Qn zf) (λV=>Qm<|Qh<|ge 1<|Ql (pG V (VM _) (λ_ d V=>zf) λ_ d V=>ge 1<|Qn zf)))
def VM:∀x r,Yr x=O r->Vx x r:=pV.1
def QeR:∀x r,R8 x=O r->Wn x r:=pV.2
def UD:(Qb×(List fJ)×Int)->Option Bool|(p0,p1,c)=>(if(I p1:Int)<=20 then Up (p0,60)>>=λv2=>O v2 else O U)>>=λ(d:Bool)=>(if d=J then Vz (p0,p1)>>=λe=>O e else O U)>>=λ(f:Bool)=>if f=J then R8 ((⟨p0.bx,p0.aa,p0.bc,p0.cx,p0.ch,p0.cS,p0.eh,p0.ea⟩:Qb),c)>>=λg=>O g else O U
def Qhm{p0 p1 p2 r0}(V:UD (p0,p1,p2)=O r0):FQ 8 [(Qb.ex p0),(.ew<|(Naa (λl=>fS.ew<|(Naa Qg) l)) p1),(Qg p2)] (Qp r0):=by unfold UD at V;exact fp (fn:=f8) rfl<|ge 2<|Qh<|CK<|Qe 1<|Ff (λl=>fS.ew<|(Naa Qg) l) p1 (es:=(Naa (λl=>fS.ew<|(Naa Qg) l)) p1) rfl<|Qe 2 (bi V λf e V=>ZF (j:=7) (λd=>⟨sl d 24 [(1,(Zq p1)),(2,(Qd p2)),(3,(.ptr 0 0)),(6,(Qp U)),(13,(Qp f))],(QO p0.bx p0.aa p0.bc p0.cx p0.ch p0.cS p0.eh p0.ea)⟩) (λd=>Qe 1 (bi V λg e V=>ZF (j:=12) (λd=>⟨sl d 24 [(2,(Qd p2)),(3,(.ptr 0 0)),(6,(Qp U)),(18,(Qp g))],(QO p0.bx p0.aa p0.bc p0.cx p0.ch p0.cS p0.eh p0.ea)⟩) (λd=>Qe 1<|lJ 19 V (λV=>Qe 2 (bi V λk c V=>XF (QeR _ _ c [])<|re 2 ⟨kr,Qn zf⟩)) (λV=>re 5 ⟨kr,Qn zf⟩)) (λhJ=>lJ 14 e (λV=>Qe 2 (bi V λm c V=>cp (Qhl c)<|Qe 1 zf)) (λV=>Qe 4 zf)))) (λhJ=>gs 10 e (λV=>Qe 1 (bi V λv2 c V=>cp (QhW c)<|Qe 1 zf)) (λV=>Qe 3 zf)))
mutual
def YU (x:(Qb×(List Qr)×Int)):Option ((List Qr)):=match x with|(p0,d,c)=>if c<(I p0.ea:Int)then idx p0.ea c>>=λe=>SE e>>=λf=>app 128 d ([f]:List Qr)>>=λg=>YU (p0,g,(W<|c+1))else O d
 partial_fixpoint
def SE (x:Qb):Option Qr:=match x with|p0=>YU (p0,([]:List Qr),0)>>=λj=>O (⟨p0.bx,p0.aa,p0.bc,p0.cx,p0.ch,p0.cS,p0.eh,j⟩:Qr)
 partial_fixpoint
end
def Vo:(Qb×(List Qr)×Int)->((List Qr))->Prop:=λx r=>match x with|(p0,c,f)=>LQ f10 10 [1,1,0,1,0,0] 5 ⟨kp 39 [(1,(.ptr 0 0)),(2,(.ptr 1 0)),(3,(.ptr 3 0)),(4,(Qd f))],[(KE p0.bx p0.aa p0.bc p0.cx p0.ch p0.cS p0.eh p0.ea),(.box [(Qd 0),Ea,(Qd 0),Ea,(Qd 0),(Qd 0),Ea,(.b7<|.ew<|Qr.hE [])]),(.tok 33<|I c),(.box [(Qd p0.bx),(La p0.aa),(Qd p0.bc),(La p0.cx),(Qd p0.ch),(Qd p0.cS),(La p0.eh),(.vec 2<|Qr.hE c)]),(.tok 33<|I ([]:List Qr))]⟩<|P1 (.exit 0) (λe d=>⟨sl d 39 [(2,(.ptr 1 0)),(3,(.ptr 3 0))],[(KE p0.bx p0.aa p0.bc p0.cx p0.ch p0.cS p0.eh p0.ea),(.box [(Qd 0),Ea,(Qd 0),Ea,(Qd 0),(Qd 0),Ea,(.b7<|.ew<|Qr.hE [])]),(.tok 33<|I e),(.box [(Qd p0.bx),(La p0.aa),(Qd p0.bc),(La p0.cx),(Qd p0.ch),(Qd p0.cS),(La p0.eh),(.vec 2<|Qr.hE e)]),(.tok 33<|I ([]:List Qr))]⟩) r
def VW:Qb->Qr->Prop:=λx r=>match x,r with|p0,c=>∀H,PC prog env 10 ([(Qb.ex p0)].map .b7) H (.b7<|Qr.ex c) H
def qV:(∀x r,YU x=O r->Vo x r)/\(∀x r,SE x=O r->VW x r):=by
 refine YU.mutual_partial_correctness Vo VW ?_ ?_
 .intro YU SE VU Qfc x r V;unfold Vo;obtain⟨p0,e,g⟩:=x;exact lp<|Qh<|gr 3<|Ff Qb.b8 p0.ea (es:=Qb.hE p0.ea) (Qb.fa _)<|re 1<|ri V (λV=>Qm<|Qh<|Ql<|Zd<|Qe 5 (bi V λc j V=>X9 8 Qb.b8 p0.ea g c (es:=Qb.hE p0.ea) (d:=(Qb.ex c)) (Qb.fa _) j (Qb.i6 c) rfl<|Qe 1 (bi V λf j V=>XF (Qfc _ _ j [])<|Qe 1 (bi V λk j V=>YA 33 8 128 2 Qr.b8 e ([f]:List Qr) k (xs:=Qr.hE e) (es:=[(Qr.ex f)]) (L:=Qr.hE) Qr.fa rfl (by simp only[Qr.hE,Qr.i6]) Qr.fit j<|re 2 ⟨kr,gp<|re 3<|VU _ _ V _ kr⟩)))) (λV=>QD zf)
 .intro YU VU p0 m V;unfold VW;intro H;refine sF (ds:=[(Qb.ex p0)]) (fn:=f10) rfl ?_;exact ge 2<|ge 17<|Qh<|ge 1<|Ql (kY V (VU _) λl d V=>ge 2<|Qn zf)
def VU:∀x r,YU x=O r->Vo x r:=qV.1
def Qfc:∀x r,SE x=O r->VW x r:=qV.2
def JB:Unit->Option Unit|_=>O ()
def Qfb(V:JB ()=O ()):PC prog env 31 [] [] (.hC 0) [(.map [(.int .i64 1,(Nae 65)),(.int .i64 2,(Nae 67)),(.int .i64 3,(Nae 69)),(.int .i64 4,(Nae 71)),(.int .i64 5,(Nae 73)),(.int .i64 6,(Nae 75)),(.int .i64 7,(Nae 77))])]:=by unfold JB at V;exact gY (fn:=f31) rfl<|ge 1<|gr 1<|Qe 1<|Qe 1<|Qe 1<|Qe 1<|Qe 1<|Qe 1<|Qe 1<|re 2<|Qn zf
def Qy(x:fJ):Option fJ:=app 8 [] x
def lO(l:fJ):Nat:=match l with|[]=>0|_=>1
def QF{x r}(V:Qy x=O r):PC prog env 154 ([.ew ((Naa Qg) x)].map .b7) [] (.ms 0 (lO r) 0 (I r)<|I r) [.mt 3 (lO r) (cellsOf Qg r)]:=by
 obtain⟨c,d⟩:=qb V;have d:r=x:=d;subst d;cases r with
 |nil=>exact Mn (n:=20) (by kernel_rfl)
 |cons a l=>
  exact gY (fn:=f154) rfl<|ge 1<|Qh<|gr 1<|QA rfl (λ_=>QhK (p:=.b7 (Lb (a::l))) (b:=U) rfl kr kr kr)<|Q6<|E3 kr<|Qm<|gr 2<|Zb (v:=.ms 0 1 0 (I (a::l)) (I (a::l))) (λH=>H.set 0<|.mt 3 1<|cellsOf Qg (a::l)) rfl kr (λ_ f=>TQ Qg (l:=[]) (es:=a::l) (bytes:=8) (e:=3) (tt:=0) (g:=0) (m:=0) V yC kr kr kr kr rfl rfl kr rfl kr (sX yC) f)<|re 1<|Qn zf
def Xa:fJ->Option ((Nat×fJ×fJ))|q0=>kj 8 (I q0:Int) 0>>=λc=>Qy q0>>=λv2=>O ((mg c),c,v2)
def VP{q0 v5001 v5002 v5003}(V:Xa q0=O (v5001,v5002,v5003)):PC prog env 111 [(La q0)] [] (.agg [(.ms 1 v5001 0 (I v5002)<|I v5002),(.ms 2 1 0 (I v5003)<|I v5003)]) (Uu v5001 (I v5002) (I v5003) v5002 v5003):=by unfold Xa at V;exact gY (fn:=f111) rfl<|ge 1<|Qh<|Zd<|Qe 1<|QM Qg q0 (bi V λc d V=>Zb (v:=.ms 1 (mg c) 0 (I c) (I c)) (λH=>H++[.mt 3 (mg c) (cellsOf Qg c)]) rfl kr (by intro K f;exact V1 1 Qg (z:=0) (n:=(I q0:Int)) (bytes:=8) (e:=3) (os:=[]) d kr kr kr kr rfl rfl rfl kr kr kr f)<|Qe 1 (bi V λv2 d V=>go 2 3 Qg (QF d)<|re 2 ⟨kr,Qn zf⟩))
def VY:Int->Option Bool|p0=>O<|decide<|p0<0
def Qha{p0 r0}(V:VY p0=O r0):FQ 176 [(Qg p0)] (Qp r0):=by unfold VY at V;exact fp (fn:=f176) rfl<|ge 1<|ge 3<|Qn zf
def QG:(fJ×Int)->Option (Int⊕ Unit)|(p0,c)=>if c<(I p0:Int)then idx p0 c>>=λd=>VY d>>=λe=>if e=J then O (Naf c)else QG (p0,(W<|c+1))else O (Nag ())
 partial_fixpoint
def Yc:∀x r,QG x=O r->match x with|(p0,c)=>LQ f131 131 [1,0,1,0,0] 0 ⟨kp 19 [(0,(La p0)),(1,(Nae 176)),(7,(Qd (I p0:Int))),(8,(Qd c))],[]⟩ (P2 .ret (λe d=>⟨sl d 19 [(4,(Qd e))],[]⟩) (.exit 0) (λ_ d=>⟨sl d 19 [],[]⟩) r):=by refine QG.partial_correctness _ (λQG Yc x r V=>?_);obtain⟨p0,c⟩:=x;exact lp<|ge 1<|Qh<|ri V (λV=>Qm<|Qh<|Ql<|ge 2<|gr 3 (QE 1 Qg V λf V=>Qe 1 (bi V λg j V=>cp (Qha j)<|Q6<|lf V (λV=>ge 2<|Qn zf) (λV=>Qm<|gp<|re 2<|Yc _ _ V _ kr)))) (λV=>QD zf)
def ZD:fJ->Option Int|p0=>(QG (p0,0)>>=λ|.inl c=>O c|.inr _=>O (-1))
def Qbp{p0 r0}(V:ZD p0=O r0):FQ 131 [(Lb p0),(.raw<|.func (.func 176) #[] #[])] (Qd r0):=by unfold ZD at V;exact fp (fn:=f131) rfl<|ge 1<|Qh<|gr 1<|QM Qg p0<|re 1<|Ql (pG V (Yc _) (λc d V=>zf) λ_ d V=>ge 1<|Qn zf)
def Zh:fJ->Option Bool|p0=>ZD p0>>=λc=>O<|decide<|c>=0
def Qa4{p0 r0}(V:Zh p0=O r0):FQ 95 [(Lb p0),(.raw<|.func (.func 176) #[] #[])] (Qp r0):=by unfold Zh at V;exact fp (fn:=f95) rfl<|ge 1<|gr 2 (bi V λd c V=>cp (Qbp c)<|re 2<|Qn zf)
def VE:Int->Option Bool|p0=>O<|decide<|p0>65536
def Qhb{p0 r0}(V:VE p0=O r0):FQ 177 [(Qg p0)] (Qp r0):=by unfold VE at V;exact fp (fn:=f177) rfl<|ge 1<|ge 3<|Qn zf
def QH:(fJ×Int)->Option (Int⊕ Unit)|(p0,c)=>if c<(I p0:Int)then idx p0 c>>=λd=>VE d>>=λe=>if e=J then O (Naf c)else QH (p0,(W<|c+1))else O (Nag ())
 partial_fixpoint
def Yd:∀x r,QH x=O r->match x with|(p0,c)=>LQ f131 131 [1,0,1,0,0] 0 ⟨kp 19 [(0,(La p0)),(1,(Nae 177)),(7,(Qd (I p0:Int))),(8,(Qd c))],[]⟩ (P2 .ret (λe d=>⟨sl d 19 [(4,(Qd e))],[]⟩) (.exit 0) (λ_ d=>⟨sl d 19 [],[]⟩) r):=by refine QH.partial_correctness _ (λQH Yd x r V=>?_);obtain⟨p0,c⟩:=x;exact lp<|ge 1<|Qh<|ri V (λV=>Qm<|Qh<|Ql<|ge 2<|gr 3 (QE 1 Qg V λf V=>Qe 1 (bi V λg j V=>cp (Qhb j)<|Q6<|lf V (λV=>ge 2<|Qn zf) (λV=>Qm<|gp<|re 2<|Yd _ _ V _ kr)))) (λV=>QD zf)
def ZE:fJ->Option Int|p0=>(QH (p0,0)>>=λ|.inl c=>O c|.inr _=>O (-1))
def Qbq{p0 r0}(V:ZE p0=O r0):FQ 131 [(Lb p0),(.raw<|.func (.func 177) #[] #[])] (Qd r0):=by unfold ZE at V;exact fp (fn:=f131) rfl<|ge 1<|Qh<|gr 1<|QM Qg p0<|re 1<|Ql (pG V (Yd _) (λc d V=>zf) λ_ d V=>ge 1<|Qn zf)
def Zi:fJ->Option Bool|p0=>ZE p0>>=λc=>O<|decide<|c>=0
def Qa5{p0 r0}(V:Zi p0=O r0):FQ 95 [(Lb p0),(.raw<|.func (.func 177) #[] #[])] (Qp r0):=by unfold Zi at V;exact fp (fn:=f95) rfl<|ge 1<|gr 2 (bi V λd c V=>cp (Qbq c)<|re 2<|Qn zf)
def TU:fJ->Option Int|p0=>Zh p0>>=λc=>if c=J then O 6 else Zi p0>>=λv2=>if v2=J then O 7 else O 0
def Qgs{p0 r0}(V:TU p0=O r0):FQ 134 [(Lb p0)] (Qd r0):=by unfold TU at V;exact fp (fn:=f134) rfl<|ge 1<|Qh<|Ql<|gr 1 (bi V λd c V=>cp (Qa4 c)<|re 1<|lf V (λV=>ge 1<|Qn zf) (λV=>gr 1 (bi V λv2 c V=>cp (Qa5 c)<|re 1<|lf V (λV=>ge 1<|Qn zf) (λV=>Qm<|ge 1<|Qn zf))))
def Zj:(fJ×Int×Int)->Option (Int⊕ Unit)|(p0,p1,c)=>if c<(I p0:Int)then idx p0 c>>=λd=>if p1=d then O (Naf c)else Zj (p0,p1,(W<|c+1))else O (Nag ())
 partial_fixpoint
def JX:∀x r,Zj x=O r->match x with|(p0,p1,c)=>LQ f178 178 [1,0,1,0,0] 0 ⟨kp 19 [(0,(La p0)),(1,(Qd p1)),(7,(Qd (I p0:Int))),(8,(Qd c))],[]⟩ (P2 .ret (λe d=>⟨sl d 19 [(4,(Qd e))],[]⟩) (.exit 0) (λ_ d=>⟨sl d 19 [],[]⟩) r):=by refine Zj.partial_correctness _ (λZj JX x r V=>?_);obtain⟨p0,p1,c⟩:=x;exact lp<|ge 1<|Qh<|ri V (λV=>Qm<|Qh<|Ql<|ge 2<|gr 3 (QE 1 Qg V λf V=>re 2<|mQ V (λV=>ge 2<|Qn zf) (λV=>Qm<|gp<|re 2<|JX _ _ V _ kr))) (λV=>QD zf)
def JE:(fJ×Int)->Option Int|(p0,p1)=>(Zj (p0,p1,0)>>=λ|.inl c=>O c|.inr _=>O (-1))
def Qfg{p0 p1 r0}(V:JE (p0,p1)=O r0):FQ 178 [(Lb p0),(Qg p1)] (Qd r0):=by unfold JE at V;exact fp (fn:=f178) rfl<|ge 1<|Qh<|gr 1<|QM Qg p0<|re 1<|Ql (pG V (JX _) (λc d V=>zf) λ_ d V=>ge 1<|Qn zf)
def Y8:(fJ×Int)->Option Bool|(p0,p1)=>JE (p0,p1)>>=λc=>O<|decide<|c>=0
def QeK{p0 p1 r0}(V:Y8 (p0,p1)=O r0):FQ 135 [(Lb p0),(Qg p1)] (Qp r0):=by unfold Y8 at V;exact fp (fn:=f135) rfl<|ge 1<|gr 2 (bi V λd c V=>cp (Qfg c)<|re 2<|Qn zf)
def U6:(Int×Int×Int)->Option (Int×Bool)|(p0,p1,c)=>((if p0<0 then O J else O (decide<|p1<0))>>=λ(v2:Bool)=>(if v2=J then O J else O (decide<|p0>c))>>=λ(d:Bool)=>(if d=J then O J else O (decide<|p1>c))>>=λ(e:Bool)=>if e=J then O J else if p1>0 then zl c p1>>=λf=>O (decide<|p0>f)else O U)>>=λ(g:Bool)=>if g=J then O (0,U)else O ((W<|p0*p1),J)
def Qh5{p0 p1 p2 r0 r1}(V:U6 (p0,p1,p2)=O (r0,r1)):FQ 138 [(Qg p0),(Qg p1),(Qg p2)] (.fz [(Qd r0),(Qp r1)]):=by
 unfold U6 at V
 exact fp (fn:=f138) rfl<|ge 2<|Qh<|Qh (bi V λe c V=>Zm (λd=>⟨sl d 38 [(0,(Qd p0)),(1,(Qd p1)),(34,(Qp e))],[]⟩) (have V:=c;CK (Qe 3 (bi V λv2 c V=>ZF (j:=6) (λd=>⟨sl d 38 [(0,(Qd p0)),(1,(Qd p1)),(2,(Qd p2)),(13,(Qp v2))],[]⟩) (λd=>Qe 1 (bi V λf c V=>ZF (j:=11) (λd=>⟨sl d 38 [(0,(Qd p0)),(1,(Qd p1)),(2,(Qd p2)),(18,(Qp f))],[]⟩) (λd=>Qe 1 (bi V λg c V=>ZF (j:=16) (λd=>⟨sl d 38 [(0,(Qd p0)),(1,(Qd p1)),(2,(Qd p2)),(23,(Qp g))],[]⟩) (λd=>Qe 1<|lJ 24 V (λV=>re 10 ⟨kr,zf⟩) (λV=>Qe 3<|gs 27 V (λV=>Qe 3 (bi V λl k V=>QA rfl (λ_=>Qiq (a:=p2) (b:=p1) k rfl kr kr)<|re 3 ⟨kr,zf⟩)) (λV=>re 7 ⟨kr,zf⟩))) (λhJ=>lJ 19 c (λV=>Qe 4 zf) (λV=>Qe 4 zf)))) (λhJ=>lJ 14 c (λV=>Qe 4 zf) (λV=>Qe 4 zf)))) (λhJ=>gs 10 c (λV=>Qe 3 zf) (λV=>Qe 3 zf))))) (λd=>lf V (λV=>ge 2<|Qn zf) (λV=>Qm<|ge 5<|Qn zf)))
def Vp:(Int×Int)->Option (Int×Bool)|(p0,p1)=>U6 (p0,p1,65536)>>=λ(c,v2)=>O (c,v2)
def QgA{p0 p1 r0 r1}(V:Vp (p0,p1)=O (r0,r1)):FQ 137 [(Qg p0),(Qg p1)] (.fz [(Qd r0),(Qp r1)]):=by unfold Vp at V;exact fp (fn:=f137) rfl<|ge 2<|gr 2 (sB V λd v2 c V=>cp (Qh5 c)<|re 4<|Qn zf)
def QY:(fJ×Int×Int)->Option (Int⊕ Int)|(p0,d,c)=>if c<(I p0:Int)then idx p0 c>>=λf=>Vp (d,f)>>=λ(e,g)=>if g=U then O (Naf e)else QY (p0,e,(W<|c+1))else O (Nag d)
 partial_fixpoint
def XE:∀x r,QY x=O r->match x with|(p0,c,e)=>LQ f179 179 [1,1,0,1,0,0] 0 ⟨kp 31 [(2,(Nae 137)),(8,(Qd c)),(13,(La p0)),(14,(Qd (I p0:Int))),(15,(Qd e))],[]⟩ (P2 .ret (λf d=>⟨sl d 31 [(6,(Qd f)),(7,(Qp U))],[]⟩) (.exit 0) (λg d=>⟨sl d 31 [(8,(Qd g))],[]⟩) r):=by refine QY.partial_correctness _ (λQY XE x r V=>?_);obtain⟨p0,c,e⟩:=x;exact lp<|ge 1<|Qh<|ri V (λV=>Qm<|Qh<|Ql<|Qh<|gp (QE 1 Qg V λj V=>re 2<|gr 3 (sB V λk l m V=>cp (QgA m)<|re 5<|ge 2<|zb V (λV=>ge 3<|Qn zf) (λV=>Qm<|gp<|re 2<|XE _ _ V _ kr)))) (λV=>QD zf)
def Y7:(fJ×Int)->Option (Int×Bool)|(p0,p1)=>(QY (p0,p1,0)>>=λ|.inl c=>O (c,U)|.inr d=>O (d,J))
def QdD{p0 p1 r0 r1}(V:Y7 (p0,p1)=O (r0,r1)):FQ 179 [(Lb p0),(Qg p1),(.raw<|.func (.func 137) #[] #[])] (.fz [(Qd r0),(Qp r1)]):=by unfold Y7 at V;exact fp (fn:=f179) rfl<|ge 2<|ge 3<|Qh<|gr 1<|QM Qg p0<|re 1<|Ql (pG V (XE _) (λc d V=>zf) λe d V=>ge 3<|Qn zf)
def Y6:(fJ×Int)->Option (Int×Int)|(p0,p1)=>TU p0>>=λc=>if c≠0 then O (0,c)else Y7 (p0,p1)>>=λ(v2,d)=>if d=U then O (0,7)else O (v2,0)
def QdC{p0 p1 r0 r1}(V:Y6 (p0,p1)=O (r0,r1)):FQ 136 [(Lb p0),(Qg p1),(.raw<|.func (.func 137) #[] #[])] (.fz [(Qd r0),(Qd r1)]):=by unfold Y6 at V;exact fp (fn:=f136) rfl<|ge 2<|Qh<|gr 1 (bi V λd c V=>cp (Qgs c)<|re 1<|ge 2<|zz V (λV=>ge 3<|Qn zf) (λV=>Qm<|gr 3 (sB V λv2 e c V=>cp (QdD c)<|re 5<|Qh<|ge 2<|zb V (λV=>ge 2<|Qn zf) (λV=>Qm<|ge 3<|Qn zf))))
def T1:fJ->Option (Int×Int)|p0=>TU p0>>=λc=>(if c=0 then Y8 (p0,0)>>=λd=>O d else O U)>>=λ(v2:Bool)=>if v2=J then O (0,0)else Y6 (p0,1)>>=λ(e,f)=>O (e,f)
def QfL{p0 r0 r1}(V:T1 p0=O (r0,r1)):FQ 99 [(Lb p0)] (.fz [(Qd r0),(Qd r1)]):=by unfold T1 at V;exact fp (fn:=f99) rfl<|ge 2<|Qh<|gr 1 (bi V λf c V=>cp (Qgs c)<|re 1<|Qh (bi V λv2 e V=>Zm (λd=>⟨sl d 17 [(0,(La p0)),(12,(Qp v2))],[]⟩) (have V:=e;gp (Qe 3<|Ba 9 V (λV=>Qe 1 (bi V λg c V=>cp (QeK c)<|re 1 zf)) (λV=>re 3 zf))) (λd=>lf V (λV=>ge 2<|Qn zf) (λV=>Qm<|gr 1 (sB V λj k c V=>cp (QdC c)<|re 4<|Qn zf)))))
def TB:fJ->Option Int|p0=>T1 p0>>=λ(d,v2)=>(if v2≠6 then O (decide<|(I p0:Int)>16)else O U)>>=λ(c:Bool)=>if c=J then O 7 else O v2
def QeV{p0 r0}(V:TB p0=O r0):FQ 52 [(Lb p0)] (Qd r0):=by unfold TB at V;exact fp (fn:=f52) rfl<|ge 1<|gr 1 (sB V λg v2 c V=>cp (QfL c)<|re 5<|Qh<|Qh (bi V λe f V=>Zm (λd=>⟨sl d 18 [(4,(Qd v2)),(16,(Qp e))],[]⟩) (have V:=f;gp (Qe 3<|KP 12 V (λV=>Qe 1<|QM Qg p0<|re 2 zf) (λV=>re 4 zf))) (λd=>lf V (λV=>ge 1<|Qn zf) (λV=>Qm<|ge 2<|Qn zf))))
def Xl:fJ->Option Int|p0=>TB p0>>=λc=>if c≠0 then O 0 else T1 p0>>=λ(v2,d)=>O v2
def TT{p0 r0}(V:Xl p0=O r0):FQ 102 [(Lb p0)] (Qd r0):=by unfold Xl at V;exact fp (fn:=f102) rfl<|ge 1<|Qh<|gr 1 (bi V λd c V=>cp (QeV c)<|re 1<|zz V (λV=>ge 1<|Qn zf) (λV=>Qm<|gr 1 (sB V λv2 e c V=>cp (QfL c)<|re 5<|ge 2<|Qn zf)))
def YS:(fJ×fJ×fJ×Int×Int)->Option (fJ)|(p0,v2,d,e,c)=>if c<(I p0:Int)then QN (I d=I v2)>>=λ_=>idx d (W<|(W<|(I p0:Int) - 1) - c)>>=λj=>iM d (W<|(W<|(I p0:Int) - 1) - c) e>>=λf=>idx p0 (W<|(W<|(I p0:Int) - 1) - c)>>=λg=>YS (p0,v2,f,(W<|e*g),(W<|c+1))else O d
 partial_fixpoint
def QcL:∀x r,YS x=O r->match x with|(p0,v2,c,g,f)=>LQ f155 155 [1,1,1,1,1,0,1,0,0] 1 ⟨kp 39 [(0,(La p0)),(3,(.arr 0 0 (I v2)<|I v2)),(4,(Qd g)),(18,(Qd (I p0:Int))),(19,(Qd f))],[(.box<|cellsOf Qg c)]⟩ (P1 (.exit 0) (λp d=>⟨sl d 39 [(3,(.arr 0 0 (I v2)<|I v2))],[(.box<|cellsOf Qg p)]⟩) r):=by refine YS.partial_correctness _ (λYS QcL x r V=>?_);obtain⟨p0,v2,c,g,f⟩:=x;exact lp<|ge 1<|Qh<|ri V (λV=>Qm<|Qh<|Ql<|ge 2<|gr 1<|QM Qg p0<|re 4<|gr 3 (gi V λk V=>bi V λs q V=>QA rfl (λ_=>T7 (e:=3) (l:=c) (n:=(W<|(W<|(I p0:Int) - 1) - f)) (i:=0) (cap:=I v2) (m:=I v2) q k kr kr rfl kr kr) (bi V λj q V=>Zb (λH=>H.set 0<|.box<|cellsOf Qg j) rfl kr (λ_=>UT Qg (l:=c) (n:=(W<|(W<|(I p0:Int) - 1) - f)) (y:=g) q yC kr rfl kr kr kr kr)<|Q6<|gp<|Qe 3 (QE 1 Qg V λt V=>re 3<|gp<|re 2<|QcL _ _ V _<|fZ [(.box<|cellsOf Qg j)] (λ_=>(fR (kX Qg _ _ _) gD)) rfl)))) (λV=>QD zf)
def Xt:fJ->Option fJ|p0=>TB p0>>=λd=>if d≠0 then O ([]:fJ)else kj 8 (I p0:Int) 0>>=λv2=>Xl p0>>=λe=>if e=0 then O v2 else YS (p0,v2,v2,1,0)>>=λc=>QN (I c=I v2)>>=λ_=>O c
def Qed{p0 r0}(V:Xt p0=O r0):FQ 155 [(Lb p0)] (La r0):=by
 unfold Xt at V
 exact fp (fn:=f155) rfl<|ge 1<|Qh<|gr 1 (bi V λk f V=>cp (QeV f)<|re 1<|zz V (λV=>ge 1<|Qn zf) (λV=>Qm<|gr 1<|QM Qg p0 (bi V λv2 f V=>Zb (v:=.arr 0 0 (I v2) (I v2)) (λH=>H++[.box (cellsOf Qg v2)]) rfl kr (by intro K j;exact UB 0 Qg (z:=0) (n:=(I p0:Int)) (bytes:=8) f (e:=3) kr kr kr kr rfl rfl kr kr j)<|re 1<|Qh<|gr 1 (bi V λl f V=>cp (TT f)<|re 1<|mQ V (λV=>ge 2<|Qn (by obtain rfl:=vz V;exact⟨trivial,Ym [(.arr 0 0 (I v2)<|I v2)] kr<|xE<|pq Qg v2 rfl yC kr⟩)) (λV=>Qm<|ge 1<|Qh<|gr 1<|QM Qg p0<|re 1<|Ql<|kY V (QcL _) (λg d V=>ge 2<|Qn (gi V λc V=>(by obtain rfl:=vz V;exact⟨trivial,Ym [(.arr 0 0 (I v2)<|I v2)] kr<|xE<|pq Qg g c yC kr⟩))) (hst:=(fZ [(.box<|cellsOf Qg v2)] (λ_=>(fR (kX Qg _ _ _) gD)) rfl)))))))
def Vu:(Int×fJ)->Option Qj|(p0,p1)=>Xt p1>>=λc=>O (⟨2,p0,0,c,0,0,0⟩:Qj)
def QgG{p0 p1 r0}(V:Vu (p0,p1)=O r0):FQ 112 [(Qg p0),(Lb p1)] (.b7<|Qj.b8 r0):=by unfold Vu at V;exact fp (fn:=f112) rfl<|ge 1<|gr 2 (bi V λd c V=>cp (Qed c)<|re 2<|Qn zf)
def Yv:(fJ×fJ×Int)->Option (Unit⊕ Unit)|(p0,p1,c)=>if c<(I p0:Int)then idx p0 c>>=λd=>idx p1 c>>=λe=>if d>=e then O (Naf ())else Yv (p0,p1,(W<|c+1))else O (Nag ())
 partial_fixpoint
def Qb4:∀x r,Yv x=O r->match x with|(p0,p1,c)=>LQ f94 94 [1,1,0,1,0,0] 0 ⟨kp 41 [(0,(La p0)),(1,(La p1)),(5,(Qd 1)),(9,(Qd (I p0:Int))),(10,(Qd c))],[]⟩ (P2 .ret (λ_ d=>⟨sl d 41 [(4,(Qd 0))],[]⟩) (.exit 0) (λ_ d=>⟨sl d 41 [(0,(La p0)),(1,(La p1)),(5,(Qd 1))],[]⟩) r):=by refine Yv.partial_correctness _ (λYv Qb4 x r V=>?_);obtain⟨p0,p1,c⟩:=x;exact lp<|ge 1<|Qh<|ri V (λV=>Qm<|Qh<|Ql<|ge 2<|Qh<|Zd<|Qe 2 (QE 1 Qg V λe V=>Qe 3 (QE 1 Qg V λf V=>re 2 ⟨kr,ri V (λV=>ge 1<|Qn zf) (λV=>Qm<|gp<|re 2<|Qb4 _ _ V _ kr)⟩))) (λV=>QD zf)
def Yw:(fJ×fJ×Int×Int)->Option Int|(p0,p1,d,c)=>if c<(I p0:Int)then idx p1 c>>=λe=>idx p0 c>>=λf=>Yw (p0,p1,(W<|d*(W<|e - f)),(W<|c+1))else O d
 partial_fixpoint
def WN:∀x r,Yw x=O r->match x with|(p0,p1,c,e)=>LQ f94 94 [1,1,1,0,1,0,0] 0 ⟨kp 41 [(0,(La p0)),(1,(La p1)),(5,(Qd c)),(24,(Qd (I p0:Int))),(25,(Qd e))],[]⟩ (P1 (.exit 2) (λf d=>⟨sl d 41 [(5,(Qd f))],[]⟩) r):=by refine Yw.partial_correctness _ (λYw WN x r V=>?_);obtain⟨p0,p1,c,e⟩:=x;exact lp<|ge 1<|Qh<|ri V (λV=>Qm<|Qh<|Ql<|ge 2<|Zd<|Qe 3 (QE 1 Qg V λg V=>Qe 3 (QE 1 Qg V λj V=>re 4 ⟨kr,gp<|re 2<|WN _ _ V _ kr⟩))) (λV=>QD zf)
def X6:(fJ×fJ)->Option Int|(p0,p1)=>(Yv (p0,p1,0)>>=λ|.inl _=>O 0|.inr _=>Yw (p0,p1,1,0)>>=λc=>O c)
def W4{p0 p1 r0}(V:X6 (p0,p1)=O r0):FQ 94 [(Lb p0),(Lb p1)] (Qd r0):=by unfold X6 at V;exact fp (fn:=f94) rfl<|ge 1<|ge 1<|Qh<|gr 1<|QM Qg p0<|re 1<|Ql (pG V (Qb4 _) (λ_ d V=>zf) λ_ d V=>Qh<|gr 1<|QM Qg p0<|re 1<|Ql (kY V (WN _) λc d V=>ge 2<|Qn zf))
def Ju:Qo->Option Int|p0=>X6 (p0.lo,p0.hi)>>=λc=>O c
def Vq{p0 r0}(V:Ju p0=O r0):FQ 49 [(Qo.b8 p0)] (Qd r0):=by unfold Ju at V;exact fp (fn:=f49) rfl<|ge 2<|gr 4 (bi V λd c V=>cp (W4 c)<|re 1<|Qn zf)
def Wj:Qa->Option Bool|p0=>Ju (⟨p0.box.lo,p0.box.hi⟩:Qo)>>=λc=>O<|decide<|c>0
def Qgw{p0 r0}(V:Wj p0=O r0):FQ 152 [(Qa.b8 p0)] (Qp r0):=by unfold Wj at V;exact fp (fn:=f152) rfl<|ge 2<|gr 2 (bi V λd c V=>cp (Vq c)<|re 2<|Qn zf)
def QV:((List Qa)×Nat×(List Qa)×Int)->Option ((Nat×(List Qa)))|(q0,d,e,c)=>if c<(I q0:Int)then idx q0 c>>=λf=>Wj f>>=λg=>if g=J then app 120 e ([f]:List Qa)>>=λj=>QV (q0,(d+1),j,(W<|c+1))else QV (q0,d,e,(W<|c+1))else O (d,e)
 partial_fixpoint
def Yl:∀x r,QV x=O r->match x with|(q0,c,f,n)=>LQ f151 151 [1,1,0,1,0,0] 1 ⟨kp 23 [(1,(Nae 152)),(5,(.ms 0 c 0 (I f)<|I f)),(8,(Q7 q0)),(9,(Qd (I q0:Int))),(10,(Qd n))],[(Ng c f)]⟩ (P1 (.exit 0) (λ(p,k) d=>⟨sl d 23 [(5,(.ms 0 p 0 (I k)<|I k))],[(Ng p k)]⟩) r):=by refine QV.partial_correctness _ (λQV Yl x r V=>?_);obtain⟨q0,c,f,n⟩:=x;exact lp<|ge 1<|Qh<|ri V (λV=>Qm<|Qh<|Ql<|Qh<|gp (QE 9 Qa.b8 V λq V=>re 3<|gr 2 (bi V λt s V=>cp (Qgw s)<|Q6<|lf V (λV=>gp<|Qe 3 (bi V λj s V=>Zb (v:=.ms 0 (c+1) 0 (I j) (I j)) (λH=>H.set 0<|Wd c j) rfl kr (λ_ u=>QhX Qa.b8 (l:=f) (es:=([q]:List Qa)) (bytes:=120) (e:=62) (tt:=0) (g:=c) (m:=I f) (size:=9) s Qa.fit rfl kr kr rfl kr kr rfl rfl kr rfl kr kr u)<|re 1<|gp<|re 2<|Yl _ _ V _<|fZ [(Wd c j)] (λ_=>(fR (gj Qa.b8 _ _ _ _ _) gD)) rfl)) (λV=>Qm<|gp<|re 2<|Yl _ _ V _<|fZ [(Ng c f)] (λ_=>(fR (gj Qa.b8 _ _ _ _ _) gD)) rfl)))) (λV=>QD zf)
def Y0:(List Qa)->Option ((Nat×(List Qa)))|q0=>QV (q0,0,([]:List Qa),0)>>=λ(c,d)=>O (c,d)
def Qdm{q0 v5001 v5002}(V:Y0 q0=O (v5001,v5002)):PC prog env 151 [(Q7 q0),(Nae 152)] [] (.ms 0 v5001 0 (I v5002)<|I v5002) [(Ng v5001 v5002)]:=by unfold Y0 at V;exact gY (fn:=f151) rfl<|ge 1<|ge 1<|Qh<|gr 1<|QM Qa.b8 q0<|re 1<|Ql<|kY V (Yl _) (λ⟨c,e⟩ d V=>ge 2<|Qn zf) (hst:=(fZ [(.mt 62 0<|cellsOf Qa.b8 ([]:List Qa))] (λ_=>(fR (gj Qa.b8 _ _ _ _ _) gD)) rfl))
def ZI:(List Qa)->Option (List Qa)|p0=>Y0 p0>>=λ(d,v2)=>Eu v2>>=λc=>QN (I c=I v2)>>=λ_=>O c
def JT{p0 r0}(V:ZI p0=O r0):FQ 110 [(.ew<|(Naa Qa.b8) p0)] (Q7 r0):=by unfold ZI at V;exact fp (fn:=f110) rfl<|ge 1<|gr 1 (sB V λj v2 c V=>go 0 62 Qa.b8 (ds:=[(.ew<|(Naa Qa.b8) p0),(.raw<|.func (.func 152) #[] #[])]) (Qdm c)<|re 1<|gr 1 (bi V λf c V=>Zg (QiX (g:=1) (cap:=I v2) c)<|Q6<|ge 2<|Qn (gi V λd V=>(by obtain rfl:=vz V;exact⟨trivial,Ym [(.ms 0 1 0 (I v2)<|I v2)] kr<|Nh<|Ms (e:=62) Qa.b8 f d yC kr⟩))))
def Um:(Int×fJ)->Option (List Qa)|(p0,p1)=>Xa p1>>=λ(f,v2,c)=>Vu (p0,p1)>>=λd=>ZI ([(⟨(⟨v2,c⟩:Qo),d⟩:Qa)]:List Qa)>>=λe=>O e
def Qhg{p0 p1 r0}(V:Um (p0,p1)=O r0):FQ 66 [(Qg p0),(Lb p1)] (Q7 r0):=by unfold Um at V;exact fp (fn:=f66) rfl<|ge 1<|gr 1 (N9 V λg v2 c d V=>QA (v:=.b7 (.agg [(Lb v2),(Lb c)])) rfl (λ_=>Rz (f:=111) (first:=#[]) (cap:=#[]) (e:=3) (ow':=[]) (ds:=[(Lb p1)]) (p:=(.agg [(.ms 1 g 0 (I v2)<|I v2),(.ms 2 1 0 (I c)<|I c)])) (H1:=(Uu g (I v2) (I c) v2 c)) rfl kr kr kr kr (VP d)<|xx<|gk (jx (e:=3) Qg v2 rfl yC kr)<|gk (jx (e:=3) Qg c rfl yC kr) mu)<|Qe 2 (bi V λj d V=>cp (QgG d)<|Qe 2 (bi V λk d V=>cp (JT d)<|re 1<|Qn zf)))
def VI:(Qr×(List<|List Qa))->Option (List Qa)|(p0,p1)=>Um (p0.bc,p0.aa)>>=λc=>O c
def Qf1{p0 p1 r0}(V:VI (p0,p1)=O r0):FQ 65 [(Qr.ex p0),(.ew<|(Naa (λl=>fS.ew<|(Naa Qa.b8) l)) p1)] (Q7 r0):=by unfold VI at V;exact fp (fn:=f65) rfl<|ge 2<|gr 4 (bi V λd c V=>cp (Qhg c)<|re 1<|Qn zf)
def XR:(Int×Int×Int×fJ×Int×Int×Int×Int×Int)->Option ((fJ×Int))|(q0,q1,q2,q3,q4,q5,q6,q7,d)=>Qy q3>>=λc=>if q0=3 then O (c,q4)else O (c,q2)
def Qee{q0 q1 q2 q3 q4 q5 q6 q7 q8 v5001 v5002}(V:XR (q0,q1,q2,q3,q4,q5,q6,q7,q8)=O (v5001,v5002)):PC prog env 192 [(Ld q0 q1 q2 q3 q4 q5 q6)] [(QB q0 q1 q2 q3 q4 q5 q6),(.box [(Qd q7)]),(.box [(Qd q8)]),Za,(QB q0 q1 q2 q3 q4 q5 q6),Za] (.ptr 8 0) (KF q0 q1 q2 q3 q4 q5 q6 q7 q8 v5001 v5002<|I v5001):=by unfold XR at V;exact gY (fn:=f192) rfl<|ge 2<|Qh<|Zd<|Qe 4 (bi V λd c V=>go 7 3 Qg (QF c)<|re 5 ⟨kr,Qh<|ge 3<|mQ V (λV=>gp<|re 7<|ge 2<|Qn zf) (λV=>Qm<|ge 2<|Qn zf)⟩)
def YB:(Int×Int×Int×Int×Int×fJ×Int×Int×Int×fJ×Int)->Option Int|(q0,q1,q2,q3,q4,q5,q6,q7,e,d,c)=>idx d q0>>=λf=>idx d q0>>=λv2=>O<|W<|c+(W<|q1*v2)
def Qel{q0 q1 q2 q3 q4 q5 q6 q7 q8 q9 q10 v5001}(V:YB (q0,q1,q2,q3,q4,q5,q6,q7,q8,q9,q10)=O v5001):PC prog env 158 [(.ptr 8 0),(Qd q0),(Qd q1)] (KF q2 q3 q4 q5 q6 q7 q8 q0 q1 q9 q10<|I q9) (.fz []) (KF q2 q3 q4 q5 q6 q7 q8 q0 q1 q9 v5001<|I q9):=by unfold YB at V;exact gY (fn:=f158) rfl<|Zd<|Qe 10 (bi V λd c V=>QA rfl (λ_=>QR (e:=3) (n:=q0) (j:=(q0).toNat) (tt:=7) (g:=1) (lo:=0) (len:=I q9) (cap:=I q9) (k:=.i64) kr kr rfl kr kr (gw c)<|zB (gJ c) rfl) (bi V λv2 c V=>QA rfl (λ_=>Ye (tt:=7) (g:=1) (j:=(0+(q0).toNat)) (e:=3) (cs:=cellsOf Qg q9) (v:=.b7 (Qg v2)) kr kr rfl kr (Zt kr)<|gM Qg c)<|re 5 ⟨kr,zf⟩))
def XH:(Int×Int×Int×fJ×Int×Int×Int×Int×Int×fJ×Int)->Option Int|(q0,q1,q2,q3,q4,q5,q6,q7,d,e,c)=>YB (q7,d,q0,q1,q2,q3,q4,q5,q6,e,c)>>=λf=>O f
def Qe9{q0 q1 q2 q3 q4 q5 q6 q7 q8 q9 q10 v5001}(V:XH (q0,q1,q2,q3,q4,q5,q6,q7,q8,q9,q10)=O v5001):PC prog env 157 [(.ptr 8 0),(.ptr 1 0),(.ptr 2 0)] (KF q0 q1 q2 q3 q4 q5 q6 q7 q8 q9 q10<|I q9) (.fz []) (KF q0 q1 q2 q3 q4 q5 q6 q7 q8 q9 v5001<|I q9):=by unfold XH at V;exact gY (fn:=f157) rfl<|Zd<|Qe 5 (bi V λd c V=>Zg (Qel c)<|Q6 ⟨kr,zf⟩)
def Yi:(Int×Int×Int×fJ×Int×Int×Int×Int×Int×fJ×Int)->Option ((Int×Int×Int×Int×Int×Int))|(q0,q1,q2,q3,q4,q5,q6,q7,d,e,c)=>if q0=3 then O (q2,c,q2,c,q2,c)else O (c,q4,c,q4,c,q4)
def Qd3{q0 q1 q2 q3 q4 q5 q6 q7 q8 q9 q10 v5001 v5002 v5003 v5004 v5005 v5006}(V:Yi (q0,q1,q2,q3,q4,q5,q6,q7,q8,q9,q10)=O (v5001,v5002,v5003,v5004,v5005,v5006)):PC prog env 193 [(.ptr 8 0)] (KF q0 q1 q2 q3 q4 q5 q6 q7 q8 q9 q10<|I q9) (.agg [(Qd q0),(Qd q1),(Qd v5005),(.ms 7 1 0 (I q9)<|I q9),(Qd v5006),(Qd q5),(Qd q6)]) [(QB q0 q1 q2 q3 q4 q5 q6),(.box [(Qd q7)]),(.box [(Qd q8)]),Za,(QB q0 q1 q2 q3 q4 q5 q6),Za,(QB q0 q1 q2 q3 q4 q5 q6),(QI q9),(Oa q10 (I q9) q0 q1 q2 q3 q4 q5 q6),(Of q0 q1 v5001 (I q9) v5002 q5 q6),(Of q0 q1 v5003 (I q9) v5004 q5 q6)]:=by unfold Yi at V;exact gY (fn:=f193) rfl<|ge 1<|ge 6<|ge 7<|Qh<|ge 3<|mQ V (λV=>gp<|re 7<|ge 2<|Qn zf) (λV=>gp<|re 7<|ge 2<|Qn zf)
def Ji:(Int×Int×Int×fJ×Int×Int×Int×Int×Int)->Option (Unit⊕ (fJ×Int×Int×Int×Int×Int×Int×Int×Int×Int))|(q0,q1,q2,q3,q4,q5,q6,q7,c)=>if q0=1 then O (Naf ())else XR (q0,q1,q2,q3,q4,q5,q6,q7,c)>>=λ(d,v2)=>XH (q0,q1,q2,q3,q4,q5,q6,q7,c,d,v2)>>=λe=>Yi (q0,q1,q2,q3,q4,q5,q6,q7,c,d,e)>>=λ(j,k,l,m,f,g)=>O<|Nag (d,f,g,e,j,k,l,m,f,g)
def QdZ{q0 q1 q2 q3 q4 q5 q6 q7 q8 r}(V:Ji (q0,q1,q2,q3,q4,q5,q6,q7,q8)=O r):PC prog env 156 [(Ld q0 q1 q2 q3 q4 q5 q6),(.fn 157 [(.ptr 1 0),(.ptr 2 0)])] [(QB q0 q1 q2 q3 q4 q5 q6),(.box [(Qd q7)]),(.box [(Qd q8)]),Za] (match r with|.inl _=>(Ld q0 q1 q2 q3 q4 q5 q6)|.inr ((c,d,e,f,g,j,k,l,m,n))=>(.agg [(Qd q0),(Qd q1),(Qd m),(.ms 7 1 0 (I c)<|I c),(Qd n),(Qd q5),(Qd q6)])) (match r with|.inl _=>(QhQ q0 q1 q2 q3 q4 q5 q6 q7 q8)|.inr ((c,d,e,f,g,j,k,l,m,n))=>[(QB q0 q1 q2 q3 q4 q5 q6),(.box [(Qd q7)]),(.box [(Qd q8)]),Za,(QB q0 q1 q2 q3 q4 q5 q6),(Of q0 q1 d (I c) e q5 q6),(QB q0 q1 q2 q3 q4 q5 q6),(QI c),(Oa f (I c) q0 q1 q2 q3 q4 q5 q6),(Of q0 q1 g (I c) j q5 q6),(Of q0 q1 k (I c) l q5 q6)]):=by unfold Ji at V;exact gY (fn:=f156) rfl<|ge 2<|Qh<|ge 3<|mQ V (λV=>ge 2<|Qn zf) (λV=>Qm<|gr 1 (sB V λq v2 p V=>Zg (Qee p)<|re 1<|gr 2 (bi V λs p V=>Zg (Qe9 p)<|Q6<|gr 1 (Uo V λt u v w x y p V=>Zg (Qd3 p)<|re 1<|Qn zf))))
def Jg:(Qj×Int×Int)->Option Qj|(p0,p1,d)=>(Ji (p0.bx,p0.bc,p0.ek,p0.bm,p0.ed,p0.dk,p0.ep,p1,d)>>=λ|.inl _=>O p0|.inr ((e,v2,g,j,k,l,m,n,f,c))=>O (⟨p0.bx,p0.bc,f,e,c,p0.dk,p0.ep⟩:Qj))
def QfG{p0 p1 p2 r0}(V:Jg (p0,p1,p2)=O r0):FQ 113 [(Qj.b8 p0),(Qg p1),(Qg p2)] (.b7<|Qj.b8 r0):=by unfold Jg at V;exact fp (fn:=f113) rfl<|ge 4<|gr 2 (bs V (λ_ c V=>Zg (QdZ c)<|re 1<|Qn zf) λ⟨d,v2,j,k,l,m,n,p,g,f⟩ c V=>Zg (QdZ c)<|re 1<|Qn (by obtain rfl:=vz V;exact⟨trivial,Ym [(.agg [(Qd p0.bx),(Qd p0.bc),(Qd g),(.ms 7 1 0 (I d)<|I d),(Qd f),(Qd p0.dk),(Qd p0.ep)])] kr<|qM<|gk kr<|gk kr<|gk kr<|gk (jx (e:=3) Qg d rfl yC kr)<|gk kr<|gk kr<|gk kr mu⟩))
def YR:(fJ×fJ×fJ×fJ×fJ×fJ×Int)->Option ((fJ×fJ))|(p,p0,q,p1,k,l,e)=>if e<(I p:Int)then idx p e>>=λc=>idx p0 e>>=λd=>idx q e>>=λf=>app 8 k ([(if f<(if(W<|d - c)<0 then 0 else(W<|d - c))then f else(if(W<|d - c)<0 then 0 else(W<|d - c)))]:fJ)>>=λm=>idx p1 e>>=λg=>idx q e>>=λj=>app 8 l ([(if(if f<(if(W<|d - c)<0 then 0 else(W<|d - c))then f else(if(W<|d - c)<0 then 0 else(W<|d - c)))<(if j<(W<|g - c)then j else(W<|g - c))then(if j<(W<|g - c)then j else(W<|g - c))else(if f<(if(W<|d - c)<0 then 0 else(W<|d - c))then f else(if(W<|d - c)<0 then 0 else(W<|d - c))))]:fJ)>>=λn=>YR (p,p0,q,p1,m,n,(W<|e+1))else O (k,l)
 partial_fixpoint
def WA:∀x r,YR x=O r->match x with|(w,p0,z,p1,l,p,q)=>LQ f114 114 [1,1,0,1,0,0] 4 ⟨kp 58 [(0,(La p0)),(1,(La p1)),(2,(La z)),(8,(.ptr 0 0)),(9,(.ptr 1 0)),(13,(La w)),(14,(Qd (I w:Int))),(15,(Qd q))],[(.box [Ea,Ea]),(.box [(Oj l),(.vec 3<|(Naa Qg) p)]),(.tok 3<|I l),(.tok 3<|I p)]⟩ (P1 (.exit 0) (λ(s,t) d=>⟨sl d 58 [(8,(.ptr 0 0)),(9,(.ptr 1 0))],[(.box [Ea,Ea]),(.box [(Oj s),(.vec 3<|(Naa Qg) t)]),(.tok 3<|I s),(.tok 3<|I t)]⟩) r):=by
 refine YR.partial_correctness _ (λYR WA x r V=>?_);obtain⟨w,p0,z,p1,l,p,q⟩:=x
 exact lp<|ge 1<|Qh<|ri V (λV=>Qm<|Qh<|Ql<|gr 1 (QE 1 Qg V λc V=>re 3<|Qh<|Zd<|Qe 2 (QE 1 Qg V λe V=>Qe 3<|QA rfl (λ_=>Ki (k:=.i64) (m:=(W<|e - c)) (n:=0) rfl kr kr)<|Qe 2 (QE 1 Qg V λf V=>Qe 1<|QA rfl (λ_=>Hf (k:=.i64) (m:=(if(W<|e - c)<0 then 0 else(W<|e - c))) (n:=f) rfl kr kr)<|re 1 ⟨kr,gr 4 (bi V λu y V=>YA 3 1 8 2 Qg l ([(if f<(if(W<|e - c)<0 then 0 else(W<|e - c))then f else(if(W<|e - c)<0 then 0 else(W<|e - c)))]:fJ) u (xs:=(Naa Qg) l) (es:=(Naa Qg) ([(if f<(if(W<|e - c)<0 then 0 else(W<|e - c))then f else(if(W<|e - c)<0 then 0 else(W<|e - c)))]:fJ)) (L:=(Naa Qg)) yC rfl rfl yC y<|re 2<|Zd<|Qe 5 (QE 1 Qg V λg V=>Qe 5 (QE 1 Qg V λj V=>Qe 1<|QA rfl (λ_=>Hf (k:=.i64) (m:=(W<|g - c)) (n:=j) rfl kr kr)<|QA rfl (λ_=>Ki (k:=.i64) (m:=(if f<(if(W<|e - c)<0 then 0 else(W<|e - c))then f else(if(W<|e - c)<0 then 0 else(W<|e - c)))) (n:=(if j<(W<|g - c)then j else(W<|g - c))) rfl kr kr)<|Qe 1 (bi V λv y V=>YA 3 1 8 3 Qg p ([(if(if f<(if(W<|e - c)<0 then 0 else(W<|e - c))then f else(if(W<|e - c)<0 then 0 else(W<|e - c)))<(if j<(W<|g - c)then j else(W<|g - c))then(if j<(W<|g - c)then j else(W<|g - c))else(if f<(if(W<|e - c)<0 then 0 else(W<|e - c))then f else(if(W<|e - c)<0 then 0 else(W<|e - c))))]:fJ) v (xs:=(Naa Qg) p) (es:=(Naa Qg) ([(if(if f<(if(W<|e - c)<0 then 0 else(W<|e - c))then f else(if(W<|e - c)<0 then 0 else(W<|e - c)))<(if j<(W<|g - c)then j else(W<|g - c))then(if j<(W<|g - c)then j else(W<|g - c))else(if f<(if(W<|e - c)<0 then 0 else(W<|e - c))then f else(if(W<|e - c)<0 then 0 else(W<|e - c))))]:fJ)) (L:=(Naa Qg)) yC rfl rfl yC y<|re 2 ⟨kr,gp<|re 2<|WA _ _ V _ kr⟩))))⟩)))) (λV=>QD zf)
def JY:(fJ×fJ×fJ×fJ)->Option Qo|(p0,p1,e,f)=>YR (f,p0,e,p1,([]:fJ),([]:fJ),0)>>=λ(c,d)=>O (⟨c,d⟩:Qo)
def Qfj{p0 p1 p2 p3 r0}(V:JY (p0,p1,p2,p3)=O r0):FQ 114 [(Lb p0),(Lb p1),(Lb p2),(Lb p3)] (.b7<|Qo.b8 r0):=by unfold JY at V;exact fp (fn:=f114) rfl<|ge 1<|ge 1<|Qh<|gr 1<|QM Qg p3<|re 1<|Ql (kY V (WA _) λ⟨c,e⟩ d V=>ge 2<|Qn zf)
def V4:(Int×Int)->Option Int|(p0,p1)=>O (if p0<p1 then p1 else p0)
def Qgk{p0 p1 r0}(V:V4 (p0,p1)=O r0):FQ 140 [(Qg p0),(Qg p1)] (Qd r0):=by unfold V4 at V;exact fp (fn:=f140) rfl<|ge 1<|gr 2<|QA rfl (λ_=>Ki (k:=.i64) (m:=p0) (n:=p1) rfl kr kr)<|re 1<|Qn zf
def Q4:(fJ×fJ×fJ×Int)->Option (fJ)|(p0,p1,d,c)=>if c<(I p0:Int)then idx p0 c>>=λe=>idx p1 c>>=λf=>V4 (e,f)>>=λg=>app 8 d ([g]:fJ)>>=λj=>Q4 (p0,p1,j,(W<|c+1))else O d
 partial_fixpoint
def Xm:∀x r,Q4 x=O r->match x with|(p0,p1,c,e)=>LQ f139 139 [1,1,0,1,0,0] 1 ⟨kp 29 [(1,(La p1)),(2,(Nae 140)),(7,(TR c)),(10,(La p0)),(11,(Qd (I p0:Int))),(12,(Qd e))],[(.tok 3<|I c)]⟩ (P1 (.exit 0) (λf d=>⟨sl d 29 [(7,(TR f))],[(.tok 3<|I f)]⟩) r):=by refine Q4.partial_correctness _ (λQ4 Xm x r V=>?_);obtain⟨p0,p1,c,e⟩:=x;exact lp<|ge 1<|Qh<|ri V (λV=>Qm<|Qh<|Ql<|gr 1 (QE 1 Qg V λl V=>re 3<|gp<|Qe 5 (QE 1 Qg V λm V=>Qe 1 (bi V λg k V=>cp (Qgk k)<|Qe 1 (bi V λj k V=>YA 3 1 8 0 Qg c ([g]:fJ) j (xs:=(Naa Qg) c) (es:=(Naa Qg) ([g]:fJ)) (L:=(Naa Qg)) yC rfl rfl yC k<|re 1<|gp<|re 2<|Xm _ _ V _ kr))))) (λV=>QD zf)
def YD:(fJ×fJ)->Option fJ|(p0,p1)=>Q4 (p0,p1,([]:fJ),0)>>=λc=>O c
def QcZ{p0 p1 r0}(V:YD (p0,p1)=O r0):FQ 139 [(Lb p0),(Lb p1),(.raw<|.func (.func 140) #[] #[])] (La r0):=by unfold YD at V;exact fp (fn:=f139) rfl<|ge 1<|ge 1<|Qh<|gr 1<|QM Qg p0<|re 1<|Ql (kY V (Xm _) λc d V=>ge 2<|Qn zf)
def VD:(Int×Int)->Option Int|(p0,p1)=>O (if p1<p0 then p1 else p0)
def Qgl{p0 p1 r0}(V:VD (p0,p1)=O r0):FQ 141 [(Qg p0),(Qg p1)] (Qd r0):=by unfold VD at V;exact fp (fn:=f141) rfl<|ge 1<|gr 2<|QA rfl (λ_=>Hf (k:=.i64) (m:=p0) (n:=p1) rfl kr kr)<|re 1<|Qn zf
def Q5:(fJ×fJ×fJ×Int)->Option (fJ)|(p0,p1,d,c)=>if c<(I p0:Int)then idx p0 c>>=λe=>idx p1 c>>=λf=>VD (e,f)>>=λg=>app 8 d ([g]:fJ)>>=λj=>Q5 (p0,p1,j,(W<|c+1))else O d
 partial_fixpoint
def Xn:∀x r,Q5 x=O r->match x with|(p0,p1,c,e)=>LQ f139 139 [1,1,0,1,0,0] 1 ⟨kp 29 [(1,(La p1)),(2,(Nae 141)),(7,(TR c)),(10,(La p0)),(11,(Qd (I p0:Int))),(12,(Qd e))],[(.tok 3<|I c)]⟩ (P1 (.exit 0) (λf d=>⟨sl d 29 [(7,(TR f))],[(.tok 3<|I f)]⟩) r):=by refine Q5.partial_correctness _ (λQ5 Xn x r V=>?_);obtain⟨p0,p1,c,e⟩:=x;exact lp<|ge 1<|Qh<|ri V (λV=>Qm<|Qh<|Ql<|gr 1 (QE 1 Qg V λl V=>re 3<|gp<|Qe 5 (QE 1 Qg V λm V=>Qe 1 (bi V λg k V=>cp (Qgl k)<|Qe 1 (bi V λj k V=>YA 3 1 8 0 Qg c ([g]:fJ) j (xs:=(Naa Qg) c) (es:=(Naa Qg) ([g]:fJ)) (L:=(Naa Qg)) yC rfl rfl yC k<|re 1<|gp<|re 2<|Xn _ _ V _ kr))))) (λV=>QD zf)
def YF:(fJ×fJ)->Option fJ|(p0,p1)=>Q5 (p0,p1,([]:fJ),0)>>=λc=>O c
def Qc0{p0 p1 r0}(V:YF (p0,p1)=O r0):FQ 139 [(Lb p0),(Lb p1),(.raw<|.func (.func 141) #[] #[])] (La r0):=by unfold YF at V;exact fp (fn:=f139) rfl<|ge 1<|ge 1<|Qh<|gr 1<|QM Qg p0<|re 1<|Ql (kY V (Xn _) λc d V=>ge 2<|Qn zf)
def XT:(Qo×Qo)->Option (Qo×Bool)|(p0,p1)=>if(I p0.lo:Int)≠(I p1.lo:Int)then O ((⟨([]:fJ),([]:fJ)⟩:Qo),U)else YD (p0.lo,p1.lo)>>=λc=>YF (p0.hi,p1.hi)>>=λv2=>X6 (c,v2)>>=λd=>if d=0 then O ((⟨([]:fJ),([]:fJ)⟩:Qo),U)else O ((⟨c,v2⟩:Qo),J)
def Qfh{p0 p1 r0 r1}(V:XT (p0,p1)=O (r0,r1)):FQ 101 [(Qo.b8 p0),(Qo.b8 p1)] (.fz [(.b7<|Qo.b8 r0),(Qp r1)]):=by unfold XT at V;exact fp (fn:=f101) rfl<|ge 4<|Qh<|gr 2<|QM Qg p0.lo<|Qe 2<|QM Qg p1.lo<|re 1<|zz V (λV=>ge 3<|Qn zf) (λV=>Qm<|gr 4 (bi V λd c V=>cp (QcZ c)<|re 1<|gr 4 (bi V λv2 c V=>cp (Qc0 c)<|re 1<|Qh<|gr 2 (bi V λe c V=>cp (W4 c)<|re 1<|mQ V (λV=>ge 3<|Qn zf) (λV=>Qm<|ge 5<|Qn zf)))))
def Xj:Qo->Option Bool|p0=>Ju p0>>=λc=>O<|c==0
def VF{p0 r0}(V:Xj p0=O r0):FQ 195 [(Qo.b8 p0)] (Qp r0):=by unfold Xj at V;exact fp (fn:=f195) rfl<|ge 2<|gr 1 (bi V λd c V=>cp (Vq c)<|re 2<|Qn zf)
def ZC:(fJ×fJ×fJ×fJ×fJ×fJ×fJ×fJ)->Option (Unit⊕ Unit)|(q0,q1,q2,q3,q4,q5,q6,q7)=>Xj (⟨q6,q7⟩:Qo)>>=λc=>if c=J then O (Naf ())else O (Nag ())
def X4{q0 q1 q2 q3 q4 q5 q6 q7 r}(V:ZC (q0,q1,q2,q3,q4,q5,q6,q7)=O r):PC prog env 221 [(.arr 3 0 1 1),(Nae 195)] (Oe q0 q1 q2 q3 q4 q5 q6 q7) (match r with|.inl _=>(Qd 0)|.inr _=>(Qd (-1))) (match r with|.inl _=>(Oe q0 q1 q2 q3 q4 q5 q6 q7)|.inr _=>(Oe q0 q1 q2 q3 q4 q5 q6 q7)):=by unfold ZC at V;exact gY (fn:=f221) rfl<|ge 1<|Qh<|gr 1<|Qe 1<|re 1<|Ql<|SF<|oU (st':=⟨kp 19 [(0,(.arr 3 0 1 1)),(1,(Nae 195)),(7,(Qd 1)),(8,(Qd 0))],(Oe q0 q1 q2 q3 q4 q5 q6 q7)⟩) kr<|ge 1<|Qh<|L9 kr<|Qm<|Qh<|Ql<|ge 2<|gr 3<|Qe 1<|Qe 1 (bi V λd c V=>cp (VF c)<|Q6<|lf V (λV=>ge 2<|Qn zf) (λV=>Qm<|gp<|re 2<|oU (st':=⟨kp 19 [(0,(.arr 3 0 1 1)),(1,(Nae 195)),(7,(Qd 1)),(8,(Qd 1))],(Oe q0 q1 q2 q3 q4 q5 q6 q7)⟩) kr<|ge 1<|Qh<|E3 kr<|QD<|ge 1<|Qn zf))
def Zz:(fJ×fJ×fJ×fJ×fJ×fJ×fJ×fJ)->Option (Unit⊕ Unit)|(q0,q1,q2,q3,q4,q5,q6,q7)=>(ZC (q0,q1,q2,q3,q4,q5,q6,q7)>>=λ|.inl _=>O (Naf ())|.inr _=>O<|Nag ())
def XZ{q0 q1 q2 q3 q4 q5 q6 q7 r}(V:Zz (q0,q1,q2,q3,q4,q5,q6,q7)=O r):PC prog env 194 [(.arr 3 0 1 1),(Nae 195)] (Oe q0 q1 q2 q3 q4 q5 q6 q7) (match r with|.inl _=>(.arr 3 0 0 1)|.inr _=>(.arr 3 0 1 1)) (match r with|.inl _=>[(Qz q0 q1),(Qz q2 q3),(Qz q4 q5),(.box [Ea,Ea])]|.inr _=>(Oe q0 q1 q2 q3 q4 q5 q6 q7)):=by unfold Zz at V;exact gY (fn:=f194) rfl<|ge 1<|gr 2 (bs V (λ_ c V=>Zg (X4 c)<|re 1<|Qh<|ge 2<|E3 kr<|Qm<|Qh<|ge 3<|Ql<|SF<|oU (st':=⟨kp 42 [(0,(.arr 3 0 1 1)),(1,(Nae 195)),(5,(Qd 0)),(6,(Qd 1))],(Oe q0 q1 q2 q3 q4 q5 q6 q7)⟩) kr<|Qh<|gr 2<|Qe 1<|re 1<|E3 kr<|QD<|gr 2<|Qe 1<|re 1<|gr 2<|Qe 1<|re 1<|Qn zf) λ_ c V=>Zg (X4 c)<|re 1<|Qh<|ge 2<|L9 kr<|ge 2<|Qn zf)
def Wv:(fJ×fJ×fJ×fJ×fJ×fJ×fJ×fJ)->Option (Unit⊕ Unit)|(q0,q1,q2,q3,q4,q5,q6,q7)=>(Zz (q0,q1,q2,q3,q4,q5,q6,q7)>>=λ|.inl _=>O (Naf ())|.inr _=>O<|Nag ())
def Qez{q0 q1 q2 q3 q4 q5 q6 q7 r}(V:Wv (q0,q1,q2,q3,q4,q5,q6,q7)=O r):PC prog env 159 [(.arr 3 0 1 1)] (Oe q0 q1 q2 q3 q4 q5 q6 q7) (match r with|.inl _=>(.arr 3 0 0 1)|.inr _=>(.arr 3 0 1 1)) (match r with|.inl _=>[(Qz q0 q1),(Qz q2 q3),(Qz q4 q5),(.box [Ea,Ea])]|.inr _=>(Oe q0 q1 q2 q3 q4 q5 q6 q7)):=by unfold Wv at V;exact gY (fn:=f159) rfl<|ge 1<|gr 1 (bs V (λ_ c V=>Zg (XZ c)<|re 1<|Qn zf) λ_ c V=>Zg (XZ c)<|re 1<|Qn zf)
def Oh:(Qo×Int×Int×Int)->Option Qo|(p0,p1,f,g)=>Qy p0.lo>>=λc=>Qy p0.hi>>=λv2=>idx c p1>>=λj=>iM c p1 f>>=λd=>idx v2 p1>>=λk=>iM v2 p1 g>>=λe=>QN (I d=I c)>>=λ_=>QN (I e=I v2)>>=λ_=>O (⟨d,e⟩:Qo)
def Vh{p0 p1 p2 p3 r0}(V:Oh (p0,p1,p2,p3)=O r0):FQ 160 [(Qo.b8 p0),(Qg p1),(Qg p2),(Qg p3)] (.b7<|Qo.b8 r0):=by
 unfold Oh at V
 exact fp (fn:=f160) rfl<|ge 2<|Qh<|Zd<|Qe 2 (bi V λd c V=>go 2 3 Qg (QF c)<|Qe 2 (bi V λv2 c V=>go 3 3 Qg (QF c)<|re 3 ⟨kr,Qh<|Zd<|Qe 8 (bi V λr c V=>QA rfl (λ_=>QR (e:=3) (n:=p1) (j:=(p1).toNat) (tt:=2) (g:=1) (lo:=0) (len:=I d) (cap:=I d) (k:=.i64) kr kr rfl kr kr (gw c)<|zB (gJ c) rfl) (bi V λp c V=>Zb (λH=>H.set 2<|QI p) rfl kr (λ_=>Js Qg (l:=d) (n:=p1) (y:=p2) c yC kr rfl kr kr kr kr) (bi V λs c V=>QA rfl (λ_=>QR (e:=3) (n:=p1) (j:=(p1).toNat) (tt:=3) (g:=1) (lo:=0) (len:=I v2) (cap:=I v2) (k:=.i64) kr kr rfl kr kr (gw c)<|zB (gJ c) rfl) (bi V λq c V=>Zb (λH=>H.set 3<|QI q) rfl kr (λ_=>Js Qg (l:=v2) (n:=p1) (y:=p3) c yC kr rfl kr kr kr kr)<|Q6 ⟨kr,ge 2<|Qn (gi V λf V=>gi V λm V=>(by obtain rfl:=vz V;exact⟨trivial,Ym [(.agg [(.ms 2 1 0 (I d)<|I d),(.ms 3 1 0 (I v2)<|I v2)])] kr<|qM<|gk (jx (e:=3) Qg p f yC kr)<|gk (jx (e:=3) Qg q m yC kr) mu⟩))⟩))))⟩))
def ZB:(fJ×fJ×fJ×fJ×fJ×fJ×fJ×fJ×fJ×fJ×fJ×fJ×Nat)->Option (Unit⊕ Unit⊕ Unit)|(q0,q1,q2,q3,q4,q5,q6,q7,e,f,c,d,g)=>Xj (⟨e,f⟩:Qo)>>=λj=>if j=J then O (Naf ())else Xj (⟨c,d⟩:Qo)>>=λv2=>if v2=J then O (Nag<|Naf ())else O (Nag<|Nag ())
def Yy{q0 q1 q2 q3 q4 q5 q6 q7 q8 q9 q10 q11 q12 r}(V:ZB (q0,q1,q2,q3,q4,q5,q6,q7,q8,q9,q10,q11,q12)=O r):PC prog env 221 [(.arr 5 0 2 2),(Nae 195)] (J3 q0 q1 q2 q3 q4 q5 q12 q6 q7 q8 q9 q10 q11) (match r with|.inl _=>(Qd 0)|.inr (.inl _)=>(Qd 1)|.inr (.inr _)=>(Qd (-1))) (match r with|.inl _=>(J3 q0 q1 q2 q3 q4 q5 q12 q6 q7 q8 q9 q10 q11)|.inr (.inl _)=>(J3 q0 q1 q2 q3 q4 q5 q12 q6 q7 q8 q9 q10 q11)|.inr (.inr _)=>(J3 q0 q1 q2 q3 q4 q5 q12 q6 q7 q8 q9 q10 q11)):=by
 unfold ZB at V
 exact gY (fn:=f221) rfl<|ge 1<|Qh<|gr 1<|Qe 1<|re 1<|Ql<|SF<|oU (st':=⟨kp 19 [(0,(.arr 5 0 2 2)),(1,(Nae 195)),(7,(Qd 2)),(8,(Qd 0))],(J3 q0 q1 q2 q3 q4 q5 q12 q6 q7 q8 q9 q10 q11)⟩) kr<|ge 1<|Qh<|L9 kr<|Qm<|Qh<|Ql<|ge 2<|gr 3<|Qe 1<|Qe 1 (bi V λd c V=>cp (VF c)<|Q6<|lf V (λV=>ge 2<|Qn zf) (λV=>Qm<|gp<|re 2<|oU (st':=⟨kp 19 [(0,(.arr 5 0 2 2)),(1,(Nae 195)),(7,(Qd 2)),(8,(Qd 1))],(J3 q0 q1 q2 q3 q4 q5 q12 q6 q7 q8 q9 q10 q11)⟩) kr<|ge 1<|Qh<|L9 kr<|Qm<|Qh<|Ql<|ge 2<|gr 3<|Qe 1<|Qe 1 (bi V λv2 c V=>cp (VF c)<|Q6<|lf V (λV=>ge 2<|Qn zf) (λV=>Qm<|gp<|re 2<|oU (st':=⟨kp 19 [(0,(.arr 5 0 2 2)),(1,(Nae 195)),(7,(Qd 2)),(8,(Qd 2))],(J3 q0 q1 q2 q3 q4 q5 q12 q6 q7 q8 q9 q10 q11)⟩) kr<|ge 1<|Qh<|E3 kr<|QD<|ge 1<|Qn zf))))
def Zy:(fJ×fJ×fJ×fJ×fJ×fJ×fJ×fJ×fJ×fJ×fJ×fJ×Nat)->Option ((fJ×fJ)⊕ Unit⊕ Unit)|(q0,q1,q2,q3,q4,q5,q6,q7,f,g,c,d,e)=>(ZB (q0,q1,q2,q3,q4,q5,q6,q7,f,g,c,d,e)>>=λ|.inl _=>Xj (⟨c,d⟩:Qo)>>=λj=>if j=U then O (Naf (c,d))else O (Nag<|Naf ())|.inr (.inl _)=>O (Naf (f,g))|.inr (.inr _)=>O<|Nag<|Nag ())
def Yk{q0 q1 q2 q3 q4 q5 q6 q7 q8 q9 q10 q11 q12 r}(V:Zy (q0,q1,q2,q3,q4,q5,q6,q7,q8,q9,q10,q11,q12)=O r):PC prog env 194 [(.arr 5 0 2 2),(Nae 195)] (J3 q0 q1 q2 q3 q4 q5 q12 q6 q7 q8 q9 q10 q11) (match r with|.inl (c,d)=>(.arr 5 0 1 2)|.inr (.inl _)=>(.arr 5 0 0 2)|.inr (.inr _)=>(.arr 5 0 2 2)) (match r with|.inl (c,d)=>[(Qz q0 q1),(Qz q2 q3),(Qz q4 q5),(.tok 60 q12),(Qz q6 q7),(.box [(La c),(La d),Ea,Ea])]|.inr (.inl _)=>[(Qz q0 q1),(Qz q2 q3),(Qz q4 q5),(.tok 60 q12),(Qz q6 q7),(.box [Ea,Ea,Ea,Ea])]|.inr (.inr _)=>(J3 q0 q1 q2 q3 q4 q5 q12 q6 q7 q8 q9 q10 q11)):=by
 unfold Zy at V;refine gY (fn:=f194) rfl<|ge 1<|gr 2 (bi V λout f V=>?_);rcases out with _|_|_
 .have e:=Yy f;refine Zg e ?_;refine Qe 1<|Q6<|Qh<|Qh<|gp<|Qe 2<|Q6 ?_;refine E3 (by kernel_rfl) ?_;refine Qm<|Qh<|Qh<|gp<|Qe 3<|Q6<|Ql ?_;refine SF ?_;refine oU (st':=⟨kp 42 [(0,(.arr 5 0 2 2)),(1,(Nae 195)),(5,(Qd 0)),(6,(Qd 1))],(J3 q0 q1 q2 q3 q4 q5 q12 q6 q7 q8 q9 q10 q11)⟩) (by kernel_rfl) ?_;refine Qh<|Qh<|gp<|Qe 2<|Qe 1<|Qe 1<|Q6 ?_;refine L9 (by kernel_rfl) ?_;refine Qm<|Qh<|Ql<|Qh<|gp<|Qe 2<|Qe 1<|Qe 3<|Q6<|Qh<|gp<|Qe 2 ?_;obtain⟨g,f,V⟩:=Yf V;have e:=VF f [];refine XF e ?_;refine Qe 1<|Q6 ?_;refine TI V (Qhx _) (λV=>?_) (λV=>?_)
  .refine Qh<|gp<|Qe 3<|Qe 1<|Qe 1<|Q6<|gp<|Qe 3<|Q6<|gp<|Qe 3<|Q6 ?_;refine oU (st':=⟨kp 42 [(0,(.arr 5 0 2 2)),(1,(Nae 195)),(5,(Qd 1)),(6,(Qd 2))],[(Qz q0 q1),(Qz q2 q3),(Qz q4 q5),(.tok 60 q12),(Qz q6 q7),(.box [(La q10),(La q11),(La q10),(La q11)])]⟩) (by kernel_rfl) ?_;refine Qh<|Qh<|gp<|Qe 2<|Qe 1<|Qe 1<|Q6 ?_;refine E3 (by kernel_rfl) ?_;refine QD<|Qh<|gp<|Qe 2<|Qe 1<|Qe 1<|Q6<|Qh<|gp<|Qe 2<|Qe 1<|Qe 1 ?_;refine Q6<|Qn ?_;obtain rfl:=vz V;exact⟨trivial,RQ (by kernel_rfl) (by kernel_rfl)⟩
  refine Qm<|gp<|Qe 3<|Q6 ?_;refine oU (st':=⟨kp 42 [(0,(.arr 5 0 2 2)),(1,(Nae 195)),(5,(Qd 0)),(6,(Qd 2))],(J3 q0 q1 q2 q3 q4 q5 q12 q6 q7 q8 q9 q10 q11)⟩) (by kernel_rfl) ?_;refine Qh<|Qh<|gp<|Qe 2<|Qe 1<|Qe 1<|Q6 ?_;refine E3 (by kernel_rfl) ?_;refine QD<|Qh<|gp<|Qe 2<|Qe 1<|Qe 1<|Q6<|Qh<|gp<|Qe 2<|Qe 1<|Qe 1 ?_;refine Q6<|Qn ?_;obtain rfl:=vz V;exact⟨trivial,RQ (by kernel_rfl) (by kernel_rfl)⟩
 .have e:=Yy f;refine Zg e ?_;refine Qe 1<|Q6<|Qh<|Qh<|gp<|Qe 2<|Q6 ?_;refine E3 (by kernel_rfl) ?_;refine Qm<|Qh<|Qh<|gp<|Qe 3<|Q6<|Ql ?_;refine SF ?_;refine oU (st':=⟨kp 42 [(0,(.arr 5 0 2 2)),(1,(Nae 195)),(5,(Qd 1)),(6,(Qd 2))],(J3 q0 q1 q2 q3 q4 q5 q12 q6 q7 q8 q9 q10 q11)⟩) (by kernel_rfl) ?_;refine Qh<|Qh<|gp<|Qe 2<|Qe 1<|Qe 1<|Q6 ?_;refine E3 (by kernel_rfl) ?_;refine QD<|Qh<|gp<|Qe 2<|Qe 1<|Qe 1<|Q6<|Qh<|gp<|Qe 2<|Qe 1<|Qe 1 ?_;refine Q6<|Qn ?_;obtain rfl:=vz V;exact⟨trivial,RQ (by kernel_rfl) (by kernel_rfl)⟩
 .have e:=Yy f;refine Zg e ?_;refine Qe 1<|Q6<|Qh<|Qh<|gp<|Qe 2<|Q6 ?_;refine L9 (by kernel_rfl) ?_;refine Qh<|gp<|Qe 2<|Q6<|Qn ?_;obtain rfl:=vz V;exact⟨trivial,RQ (by kernel_rfl) (by kernel_rfl)⟩
def JP:(fJ×fJ×fJ×fJ×fJ×fJ×fJ×fJ×fJ×fJ×fJ×fJ×Nat)->Option ((fJ×fJ)⊕ Unit⊕ Unit)|(q0,q1,q2,q3,q4,q5,q6,q7,f,g,c,d,e)=>(Zy (q0,q1,q2,q3,q4,q5,q6,q7,f,g,c,d,e)>>=λ|.inl (j,v2)=>O (Naf (j,v2))|.inr (.inl _)=>O (Nag<|Naf ())|.inr (.inr _)=>O<|Nag<|Nag ())
def QcA{q0 q1 q2 q3 q4 q5 q6 q7 q8 q9 q10 q11 q12 r}(V:JP (q0,q1,q2,q3,q4,q5,q6,q7,q8,q9,q10,q11,q12)=O r):PC prog env 159 [(.arr 5 0 2 2)] (J3 q0 q1 q2 q3 q4 q5 q12 q6 q7 q8 q9 q10 q11) (match r with|.inl (c,d)=>(.arr 5 0 1 2)|.inr (.inl _)=>(.arr 5 0 0 2)|.inr (.inr _)=>(.arr 5 0 2 2)) (match r with|.inl (c,d)=>[(Qz q0 q1),(Qz q2 q3),(Qz q4 q5),(.tok 60 q12),(Qz q6 q7),(.box [(La c),(La d),Ea,Ea])]|.inr (.inl _)=>[(Qz q0 q1),(Qz q2 q3),(Qz q4 q5),(.tok 60 q12),(Qz q6 q7),(.box [Ea,Ea,Ea,Ea])]|.inr (.inr _)=>(J3 q0 q1 q2 q3 q4 q5 q12 q6 q7 q8 q9 q10 q11)):=by
 unfold JP at V;refine gY (fn:=f159) rfl<|ge 1<|gr 1 (bi V λout f V=>?_);rcases out with⟨g,v2⟩|_|_
 .have e:=Yk f;refine Zg e ?_;refine Qe 1<|Q6<|Qn ?_;obtain rfl:=vz V;exact⟨trivial,RQ (by kernel_rfl) (by kernel_rfl)⟩
 .have e:=Yk f;refine Zg e ?_;refine Qe 1<|Q6<|Qn ?_;obtain rfl:=vz V;exact⟨trivial,RQ (by kernel_rfl) (by kernel_rfl)⟩
 .have e:=Yk f;refine Zg e ?_;refine Qe 1<|Q6<|Qn ?_;obtain rfl:=vz V;exact⟨trivial,RQ (by kernel_rfl) (by kernel_rfl)⟩
def Xi:(Qo×Qo×Qo×fJ×fJ×(List Qo)×Int)->Option ((fJ×fJ×(List Qo)))|(p0,g,p1,d,e,f,c)=>if c<(I p0.lo:Int)then idx p0.lo c>>=λn=>idx g.lo c>>=λp=>Oh ((⟨d,e⟩:Qo),c,n,p)>>=λj=>idx g.hi c>>=λq=>idx p0.hi c>>=λr=>Oh ((⟨d,e⟩:Qo),c,q,r)>>=λk=>(JP (p0.lo,p0.hi,p1.lo,p1.hi,g.lo,g.hi,d,e,j.lo,j.hi,k.lo,k.hi,I f)>>=λ|.inl (s,t)=>app 48 f ([(⟨s,t⟩:Qo)]:List Qo)>>=λu=>idx g.lo c>>=λv=>idx g.hi c>>=λw=>Oh ((⟨d,e⟩:Qo),c,v,w)>>=λl=>Xi (p0,g,p1,l.lo,l.hi,u,(W<|c+1))|.inr (.inl _)=>app 48 f ([]:List Qo)>>=λy=>idx g.lo c>>=λz=>idx g.hi c>>=λA=>Oh ((⟨d,e⟩:Qo),c,z,A)>>=λm=>Xi (p0,g,p1,m.lo,m.hi,y,(W<|c+1))|.inr (.inr _)=>app 48 f ([j,k]:List Qo)>>=λB=>idx g.lo c>>=λC=>idx g.hi c>>=λv626=>Oh ((⟨d,e⟩:Qo),c,C,v626)>>=λv627=>Xi (p0,g,p1,v627.lo,v627.hi,B,(W<|c+1)))else O (d,e,f)
 partial_fixpoint
def Va:∀x r,Xi x=O r->match x with|(p0,s,p1,g,j,c,k)=>LQ f115 115 [1,1,1,1,1,0,1,0,0] 5 ⟨kp 79 [(2,(.ptr 0 0)),(5,(.ptr 2 0)),(7,(.vec 3<|(Naa Qo.b8) c)),(8,(.ptr 4 0)),(30,(Qd (I p0.lo:Int))),(31,(Qd k))],[(Qz p0.lo p0.hi),(Qz p1.lo p1.hi),(Qz s.lo s.hi),(.tok 60<|I c),(Qz g j)]⟩ (P1 (.exit 0) (λ(t,u,l) d=>⟨sl d 79 [(7,(.vec 3<|(Naa Qo.b8) l))],[(Qz p0.lo p0.hi),(Qz p1.lo p1.hi),(Qz s.lo s.hi),(.tok 60<|I l),(Qz t u)]⟩) r):=by
 refine Xi.partial_correctness _ (λXi Va x r V=>?_);obtain⟨p0,s,p1,g,j,c,k⟩:=x;refine lp<|ge 1<|Qh<|ri V (λV=>Qm<|Qh<|Ql<|ge 2<|Qh<|Zd<|Qe 6 (QE 1 Qg V λz V=>Qe 4 (QE 1 Qg V λA V=>Qe 1 (bi V λm e V=>cp (Vh e)<|Qe 5 (QE 1 Qg V λB V=>Qe 4 (QE 1 Qg V λC V=>Qe 1 (bi V λn e V=>cp (Vh e)<|Qe 1 (bi V λout e V=>?_)))))))) (λV=>QD zf);rcases out with⟨p,q⟩|_|_
 .have f:=QcA e;refine Zg f ?_;obtain⟨v,e,V⟩:=Yf V;refine YA 60 2 48 3 Qo.b8 c ([(⟨p,q⟩:Qo)]:List Qo) v (xs:=(Naa Qo.b8) c) (es:=(Naa Qo.b8) ([(⟨p,q⟩:Qo)]:List Qo)) (L:=(Naa Qo.b8)) yC rfl rfl Qo.fit e ?_;refine Qe 1 ?_;refine Q6 ⟨by kernel_rfl,?_⟩;refine Zd ?_;refine Qe 5 ?_;refine Sv 1 Qg V rfl yC (λD V=>?_);refine Qe 4 ?_;refine Sv 1 Qg V rfl yC (λE V=>?_);refine Qe 1 ?_;obtain⟨F,e,V⟩:=Yf V;have f:=Vh e [];refine XF f ?_;refine Qe 1 ?_;refine Q6 ⟨by kernel_rfl,?_⟩;refine gp<|Qe 2<|Q6 ?_;exact Va _ _ V _ (by kernel_rfl)
 .have f:=QcA e;refine Zg f ?_;obtain⟨w,e,V⟩:=Yf V;refine YA 60 2 48 3 Qo.b8 c ([]:List Qo) w (xs:=(Naa Qo.b8) c) (es:=(Naa Qo.b8) ([]:List Qo)) (L:=(Naa Qo.b8)) yC rfl rfl Qo.fit e ?_;refine Qe 1 ?_;refine Q6 ⟨by kernel_rfl,?_⟩;refine Zd ?_;refine Qe 5 ?_;refine Sv 1 Qg V rfl yC (λG V=>?_);refine Qe 4 ?_;refine Sv 1 Qg V rfl yC (λH V=>?_);refine Qe 1 ?_;obtain⟨K,e,V⟩:=Yf V;have f:=Vh e [];refine XF f ?_;refine Qe 1 ?_;refine Q6 ⟨by kernel_rfl,?_⟩;refine gp<|Qe 2<|Q6 ?_;exact Va _ _ V _ (by kernel_rfl)
 .have f:=QcA e;refine Zg f ?_;obtain⟨y,e,V⟩:=Yf V;refine YA 60 2 48 3 Qo.b8 c ([m,n]:List Qo) y (xs:=(Naa Qo.b8) c) (es:=(Naa Qo.b8) ([m,n]:List Qo)) (L:=(Naa Qo.b8)) yC rfl rfl Qo.fit e ?_;refine Qe 1 ?_;refine Q6 ⟨by kernel_rfl,?_⟩;refine Zd ?_;refine Qe 5 ?_;refine Sv 1 Qg V rfl yC (λM V=>?_);refine Qe 4 ?_;refine Sv 1 Qg V rfl yC (λv626 V=>?_);refine Qe 1 ?_;obtain⟨v627,e,V⟩:=Yf V;have f:=Vh e [];refine XF f ?_;refine Qe 1 ?_;refine Q6 ⟨by kernel_rfl,?_⟩;refine gp<|Qe 2<|Q6 ?_;exact Va _ _ V _ (by kernel_rfl)
def UC:(Qo×Qo)->Option (List Qo)|(p0,p1)=>XT ((⟨p0.lo,p0.hi⟩:Qo),(⟨p1.lo,p1.hi⟩:Qo))>>=λ(d,v2)=>if v2=U then Qy p0.lo>>=λe=>Qy p0.hi>>=λf=>(Wv (p0.lo,p0.hi,p1.lo,p1.hi,d.lo,d.hi,e,f)>>=λ|.inl _=>O ([]:(List Qo))|.inr _=>O ([(⟨e,f⟩:Qo)]:List Qo))else Xi (p0,d,p1,p0.lo,p0.hi,([]:List Qo),0)>>=λ(g,j,c)=>O c
def QhU{p0 p1 r0}(V:UC (p0,p1)=O r0):FQ 115 [(Qo.b8 p0),(Qo.b8 p1)] (O8 r0):=by
 unfold UC at V
 exact fp (fn:=f115) rfl<|ge 3<|gr 2 (sB V λn v2 c V=>cp (Qfh c)<|re 6<|Qh<|ge 2<|zb V (λV=>Qh<|Zd<|Qe 2 (bi V λg c V=>QA (v:=.b7 (Lb g)) rfl (λ_=>Rz (f:=154) (first:=#[]) (cap:=#[]) (e:=3) (ow':=[]) (ds:=[.ew ((Naa Qg) p0.lo)]) rfl kr kr kr kr (QF c)<|pR<|jx (e:=3) Qg g rfl yC kr)<|Qe 2 (bi V λj c V=>QA (v:=.b7 (Lb j)) rfl (λ_=>Rz (f:=154) (first:=#[]) (cap:=#[]) (e:=3) (ow':=[]) (ds:=[.ew ((Naa Qg) p0.hi)]) rfl kr kr kr kr (QF c)<|pR<|jx (e:=3) Qg j rfl yC kr)<|Qe 2 (bs V (λ_ c V=>Zg (Qez c)<|re 1 ⟨kr,Qn (by obtain rfl:=vz V;exact⟨trivial,Ym [(.arr 3 0 0 1)] kr<|xE kr⟩)⟩) λ_ c V=>Zg (Qez c)<|re 1 ⟨kr,Qn (by obtain rfl:=vz V;exact⟨trivial,Ym [(.arr 3 0 1 1)] kr<|xE kr⟩)⟩)))) (λV=>Qm<|ge 1<|ge 3<|Qh<|gr 2<|QM Qg p0.lo<|re 1<|Ql (kY V (Va _) λ⟨k,l,m⟩ d V=>ge 2<|Qn zf)))
def Xc:(fJ×fJ×fJ×(List Qa)×(List Qa)×Int×Qa×Int×Int×Int×fJ×Int×Int×Int×Int)->Option ((Int×Int×Int×fJ×Int×Int×Int))|(s,p1,t,p,p0,q,r,e,f,g,j,k,l,m,d)=>if d<(I s:Int)then idx s d>>=λn=>Jg ((⟨e,f,g,j,k,l,m⟩:Qj),d,n)>>=λc=>Xc (s,p1,t,p,p0,q,r,c.bx,c.bc,c.ek,c.bm,c.ed,c.dk,c.ep,(W<|d+1))else O (e,f,g,j,k,l,m)
 partial_fixpoint
def Qc4:∀x r,Xc x=O r->match x with|(A,p1,B,e,p0,f,c,g,j,k,l,m,n,p,q)=>LQ f68 68 [1,1,0,1,0,0,1,1,0,0,1,1,0,1,0,0] 3 ⟨kp 78 [(1,(La p1)),(2,(La B)),(3,(La A)),(9,(Jx e)),(11,(.ptr 1 0)),(12,(.ptr 2 0)),(18,(Q7 p0)),(19,(Qd (I p0:Int))),(20,(Qd f)),(26,(La A)),(27,(Qd (I A:Int))),(28,(Qd q))],[(.tok 62<|I e),(Zp c.box.lo c.box.hi c.be.bx c.be.bc c.be.ek c.be.bm c.be.ed c.be.dk c.be.ep),(QB g j k l m n p)]⟩ (P1 (.exit 2) (λ(s,t,u,v,w,y,z) d=>⟨sl d 78 [(1,(La p1)),(2,(La B)),(3,(La A)),(9,(Jx e)),(11,(.ptr 1 0)),(12,(.ptr 2 0)),(18,(Q7 p0)),(19,(Qd (I p0:Int))),(20,(Qd f))],[(.tok 62<|I e),(Zp c.box.lo c.box.hi c.be.bx c.be.bc c.be.ek c.be.bm c.be.ed c.be.dk c.be.ep),(QB s t u v w y z)]⟩) r):=by refine Xc.partial_correctness _ (λXc Qc4 x r V=>?_);obtain⟨A,p1,B,e,p0,f,c,g,j,k,l,m,n,p,q⟩:=x;exact lp<|ge 1<|Qh<|ri V (λV=>Qm<|Qh<|Ql<|gr 1 (QE 1 Qg V λC V=>re 3<|gp<|Qe 3 (bi V λD E V=>cp (QfG E)<|re 1<|gp<|re 2<|Qc4 _ _ V _ kr))) (λV=>QD zf)
def YI:((List Qa)×fJ×fJ×fJ×(List Qa)×Int)->Option ((List Qa))|(p0,r,p1,s,e,d)=>if d<(I p0:Int)then idx p0 d>>=λc=>Xc (r,p1,s,e,p0,d,c,c.be.bx,c.be.bc,c.be.ek,c.be.bm,c.be.ed,c.be.dk,c.be.ep,0)>>=λ(f,g,j,k,l,m,n)=>JY (c.box.lo,c.box.hi,s,r)>>=λp=>app 120 e ([(⟨p,(⟨f,g,j,k,l,m,n⟩:Qj)⟩:Qa)]:List Qa)>>=λq=>YI (p0,r,p1,s,q,(W<|d+1))else O e
 partial_fixpoint
def Qc3:∀x r,YI x=O r->match x with|(p0,t,p1,u,c,p)=>LQ f68 68 [1,1,0,1,0,0] 1 ⟨kp 78 [(1,(La p1)),(2,(La u)),(3,(La t)),(9,(Jx c)),(18,(Q7 p0)),(19,(Qd (I p0:Int))),(20,(Qd p))],[(.tok 62<|I c)]⟩ (P1 (.exit 0) (λq d=>⟨sl d 78 [(1,(La p1)),(2,(La u)),(3,(La t)),(9,(Jx q))],[(.tok 62<|I q)]⟩) r):=by refine YI.partial_correctness _ (λYI Qc3 x r V=>?_);obtain⟨p0,t,p1,u,c,p⟩:=x;exact lp<|ge 1<|Qh<|ri V (λV=>Qm<|Qh<|Ql<|Qh<|gp (QE 9 Qa.b8 V λw V=>re 3<|ge 4<|Qh<|gr 1<|QM Qg t<|re 1<|Ql (kY V (Qc4 _) λ⟨e,f,g,j,k,l,m⟩ d V=>Zd<|Qe 9 (bi V λn v V=>cp (Qfj v)<|Qe 3 (bi V λs v V=>YA 62 9 120 0 Qa.b8 c ([(⟨n,(⟨e,f,g,j,k,l,m⟩:Qj)⟩:Qa)]:List Qa) s (xs:=(Naa Qa.b8) c) (es:=(Naa Qa.b8) ([(⟨n,(⟨e,f,g,j,k,l,m⟩:Qj)⟩:Qa)]:List Qa)) (L:=(Naa Qa.b8)) yC rfl rfl Qa.fit v<|re 1 ⟨kr,gp<|re 2<|Qc3 _ _ V _ kr⟩))))) (λV=>QD zf)
def Xd:((List Qo)×Qo×(List Qa)×Int)->Option ((List Qa))|(c,f,e,d)=>if d<(I c:Int)then idx c d>>=λg=>app 120 e ([(⟨g,(⟨1,0,0,([]:fJ),0,0,0⟩:Qj)⟩:Qa)]:List Qa)>>=λj=>Xd (c,f,j,(W<|d+1))else O e
 partial_fixpoint
def Qc5:∀x r,Xd x=O r->match x with|(f,c,e,g)=>LQ f68 68 [1,1,1,1,0,1,0,0] 2 ⟨kp 78 [(9,(Jx e)),(63,(O8 f)),(64,(Qd (I f:Int))),(65,(Qd g))],[(.tok 62<|I e),(Qz c.lo c.hi)]⟩ (P1 (.exit 4) (λj d=>⟨sl d 78 [(9,(Jx j))],[(.tok 62<|I j),(Qz c.lo c.hi)]⟩) r):=by refine Xd.partial_correctness _ (λXd Qc5 x r V=>?_);obtain⟨f,c,e,g⟩:=x;exact lp<|ge 1<|Qh<|ri V (λV=>Qm<|Qh<|Ql<|Qh<|gp (QE 2 Qo.b8 V λk V=>re 3<|gp<|Qe 5 (bi V λl m V=>YA 62 9 120 0 Qa.b8 e ([(⟨k,(⟨1,0,0,([]:fJ),0,0,0⟩:Qj)⟩:Qa)]:List Qa) l (xs:=(Naa Qa.b8) e) (es:=(Naa Qa.b8) ([(⟨k,(⟨1,0,0,([]:fJ),0,0,0⟩:Qj)⟩:Qa)]:List Qa)) (L:=(Naa Qa.b8)) yC rfl rfl Qa.fit m<|re 1<|gp<|re 2<|Qc5 _ _ V _ kr))) (λV=>QD zf)
def UY:((List Qa)×fJ×fJ×fJ)->Option (List Qa)|(p0,p1,m,p)=>YI (p0,p,p1,m,([]:List Qa),0)>>=λl=>kj 8 (I m:Int) 0>>=λd=>JY (d,p1,m,p)>>=λc=>Xa m>>=λ(n,e,f)=>UC ((⟨e,f⟩:Qo),c)>>=λg=>Xd (g,c,l,0)>>=λj=>ZI j>>=λk=>O k
def Qg1{p0 p1 p2 p3 r0}(V:UY (p0,p1,p2,p3)=O r0):FQ 68 [(.ew<|(Naa Qa.b8) p0),(Lb p1),(Lb p2),(Lb p3)] (Q7 r0):=by
 unfold UY at V
 exact fp (fn:=f68) rfl<|ge 1<|ge 1<|Qh<|gr 1<|QM Qa.b8 p0<|re 1<|Ql (kY V (Qc3 _) λu d V=>gr 1<|QM Qg p2 (bi V λm l V=>QA (v:=.b7 (.ew<|Naa Qg m)) rfl (by intro K w;exact Qh8 Qg (z:=0) (n:=(I p2:Int)) (bytes:=8) (j:=8000) (e':=3) (os:=[]) l (e:=3) kr kr kr kr rfl rfl kr kr kr w)<|Qe 3 (bi V λr l V=>cp (Qfj l)<|re 2<|Qh<|Qh<|Zd<|Qe 1 (N9 V λk c g l V=>QA (v:=.b7 (.agg [(Lb c),(Lb g)])) rfl (λ_=>Rz (f:=111) (first:=#[]) (cap:=#[]) (e:=3) (ow':=[]) (ds:=[(Lb p2)]) (p:=(.agg [(.ms 1 k 0 (I c)<|I c),(.ms 2 1 0 (I g)<|I g)])) (H1:=(Uu k (I c) (I g) c g)) rfl kr kr kr kr (VP l)<|xx<|gk (jx (e:=3) Qg c rfl yC kr)<|gk (jx (e:=3) Qg g rfl yC kr) mu)<|Qe 1 (bi V λq l V=>cp (QhU l)<|QM Qo.b8 q<|re 1 ⟨kr,Ql (kY V (Qc5 _) λs d V=>gr 1 (bi V λt l V=>cp (JT l)<|re 1<|Qn zf))⟩)))))
def VC:(Qr×(List<|List Qa))->Option (List Qa)|(p0,p1)=>idx p1 0>>=λc=>idx p0.ea 0>>=λv2=>UY (c,v2.aa,p0.aa,p0.cx)>>=λd=>O d
def Qf2{p0 p1 r0}(V:VC (p0,p1)=O r0):FQ 67 [(Qr.ex p0),(.ew<|(Naa (λl=>fS.ew<|(Naa Qa.b8) l)) p1)] (Q7 r0):=by unfold VC at V;exact fp (fn:=f67) rfl<|ge 2<|Qh<|Zd<|Qe 1 (bi V λe c V=>X9 1 (λl=>fS.ew<|(Naa Qa.b8) l) p1 0 e (es:=(Naa (λl=>fS.ew<|(Naa Qa.b8) l)) p1) (d:=(.ew<|(Naa Qa.b8) e)) rfl c rfl rfl<|Qe 3 (bi V λv2 c V=>X9 8 Qr.b8 p0.ea 0 v2 (es:=Qr.hE p0.ea) (d:=(Qr.ex v2)) (Qr.fa _) c (Qr.i6 v2) rfl<|Qe 6 (bi V λf c V=>cp (Qg1 c)<|re 1 ⟨kr,Qn zf⟩)))
def YC:(Int×Int×Int×Int×Int×fJ×Int×Int×Int×Int×fJ×Int)->Option Int|(q0,q1,q2,q3,q4,q5,q6,q7,e,f,c,d)=>idx c q0>>=λg=>idx c q0>>=λv2=>O<|W<|d+(W<|q1*v2)
def Qem{q0 q1 q2 q3 q4 q5 q6 q7 q8 q9 q10 q11 v5001}(V:YC (q0,q1,q2,q3,q4,q5,q6,q7,q8,q9,q10,q11)=O v5001):PC prog env 158 [(.ptr 8 0),(Qd q0),(Qd q1)] (KF q2 q3 q4 q5 q6 q7 q8 q0 q9 q10 q11<|I q10) (.fz []) (KF q2 q3 q4 q5 q6 q7 q8 q0 q9 q10 v5001<|I q10):=by unfold YC at V;exact gY (fn:=f158) rfl<|Zd<|Qe 10 (bi V λd c V=>QA rfl (λ_=>QR (e:=3) (n:=q0) (j:=(q0).toNat) (tt:=7) (g:=1) (lo:=0) (len:=I q10) (cap:=I q10) (k:=.i64) kr kr rfl kr kr (gw c)<|zB (gJ c) rfl) (bi V λv2 c V=>QA rfl (λ_=>Ye (tt:=7) (g:=1) (j:=(0+(q0).toNat)) (e:=3) (cs:=cellsOf Qg q10) (v:=.b7 (Qg v2)) kr kr rfl kr (Zt kr)<|gM Qg c)<|re 5 ⟨kr,zf⟩))
def YQ:(Int×Int×Int×Int×Int×fJ×Int×Int×Int×fJ×Int)->Option ((fJ×Int))|(q0,q1,q2,q3,q4,q5,q6,q7,e,c,d)=>YC (q0,(W<|q1 - 1),q2,q3,q4,q5,q6,q7,e,q1,c,d)>>=λf=>idx c q0>>=λv2=>idx c q0>>=λg=>idx c q0>>=λk=>iM c q0 (W<|0 - g)>>=λj=>O (j,f)
def Qev{q0 q1 q2 q3 q4 q5 q6 q7 q8 q9 q10 v5001 v5002}(V:YQ (q0,q1,q2,q3,q4,q5,q6,q7,q8,q9,q10)=O (v5001,v5002)):PC prog env 162 [(.ptr 8 0),(Qd q0),(Qd q1)] (KF q2 q3 q4 q5 q6 q7 q8 q0 q1 q9 q10<|I q9) (.fz []) (KF q2 q3 q4 q5 q6 q7 q8 q0 q1 v5001 v5002<|I q9):=by unfold YQ at V;exact gY (fn:=f162) rfl<|gr 4 (bi V λm c V=>Zg (Qem c)<|Q6<|Zd<|Qe 10 (bi V λv2 c V=>QA rfl (λ_=>QR (e:=3) (n:=q0) (j:=(q0).toNat) (tt:=7) (g:=1) (lo:=0) (len:=I q9) (cap:=I q9) (k:=.i64) kr kr rfl kr kr (gw c)<|zB (gJ c) rfl) (bi V λd c V=>QA rfl (λ_=>Ye (tt:=7) (g:=1) (j:=(0+(q0).toNat)) (e:=3) (cs:=cellsOf Qg q9) (v:=.b7 (Qg d)) kr kr rfl kr (Zt kr)<|gM Qg c)<|Qe 1 (bi V λp c V=>QA rfl (λ_=>QR (e:=3) (n:=q0) (j:=(q0).toNat) (tt:=7) (g:=1) (lo:=0) (len:=I q9) (cap:=I q9) (k:=.i64) kr kr rfl kr kr (gw c)<|zB (gJ c) rfl) (bi V λf c V=>Zb (λH=>H.set 7<|QI f) rfl kr (λ_=>Js Qg (l:=q9) (n:=q0) (y:=(W<|0 - d)) c yC kr rfl kr kr kr kr)<|Q6 ⟨kr,zf⟩)))))
end
def X0:(Int×Int×Int×fJ×Int×Int×Int×Int×Int×fJ×Int)->Option ((fJ×Int))|(q0,q1,q2,q3,q4,q5,q6,q7,d,e,c)=>YQ (q7,d,q0,q1,q2,q3,q4,q5,q6,e,c)>>=λ(f,v2)=>O (f,v2)
def Qfn{q0 q1 q2 q3 q4 q5 q6 q7 q8 q9 q10 v5001 v5002}(V:X0 (q0,q1,q2,q3,q4,q5,q6,q7,q8,q9,q10)=O (v5001,v5002)):PC prog env 161 [(.ptr 8 0),(.ptr 1 0),(.ptr 2 0)] (KF q0 q1 q2 q3 q4 q5 q6 q7 q8 q9 q10<|I q9) (.fz []) (KF q0 q1 q2 q3 q4 q5 q6 q7 q8 v5001 v5002<|I q9):=by unfold X0 at V;exact gY (fn:=f161) rfl<|Zd<|Qe 5 (sB V λd v2 c V=>Zg (Qev c)<|Q6 ⟨kr,zf⟩)
def Yh:(Int×Int×Int×fJ×Int×Int×Int×Int×Int×fJ×Int×Nat)->Option ((Int×Int×Int×Int×Int×Int))|(q0,q1,q2,q3,q4,q5,q6,q7,e,f,c,d)=>if q0=3 then O (q2,c,q2,c,q2,c)else O (c,q4,c,q4,c,q4)
def Qd2{q0 q1 q2 q3 q4 q5 q6 q7 q8 q9 q10 q11 v5001 v5002 v5003 v5004 v5005 v5006}(V:Yh (q0,q1,q2,q3,q4,q5,q6,q7,q8,q9,q10,q11)=O (v5001,v5002,v5003,v5004,v5005,v5006)):PC prog env 193 [(.ptr 8 0)] (KF q0 q1 q2 q3 q4 q5 q6 q7 q8 q9 q10 q11) (.agg [(Qd q0),(Qd q1),(Qd v5005),(.ms 7 1 0 q11 q11),(Qd v5006),(Qd q5),(Qd q6)]) [(QB q0 q1 q2 q3 q4 q5 q6),(.box [(Qd q7)]),(.box [(Qd q8)]),Za,(QB q0 q1 q2 q3 q4 q5 q6),Za,(QB q0 q1 q2 q3 q4 q5 q6),(QI q9),(Oa q10 q11 q0 q1 q2 q3 q4 q5 q6),(Of q0 q1 v5001 q11 v5002 q5 q6),(Of q0 q1 v5003 q11 v5004 q5 q6)]:=by unfold Yh at V;exact gY (fn:=f193) rfl<|ge 1<|ge 6<|ge 7<|Qh<|ge 3<|mQ V (λV=>gp<|re 7<|ge 2<|Qn zf) (λV=>gp<|re 7<|ge 2<|Qn zf)
def Jj:(Int×Int×Int×fJ×Int×Int×Int×Int×Int)->Option (Unit⊕ (fJ×Int×Nat×Int×Int×Nat×Int×Nat×Int×Int×Nat×Int×Int×Nat×Int))|(q0,q1,q2,q3,q4,q5,q6,q7,e)=>if q0=1 then O (Naf ())else XR (q0,q1,q2,q3,q4,q5,q6,q7,e)>>=λ(c,v2)=>X0 (q0,q1,q2,q3,q4,q5,q6,q7,e,c,v2)>>=λ(f,g)=>Yh (q0,q1,q2,q3,q4,q5,q6,q7,e,f,g,I c)>>=λ(k,l,m,n,j,d)=>O<|Nag (f,j,I c,d,g,I c,k,I c,l,m,I c,n,j,I c,d)
def Qd0{q0 q1 q2 q3 q4 q5 q6 q7 q8 r}(V:Jj (q0,q1,q2,q3,q4,q5,q6,q7,q8)=O r):PC prog env 156 [(Ld q0 q1 q2 q3 q4 q5 q6),(.fn 161 [(.ptr 1 0),(.ptr 2 0)])] [(QB q0 q1 q2 q3 q4 q5 q6),(.box [(Qd q7)]),(.box [(Qd q8)]),Za] (match r with|.inl _=>(Ld q0 q1 q2 q3 q4 q5 q6)|.inr ((d,e,f,g,j,k,l,m,n,p,q,s,t,c,u))=>(.agg [(Qd q0),(Qd q1),(Qd t),(.ms 7 1 0 c c),(Qd u),(Qd q5),(Qd q6)])) (match r with|.inl _=>(QhQ q0 q1 q2 q3 q4 q5 q6 q7 q8)|.inr ((d,e,f,g,j,k,l,m,n,p,q,s,t,c,u))=>[(QB q0 q1 q2 q3 q4 q5 q6),(.box [(Qd q7)]),(.box [(Qd q8)]),Za,(QB q0 q1 q2 q3 q4 q5 q6),(Of q0 q1 e f g q5 q6),(QB q0 q1 q2 q3 q4 q5 q6),(QI d),(Oa j k q0 q1 q2 q3 q4 q5 q6),(Of q0 q1 l m n q5 q6),(Of q0 q1 p q s q5 q6)]):=by unfold Jj at V;exact gY (fn:=f156) rfl<|ge 2<|Qh<|ge 3<|mQ V (λV=>ge 2<|Qn zf) (λV=>Qm<|gr 1 (sB V λx v2 v V=>Zg (Qee v)<|re 1<|gr 2 (sB V λy z v V=>Zg (Qfn v)<|Q6<|gr 1 (Uo V λA B C D E w v V=>Zg (Qd2 v)<|re 1<|Qn zf))))
def T6:(Qj×Int×Int)->Option Qj|(p0,p1,g)=>(Jj (p0.bx,p0.bc,p0.ek,p0.bm,p0.ed,p0.dk,p0.ep,p1,g)>>=λ|.inl _=>O p0|.inr ((f,v2,m,n,p,q,r,s,t,j,k,l,c,d,e))=>QN (I f=d)>>=λ_=>O (⟨p0.bx,p0.bc,c,f,e,p0.dk,p0.ep⟩:Qj))
def Qhd{p0 p1 p2 r0}(V:T6 (p0,p1,p2)=O r0):FQ 118 [(Qj.b8 p0),(Qg p1),(Qg p2)] (.b7<|Qj.b8 r0):=by unfold T6 at V;exact fp (fn:=f118) rfl<|ge 4<|gr 2 (bs V (λ_ f V=>Zg (Qd0 f)<|re 1<|Qn zf) λ⟨k,v2,p,q,r,s,t,u,v,l,m,n,g,c,j⟩ f V=>Zg (Qd0 f)<|re 1<|Qn (gi V λd V=>(by obtain rfl:=vz V;exact⟨trivial,Ym [(.agg [(Qd p0.bx),(Qd p0.bc),(Qd g),(.ms 7 1 0 c c),(Qd j),(Qd p0.dk),(Qd p0.ep)])] kr<|qM<|gk kr<|gk kr<|gk kr<|gk (jx (e:=3) Qg k d yC kr)<|gk kr<|gk kr<|gk kr mu⟩)))
def Jq:(Int×Int×Int×fJ×fJ×Int×Int×Int×fJ×Int×Int×Int×fJ×fJ×Nat)->Option Unit|(q0,q1,q2,q3,q4,q5,q6,q7,j,k,c,d,e,f,g)=>O ()
def Qe6{q0 q1 q2 q3 q4 q5 q6 q7 q8 q9 q10 q11 q12 q13 q14}(V:Jq (q0,q1,q2,q3,q4,q5,q6,q7,q8,q9,q10,q11,q12,q13,q14)=O ()):PC prog env 117 [(Qd q0),(Qd q1),(.eI [(Qg q2)])] [(.tok 62 q14),(Zp q3 q4 q5 q6 q7 q8 q9 q10 q11),(Zp q3 q4 q5 q6 q7 q8 q9 q10 q11),RY,(QI q12),(QI q13),(TG (I q12)<|I q13)] (.fz [(Qd<|W<|q2 - q1),(Qd<|W<|q2 - q0)]) [(.tok 62 q14),(Zp q3 q4 q5 q6 q7 q8 q9 q10 q11),(Zp q3 q4 q5 q6 q7 q8 q9 q10 q11),RY,(QI q12),(QI q13),(TG (I q12)<|I q13)]:=by unfold Jq at V;exact gY (fn:=f117) rfl<|ge 2<|Qh<|Zd<|re 8 ⟨kr,Qn zf⟩
def JS:(fJ×fJ×Int×Int×Int×fJ×Int×Int×Int×Int×Int×Int×Int×Int×fJ×Int×Int×Int×Nat)->Option ((fJ×fJ×Nat×Nat×fJ×fJ))|(q0,q1,q2,q3,q4,q5,q6,q7,m,c,d,n,p,q,r,s,t,u,g)=>Qy q0>>=λe=>Qy q1>>=λv2=>idx e c>>=λv=>idx e c>>=λk=>idx v2 c>>=λw=>idx v2 c>>=λl=>Jq (k,l,d,q0,q1,q2,q3,q4,q5,q6,q7,m,e,v2,g)>>=λ_=>idx e c>>=λy=>iM e c (W<|d - l)>>=λj=>idx v2 c>>=λz=>iM v2 c (W<|d - k)>>=λf=>QN (I j=I e)>>=λ_=>QN (I f=I v2)>>=λ_=>O (j,f,I e,I v2,j,f)
def Qf9{q0 q1 q2 q3 q4 q5 q6 q7 q8 q9 q10 q11 q12 q13 q14 q15 q16 q17 q18 v5001 v5002 v5003 v5004 v5005 v5006}(V:JS (q0,q1,q2,q3,q4,q5,q6,q7,q8,q9,q10,q11,q12,q13,q14,q15,q16,q17,q18)=O (v5001,v5002,v5003,v5004,v5005,v5006)):PC prog env 116 [(R6 q0 q1 q2 q3 q4 q5 q6 q7 q8),(Qd q9),(.fn 117 [(.eI [(Qg q10)])]),(Ld q11 q12 q13 q14 q15 q16 q17)] [(.tok 62 q18),(Zp q0 q1 q2 q3 q4 q5 q6 q7 q8)] (R6 v5005 v5006 q11 q12 q13 q14 q15 q16 q17) [(.tok 62 q18),(Zp q0 q1 q2 q3 q4 q5 q6 q7 q8),(Zp q0 q1 q2 q3 q4 q5 q6 q7 q8),(Zp v5001 v5002 q11 q12 q13 q14 q15 q16 q17),UI,UI,(TG v5003 v5004)]:=by
 unfold JS at V
 exact gY (fn:=f116) rfl<|ge 3<|Qh<|Zd<|Qe 3 (bi V λd c V=>go 4 3 Qg (QF c)<|Qe 3 (bi V λv2 c V=>go 5 3 Qg (QF c)<|re 3 ⟨kr,Qh<|Zd<|Qe 10 (bi V λu c V=>QA rfl (λ_=>QR (e:=3) (n:=q9) (j:=(q9).toNat) (tt:=4) (g:=1) (lo:=0) (len:=I d) (cap:=I d) (k:=.i64) kr kr rfl kr kr (gw c)<|zB (gJ c) rfl) (bi V λr c V=>QA rfl (λ_=>Ye (tt:=4) (g:=1) (j:=(0+(q9).toNat)) (e:=3) (cs:=cellsOf Qg d) (v:=.b7 (Qg r)) kr kr rfl kr (Zt kr)<|gM Qg c)<|Qe 3 (bi V λw c V=>QA rfl (λ_=>QR (e:=3) (n:=q9) (j:=(q9).toNat) (tt:=5) (g:=1) (lo:=0) (len:=I v2) (cap:=I v2) (k:=.i64) kr kr rfl kr kr (gw c)<|zB (gJ c) rfl) (bi V λs c V=>QA rfl (λ_=>Ye (tt:=5) (g:=1) (j:=(0+(q9).toNat)) (e:=3) (cs:=cellsOf Qg v2) (v:=.b7 (Qg s)) kr kr rfl kr (Zt kr)<|gM Qg c) (bi V λ_ c V=>Qis (f:=117) (caps:=[(.eI [(Qg q10)])]) (j:=6000) (e:=3) (ow':=[]) (Qe6 c) (Qe 3 (bi V λx c V=>QA rfl (λ_=>QR (e:=3) (n:=q9) (j:=(q9).toNat) (tt:=4) (g:=1) (lo:=0) (len:=I d) (cap:=I d) (k:=.i64) kr kr rfl kr kr (gw c)<|zB (gJ c) rfl) (bi V λt c V=>Zb (λH=>H.set 4<|QI t) rfl kr (λ_=>Js Qg (l:=d) (n:=q9) (y:=(W<|q10 - s)) c yC kr rfl kr kr kr kr) (bi V λz c V=>QA rfl (λ_=>QR (e:=3) (n:=q9) (j:=(q9).toNat) (tt:=5) (g:=1) (lo:=0) (len:=I v2) (cap:=I v2) (k:=.i64) kr kr rfl kr kr (gw c)<|zB (gJ c) rfl) (bi V λm c V=>Zb (λH=>H.set 5<|QI m) rfl kr (λ_=>Js Qg (l:=v2) (n:=q9) (y:=(W<|q10 - r)) c yC kr rfl kr kr kr kr)<|Q6 ⟨kr,Qh<|gp (gi V λp V=>gi V λq V=>Zb (v:=(.b7<|.agg [(Lb t),(Lb m)])) (λH=>((H.set 4<|.mt 3 (1+1) []).set 5<|.mt 3 (1+1) [])) rfl kr (λ_=>T2 (n:=2) (i:=6) (off:=0) (bs:=[(.ms 4 1 0 (I d)<|I d),(.ms 5 1 0 (I v2)<|I v2)]) (cs:=[(.ms 4 1 0 (I d)<|I d),(.ms 5 1 0 (I v2)<|I v2)]) rfl rfl kr kr kr kr kr rfl<|sJ Qg yC kr p<|sJ Qg yC kr q uA)<|re 3<|Qn zf)⟩))))) rfl rfl kr kr kr kr kr)))))⟩))
def Z2:((List Qa)×Int×Int×(List Qa)×Int)->Option ((List Qa))|(p0,p1,l,e,f)=>if f<(I p0:Int)then idx p0 f>>=λc=>T6 (c.be,p1,l)>>=λd=>JS (c.box.lo,c.box.hi,c.be.bx,c.be.bc,c.be.ek,c.be.bm,c.be.ed,c.be.dk,c.be.ep,p1,l,d.bx,d.bc,d.ek,d.bm,d.ed,d.dk,d.ep,I e)>>=λ(m,n,p,q,g,j)=>app 120 e ([(⟨(⟨g,j⟩:Qo),d⟩:Qa)]:List Qa)>>=λk=>Z2 (p0,p1,l,k,(W<|f+1))else O e
 partial_fixpoint
def QcB:∀x r,Z2 x=O r->match x with|(p0,p1,n,c,e)=>LQ f70 70 [1,1,0,1,0,0] 1 ⟨kp 31 [(1,(Qd p1)),(5,(.eI [(Qg n)])),(7,(Jx c)),(10,(Q7 p0)),(11,(Qd (I p0:Int))),(12,(Qd e))],[(.tok 62<|I c)]⟩ (P1 (.exit 0) (λf d=>⟨sl d 31 [(7,(Jx f))],[(.tok 62<|I f)]⟩) r):=by refine Z2.partial_correctness _ (λZ2 QcB x r V=>?_);obtain⟨p0,p1,n,c,e⟩:=x;exact lp<|ge 1<|Qh<|ri V (λV=>Qm<|Qh<|Ql<|Qh<|gp (QE 9 Qa.b8 V λp V=>re 3<|Zd<|Qe 8 (bi V λg l V=>cp (Qhd l) (Uo V λq s t u j k l V=>Zg (Qf9 l)<|Qe 1 (bi V λm l V=>YA 62 9 120 0 Qa.b8 c ([(⟨(⟨j,k⟩:Qo),g⟩:Qa)]:List Qa) m (xs:=(Naa Qa.b8) c) (es:=(Naa Qa.b8) ([(⟨(⟨j,k⟩:Qo),g⟩:Qa)]:List Qa)) (L:=(Naa Qa.b8)) yC rfl rfl Qa.fit l<|re 1 ⟨kr,gp<|re 2<|QcB _ _ V _ kr⟩))))) (λV=>QD zf)
def Ul:((List Qa)×Int×Int)->Option (List Qa)|(p0,p1,e)=>Z2 (p0,p1,e,([]:List Qa),0)>>=λc=>ZI c>>=λd=>O d
def QgH{p0 p1 p2 r0}(V:Ul (p0,p1,p2)=O r0):FQ 70 [(.ew<|(Naa Qa.b8) p0),(Qg p1),(Qg p2)] (Q7 r0):=by unfold Ul at V;exact fp (fn:=f70) rfl<|ge 2<|ge 1<|Qh<|gr 1<|QM Qa.b8 p0<|re 1<|Ql (kY V (QcB _) λc d V=>gr 1 (bi V λe f V=>cp (JT f)<|re 1<|Qn zf))
def Wf:(Qr×(List<|List Qa))->Option (List Qa)|(p0,p1)=>idx p1 0>>=λc=>idx p0.aa p0.ch>>=λv2=>Ul (c,p0.ch,v2)>>=λd=>O d
def Qf3{p0 p1 r0}(V:Wf (p0,p1)=O r0):FQ 69 [(Qr.ex p0),(.ew<|(Naa (λl=>fS.ew<|(Naa Qa.b8) l)) p1)] (Q7 r0):=by unfold Wf at V;exact fp (fn:=f69) rfl<|ge 2<|Qh<|Zd<|Qe 1 (bi V λe c V=>X9 1 (λl=>fS.ew<|(Naa Qa.b8) l) p1 0 e (es:=(Naa (λl=>fS.ew<|(Naa Qa.b8) l)) p1) (d:=(.ew<|(Naa Qa.b8) e)) rfl c rfl rfl<|Qe 7 (QE 1 Qg V λv2 V=>Qe 1 (bi V λf c V=>cp (QgH c)<|re 1 ⟨kr,Qn zf⟩)))
def JU:(Int×Int×Int×Int×Int×fJ×fJ×Int×Int×Int×fJ×Int×Int×Int×fJ×fJ)->Option Unit|(q0,q1,q2,q3,q4,q5,q6,q7,k,l,c,d,e,f,g,j)=>O ()
def Qfp{q0 q1 q2 q3 q4 q5 q6 q7 q8 q9 q10 q11 q12 q13 q14 q15}(V:JU (q0,q1,q2,q3,q4,q5,q6,q7,q8,q9,q10,q11,q12,q13,q14,q15)=O ()):PC prog env 163 [(Qd q0),(Qd q1),(.eI [(Qg q2)]),(.eI [(Qg q3)]),(.eI [(Qg q4)])] [(Zp q5 q6 q7 q8 q9 q10 q11 q12 q13),RY,(Zp q5 q6 q7 q8 q9 q10 q11 q12 q13),RY,(QI q14),(QI q15),(TG (I q14)<|I q15)] (.fz [(Qd<|W<|(if q3<(if q0<q2 then q2 else q0)then q3 else(if q0<q2 then q2 else q0))+q4),(Qd<|W<|(if(if q3<(if q0<q2 then q2 else q0)then q3 else(if q0<q2 then q2 else q0))<(if q3<q1 then q3 else q1)then(if q3<q1 then q3 else q1)else(if q3<(if q0<q2 then q2 else q0)then q3 else(if q0<q2 then q2 else q0)))+q4)]) [(Zp q5 q6 q7 q8 q9 q10 q11 q12 q13),RY,(Zp q5 q6 q7 q8 q9 q10 q11 q12 q13),RY,(QI q14),(QI q15),(TG (I q14)<|I q15)]:=by unfold JU at V;exact gY (fn:=f163) rfl<|ge 2<|gr 2<|QA rfl (λ_=>Ki (k:=.i64) (m:=q0) (n:=q2) rfl kr kr)<|Qe 1<|QA rfl (λ_=>Hf (k:=.i64) (m:=(if q0<q2 then q2 else q0)) (n:=q3) rfl kr kr)<|re 1<|Qh<|Zd<|Qe 6<|QA rfl (λ_=>Hf (k:=.i64) (m:=q1) (n:=q3) rfl kr kr)<|QA rfl (λ_=>Ki (k:=.i64) (m:=(if q3<(if q0<q2 then q2 else q0)then q3 else(if q0<q2 then q2 else q0))) (n:=(if q3<q1 then q3 else q1)) rfl kr kr)<|re 4 ⟨kr,Qn zf⟩
def V2:(fJ×fJ×Int×Int×Int×fJ×Int×Int×Int×Int×Int×Int×Int×Int×Int×Int×fJ×Int×Int×Int)->Option ((fJ×fJ×Nat×Nat×fJ×fJ))|(q0,q1,q2,q3,q4,q5,q6,q7,n,f,c,d,g,p,q,r,s,t,u,v)=>Qy q0>>=λj=>Qy q1>>=λv2=>idx j f>>=λw=>idx j f>>=λe=>idx v2 f>>=λy=>idx v2 f>>=λl=>JU (e,l,c,d,g,q0,q1,q2,q3,q4,q5,q6,q7,n,j,v2)>>=λ_=>idx j f>>=λz=>iM j f (W<|(if d<(if e<c then c else e)then d else(if e<c then c else e))+g)>>=λm=>idx v2 f>>=λA=>iM v2 f (W<|(if(if d<(if e<c then c else e)then d else(if e<c then c else e))<(if d<l then d else l)then(if d<l then d else l)else(if d<(if e<c then c else e)then d else(if e<c then c else e)))+g)>>=λk=>QN (I m=I j)>>=λ_=>QN (I k=I v2)>>=λ_=>O (m,k,I j,I v2,m,k)
def Qga{q0 q1 q2 q3 q4 q5 q6 q7 q8 q9 q10 q11 q12 q13 q14 q15 q16 q17 q18 q19 v5001 v5002 v5003 v5004 v5005 v5006}(V:V2 (q0,q1,q2,q3,q4,q5,q6,q7,q8,q9,q10,q11,q12,q13,q14,q15,q16,q17,q18,q19)=O (v5001,v5002,v5003,v5004,v5005,v5006)):PC prog env 116 [(R6 q0 q1 q2 q3 q4 q5 q6 q7 q8),(Qd q9),(.fn 163 [(.eI [(Qg q10)]),(.eI [(Qg q11)]),(.eI [(Qg q12)])]),(Ld q13 q14 q15 q16 q17 q18 q19)] [(Zp q0 q1 q2 q3 q4 q5 q6 q7 q8),RY] (R6 v5005 v5006 q13 q14 q15 q16 q17 q18 q19) [(Zp q0 q1 q2 q3 q4 q5 q6 q7 q8),RY,(Zp q0 q1 q2 q3 q4 q5 q6 q7 q8),(Zp v5001 v5002 q13 q14 q15 q16 q17 q18 q19),UI,UI,(TG v5003 v5004)]:=by
 unfold V2 at V
 exact gY (fn:=f116) rfl<|ge 3<|Qh<|Zd<|Qe 3 (bi V λm c V=>go 4 3 Qg (QF c)<|Qe 3 (bi V λv2 c V=>go 5 3 Qg (QF c)<|re 3 ⟨kr,Qh<|Zd<|Qe 10 (bi V λu c V=>QA rfl (λ_=>QR (e:=3) (n:=q9) (j:=(q9).toNat) (tt:=4) (g:=1) (lo:=0) (len:=I m) (cap:=I m) (k:=.i64) kr kr rfl kr kr (gw c)<|zB (gJ c) rfl) (bi V λd c V=>QA rfl (λ_=>Ye (tt:=4) (g:=1) (j:=(0+(q9).toNat)) (e:=3) (cs:=cellsOf Qg m) (v:=.b7 (Qg d)) kr kr rfl kr (Zt kr)<|gM Qg c)<|Qe 3 (bi V λw c V=>QA rfl (λ_=>QR (e:=3) (n:=q9) (j:=(q9).toNat) (tt:=5) (g:=1) (lo:=0) (len:=I v2) (cap:=I v2) (k:=.i64) kr kr rfl kr kr (gw c)<|zB (gJ c) rfl) (bi V λp c V=>QA rfl (λ_=>Ye (tt:=5) (g:=1) (j:=(0+(q9).toNat)) (e:=3) (cs:=cellsOf Qg v2) (v:=.b7 (Qg p)) kr kr rfl kr (Zt kr)<|gM Qg c) (bi V λ_ c V=>Qis (f:=163) (caps:=[(.eI [(Qg q10)]),(.eI [(Qg q11)]),(.eI [(Qg q12)])]) (j:=6000) (e:=3) (ow':=[]) (Qfp c) (Qe 3 (bi V λx c V=>QA rfl (λ_=>QR (e:=3) (n:=q9) (j:=(q9).toNat) (tt:=4) (g:=1) (lo:=0) (len:=I m) (cap:=I m) (k:=.i64) kr kr rfl kr kr (gw c)<|zB (gJ c) rfl) (bi V λt c V=>Zb (λH=>H.set 4<|QI t) rfl kr (λ_=>Js Qg (l:=m) (n:=q9) (y:=(W<|(if q11<(if d<q10 then q10 else d)then q11 else(if d<q10 then q10 else d))+q12)) c yC kr rfl kr kr kr kr) (bi V λz c V=>QA rfl (λ_=>QR (e:=3) (n:=q9) (j:=(q9).toNat) (tt:=5) (g:=1) (lo:=0) (len:=I v2) (cap:=I v2) (k:=.i64) kr kr rfl kr kr (gw c)<|zB (gJ c) rfl) (bi V λq c V=>Zb (λH=>H.set 5<|QI q) rfl kr (λ_=>Js Qg (l:=v2) (n:=q9) (y:=(W<|(if(if q11<(if d<q10 then q10 else d)then q11 else(if d<q10 then q10 else d))<(if q11<p then q11 else p)then(if q11<p then q11 else p)else(if q11<(if d<q10 then q10 else d)then q11 else(if d<q10 then q10 else d)))+q12)) c yC kr rfl kr kr kr kr)<|Q6 ⟨kr,Qh<|gp (gi V λr V=>gi V λs V=>Zb (v:=(.b7<|.agg [(Lb t),(Lb q)])) (λH=>((H.set 4<|.mt 3 (1+1) []).set 5<|.mt 3 (1+1) [])) rfl kr (λ_=>T2 (n:=2) (i:=6) (off:=0) (bs:=[(.ms 4 1 0 (I m)<|I m),(.ms 5 1 0 (I v2)<|I v2)]) (cs:=[(.ms 4 1 0 (I m)<|I m),(.ms 5 1 0 (I v2)<|I v2)]) rfl rfl kr kr kr kr kr rfl<|sJ Qg yC kr r<|sJ Qg yC kr s uA)<|re 3<|Qn zf)⟩))))) rfl rfl kr kr kr kr kr)))))⟩))
def JG:(Qa×Int×Int×Int×Int)->Option Qa|(p0,p1,e,f,d)=>Jg (p0.be,p1,(W<|0 - d))>>=λc=>V2 (p0.box.lo,p0.box.hi,p0.be.bx,p0.be.bc,p0.be.ek,p0.be.bm,p0.be.ed,p0.be.dk,p0.be.ep,p1,e,f,d,c.bx,c.bc,c.ek,c.bm,c.ed,c.dk,c.ep)>>=λ(v2,k,l,m,g,j)=>O (⟨(⟨g,j⟩:Qo),(⟨c.bx,c.bc,c.ek,c.bm,c.ed,c.dk,c.ep⟩:Qj)⟩:Qa)
def Ww{p0 p1 p2 p3 p4 r0}(V:JG (p0,p1,p2,p3,p4)=O r0):FQ 119 [(Qa.b8 p0),(Qg p1),(Qg p2),(Qg p3),(Qg p4)] (.b7<|Qa.b8 r0):=by unfold JG at V;exact fp (fn:=f119) rfl<|ge 5<|ge 2<|Qh<|Zd<|Qe 8 (bi V λd c V=>cp (QfG c) (Uo V λv2 e f g j k c V=>Zg (Qga c)<|re 1 ⟨kr,Qn zf⟩))
def YH:((List Qa)×Int×Int×Int×(List Qa)×Int)->Option ((List Qa))|(p0,p1,f,l,d,c)=>if c<(I p0:Int)then idx p0 c>>=λe=>JG (e,p1,f,l,(W<|0 - f))>>=λg=>JG (e,p1,0,f,(W<|l - f))>>=λj=>app 120 d ([g,j]:List Qa)>>=λk=>YH (p0,p1,f,l,k,(W<|c+1))else O d
 partial_fixpoint
def Qc2:∀x r,YH x=O r->match x with|(p0,p1,m,n,c,e)=>LQ f72 72 [1,1,0,1,0,0] 1 ⟨kp 38 [(1,(Qd p1)),(2,(Qd m)),(3,(Qd n)),(9,(Jx c)),(12,(Q7 p0)),(13,(Qd (I p0:Int))),(14,(Qd e))],[(.tok 62<|I c)]⟩ (P1 (.exit 0) (λf d=>⟨sl d 38 [(9,(Jx f))],[(.tok 62<|I f)]⟩) r):=by refine YH.partial_correctness _ (λYH Qc2 x r V=>?_);obtain⟨p0,p1,m,n,c,e⟩:=x;exact lp<|ge 1<|Qh<|ri V (λV=>Qm<|Qh<|Ql<|Qh<|gp (QE 9 Qa.b8 V λp V=>re 3<|Zd<|Qe 7 (bi V λg k V=>cp (Ww k)<|Qe 6 (bi V λj k V=>cp (Ww k)<|Qe 1 (bi V λl k V=>YA 62 9 120 0 Qa.b8 c ([g,j]:List Qa) l (xs:=(Naa Qa.b8) c) (es:=(Naa Qa.b8) ([g,j]:List Qa)) (L:=(Naa Qa.b8)) yC rfl rfl Qa.fit k<|re 1 ⟨kr,gp<|re 2<|Qc2 _ _ V _ kr⟩))))) (λV=>QD zf)
def Uc:((List Qa)×Int×Int×Int)->Option (List Qa)|(p0,p1,e,f)=>YH (p0,p1,e,f,([]:List Qa),0)>>=λc=>ZI c>>=λd=>O d
def Qg0{p0 p1 p2 p3 r0}(V:Uc (p0,p1,p2,p3)=O r0):FQ 72 [(.ew<|(Naa Qa.b8) p0),(Qg p1),(Qg p2),(Qg p3)] (Q7 r0):=by unfold Uc at V;exact fp (fn:=f72) rfl<|ge 1<|ge 1<|Qh<|gr 1<|QM Qa.b8 p0<|re 1<|Ql (kY V (Qc2 _) λc d V=>gr 1 (bi V λe f V=>cp (JT f)<|re 1<|Qn zf))
def VZ:(Qr×(List<|List Qa))->Option (List Qa)|(p0,p1)=>idx p1 0>>=λc=>idx p0.aa p0.ch>>=λv2=>Uc (c,p0.ch,p0.cS,v2)>>=λd=>O d
def Qf4{p0 p1 r0}(V:VZ (p0,p1)=O r0):FQ 71 [(Qr.ex p0),(.ew<|(Naa (λl=>fS.ew<|(Naa Qa.b8) l)) p1)] (Q7 r0):=by unfold VZ at V;exact fp (fn:=f71) rfl<|ge 2<|Qh<|Zd<|Qe 1 (bi V λe c V=>X9 1 (λl=>fS.ew<|(Naa Qa.b8) l) p1 0 e (es:=(Naa (λl=>fS.ew<|(Naa Qa.b8) l)) p1) (d:=(.ew<|(Naa Qa.b8) e)) rfl c rfl rfl<|Qe 9 (QE 1 Qg V λv2 V=>Qe 1 (bi V λf c V=>cp (Qg0 c)<|re 1 ⟨kr,Qn zf⟩)))
def Vw:(Int×Int×Int×fJ×Int×Int×Int×fJ×Int)->Option ((fJ×Int))|(q0,q1,q2,q3,q4,q5,q6,q7,d)=>Qy q3>>=λc=>if q0=3 then O (c,q4)else O (c,q2)
def QfP{q0 q1 q2 q3 q4 q5 q6 q7 q8 v5001 v5002}(V:Vw (q0,q1,q2,q3,q4,q5,q6,q7,q8)=O (v5001,v5002)):PC prog env 192 [(Ld q0 q1 q2 q3 q4 q5 q6)] [(QB q0 q1 q2 q3 q4 q5 q6),(.box [(La q7)]),(.box [(Qd q8)]),Za,(QB q0 q1 q2 q3 q4 q5 q6),Za] (.ptr 8 0) (QgR q0 q1 q2 q3 q4 q5 q6 q7 q8 v5001 v5002<|I v5001):=by unfold Vw at V;exact gY (fn:=f192) rfl<|ge 2<|Qh<|Zd<|Qe 4 (bi V λd c V=>go 7 3 Qg (QF c)<|re 5 ⟨kr,Qh<|ge 3<|mQ V (λV=>gp<|re 7<|ge 2<|Qn zf) (λV=>Qm<|ge 2<|Qn zf)⟩)
def Y9:(fJ×Int×Int)->Option Int|(p0,d,c)=>if c<(I p0:Int)then idx p0 c>>=λe=>Y9 (p0,(W<|d+e),(W<|c+1))else O d
 partial_fixpoint
def QcX:∀x r,Y9 x=O r->match x with|(p0,c,e)=>LQ f196 196 [1,1,0,1,0,0] 0 ⟨kp 17 [(3,(Qd c)),(6,(La p0)),(7,(Qd (I p0:Int))),(8,(Qd e))],[]⟩ (P1 (.exit 0) (λf d=>⟨sl d 17 [(3,(Qd f))],[]⟩) r):=by refine Y9.partial_correctness _ (λY9 QcX x r V=>?_);obtain⟨p0,c,e⟩:=x;exact lp<|ge 1<|Qh<|ri V (λV=>Qm<|Qh<|Ql<|Qh<|gp (QE 1 Qg V λg V=>re 2<|gp<|re 4<|gp<|re 2<|QcX _ _ V _ kr)) (λV=>QD zf)
def UZ:fJ->Option Int|p0=>Y9 (p0,0,0)>>=λc=>O c
def QgV{p0 r0}(V:UZ p0=O r0):FQ 196 [(Lb p0)] (Qd r0):=by unfold UZ at V;exact fp (fn:=f196) rfl<|ge 1<|ge 1<|Qh<|gr 1<|QM Qg p0<|re 1<|Ql (kY V (QcX _) λc d V=>ge 2<|Qn zf)
def Q2:(fJ×fJ×fJ×Int×Int×Int×fJ×Int×Int×Int×Int×Int×fJ×Int)->Option (fJ)|(q0,l,m,q2,q3,q4,q5,q6,q7,s,q1,n,c,d)=>if d<(I q0:Int)then idx q0 d>>=λe=>QN (I c=I l)>>=λ_=>idx c e>>=λp=>idx c e>>=λf=>idx m d>>=λq=>idx m d>>=λg=>UZ ([f,g]:fJ)>>=λj=>QN (I c=I l)>>=λ_=>idx c e>>=λr=>iM c e j>>=λk=>Q2 (q0,l,m,q2,q3,q4,q5,q6,q7,s,q1,n,k,(W<|d+1))else O c
 partial_fixpoint
def XQ:∀x r,Q2 x=O r->match x with|(q0,f,t,q2,q3,q4,q5,q6,q7,s,q1,u,q,m)=>LQ f165 165 [1,0,1,0,0] 10 ⟨kp 39 [(0,(.ptr 8 0)),(6,(.ms 9 (mg f) 0 (I f)<|I f)),(11,(La q0)),(12,(Qd (I q0:Int))),(13,(Qd m))],[(QB q2 q3 q4 q5 q6 q7 s),(.box [(La q0)]),(.box [(Qd q1)]),Za,(QB q2 q3 q4 q5 q6 q7 s),Za,(QB q2 q3 q4 q5 q6 q7 s),(QI t),(Oa u (I t) q2 q3 q4 q5 q6 q7 s),(.mt 3 (mg f)<|cellsOf Qg q)]⟩ (P1 (.exit 0) (λB d=>⟨sl d 39 [(0,(.ptr 8 0)),(6,(.ms 9 (mg f) 0 (I f)<|I f))],[(QB q2 q3 q4 q5 q6 q7 s),(.box [(La q0)]),(.box [(Qd q1)]),Za,(QB q2 q3 q4 q5 q6 q7 s),Za,(QB q2 q3 q4 q5 q6 q7 s),(QI t),(Oa u (I t) q2 q3 q4 q5 q6 q7 s),(.mt 3 (mg f)<|cellsOf Qg B)]⟩) r):=by
 refine Q2.partial_correctness _ (λQ2 XQ x r V=>?_);obtain⟨q0,f,t,q2,q3,q4,q5,q6,q7,s,q1,u,q,m⟩:=x
 exact lp<|ge 1<|Qh<|ri V (λV=>Qm<|Qh<|Ql<|gr 1 (QE 1 Qg V λc V=>re 3<|Zd<|Qe 4 (gi V λz V=>bi V λF p V=>QA rfl (λ_=>QR (e:=3) (n:=c) (j:=(c).toNat) (tt:=9) (g:=(mg f)) (lo:=0) (len:=I f) (cap:=I f) (k:=.i64) kr kr rfl kr kr (gw p)<|zB (gJ p) z) (bi V λC p V=>QA rfl (λ_=>Ye (tt:=9) (g:=(mg f)) (j:=(0+(c).toNat)) (e:=3) (cs:=cellsOf Qg q) (v:=.b7 (Qg C)) kr kr rfl kr (Zt kr)<|gM Qg p)<|Qe 5 (bi V λG p V=>QA rfl (λ_=>QR (e:=3) (n:=m) (j:=(m).toNat) (tt:=7) (g:=1) (lo:=0) (len:=I t) (cap:=I t) (k:=.i64) kr kr rfl kr kr (gw p)<|zB (gJ p) rfl) (bi V λD p V=>QA rfl (λ_=>Ye (tt:=7) (g:=1) (j:=(0+(m).toNat)) (e:=3) (cs:=cellsOf Qg t) (v:=.b7 (Qg D)) kr kr rfl kr (Zt kr)<|gM Qg p)<|Qe 1 (bi V λE p V=>cp (QgV p) (gi V λA V=>bi V λK p V=>QA rfl (λ_=>QR (e:=3) (n:=c) (j:=(c).toNat) (tt:=9) (g:=(mg f)) (lo:=0) (len:=I f) (cap:=I f) (k:=.i64) kr kr rfl kr kr (gw p)<|zB (gJ p) A) (bi V λw p V=>Zb (λH=>H.set 9<|.mt 3 (mg f)<|cellsOf Qg w) rfl kr (λ_=>Js Qg (l:=q) (n:=c) (y:=E) p yC kr rfl kr kr kr kr)<|Q6 ⟨kr,gp<|re 2<|XQ _ _ V _<|fZ [(QB q2 q3 q4 q5 q6 q7 s),(.box [(La q0)]),(.box [(Qd q1)]),Za,(QB q2 q3 q4 q5 q6 q7 s),Za,(QB q2 q3 q4 q5 q6 q7 s),(QI t),(Oa u (I t) q2 q3 q4 q5 q6 q7 s),(.mt 3 (mg f)<|cellsOf Qg w)] (λ_=>(fR kr<|fR kr<|fR kr<|fR kr<|fR kr<|fR kr<|fR kr<|fR (gj Qg _ _ _ _ _)<|fR kr<|fR (gj Qg _ _ _ _ _) gD)) rfl⟩))))))))) (λV=>QD zf)
def ZW:(fJ×Int×Int×Int×Int×fJ×Int×Int×Int×fJ×Int)->Option ((Nat×fJ×Nat))|(q0,q1,q2,q3,q4,q5,q6,q7,f,g,e)=>kj 8 q1 0>>=λd=>Q2 (q0,d,g,q2,q3,q4,q5,q6,q7,f,q1,e,d,0)>>=λc=>O ((mg d),c,I d)
def QdX{q0 q1 q2 q3 q4 q5 q6 q7 q8 q9 q10 v5001 v5002 v5003}(V:ZW (q0,q1,q2,q3,q4,q5,q6,q7,q8,q9,q10)=O (v5001,v5002,v5003)):PC prog env 165 [(.ptr 8 0),(La q0),(Qd q1)] (QgR q2 q3 q4 q5 q6 q7 q8 q0 q1 q9 q10<|I q9) (.fz []) (QgS q2 q3 q4 q5 q6 q7 q8 q0 q1 q9 q10 v5001 v5003 v5002):=by unfold ZW at V;exact gY (fn:=f165) rfl<|gr 1 (bi V λc g V=>Zb (v:=.ms 9 (mg c) 0 (I c) (I c)) (λH=>H++[.mt 3 (mg c) (cellsOf Qg c)]) rfl kr (by intro K j;exact V1 9 Qg (z:=0) (n:=q1) (bytes:=8) (e:=3) (os:=[]) g kr kr kr kr rfl rfl rfl kr kr kr j)<|re 1<|Qh<|gr 1<|QM Qg q0<|re 1<|Ql<|kY V (XQ _) (λf d V=>gp<|re 5 zf) (hst:=(fZ [(QB q2 q3 q4 q5 q6 q7 q8),(.box [(La q0)]),(.box [(Qd q1)]),Za,(QB q2 q3 q4 q5 q6 q7 q8),Za,(QB q2 q3 q4 q5 q6 q7 q8),(QI q9),(Oa q10 (I q9) q2 q3 q4 q5 q6 q7 q8),(.mt 3 (mg c)<|cellsOf Qg c)] (λ_=>(fR kr<|fR kr<|fR kr<|fR kr<|fR kr<|fR kr<|fR kr<|fR (gj Qg _ _ _ _ _)<|fR kr<|fR (gj Qg _ _ _ _ _) gD)) rfl)))
def Xh:(Int×Int×Int×fJ×Int×Int×Int×fJ×Int×fJ×Int)->Option ((Nat×fJ×Nat))|(q0,q1,q2,q3,q4,q5,q6,q7,d,e,c)=>ZW (q7,d,q0,q1,q2,q3,q4,q5,q6,e,c)>>=λ(f,v2,g)=>O (f,v2,g)
def QeO{q0 q1 q2 q3 q4 q5 q6 q7 q8 q9 q10 v5001 v5002 v5003}(V:Xh (q0,q1,q2,q3,q4,q5,q6,q7,q8,q9,q10)=O (v5001,v5002,v5003)):PC prog env 164 [(.ptr 8 0),(.ptr 1 0),(.ptr 2 0)] (QgR q0 q1 q2 q3 q4 q5 q6 q7 q8 q9 q10<|I q9) (.fz []) (QgS q0 q1 q2 q3 q4 q5 q6 q7 q8 q9 q10 v5001 v5003 v5002):=by unfold Xh at V;exact gY (fn:=f164) rfl<|Zd<|Qe 5 (N9 V λd v2 e c V=>Zg (QdX c)<|Q6 ⟨kr,zf⟩)
def Yg:(Int×Int×Int×fJ×Int×Int×Int×fJ×Int×fJ×Int×Nat×fJ×Nat)->Option ((Int×Int×Int×Int×Int×Int))|(q0,q1,q2,q3,q4,q5,q6,q7,g,j,c,d,e,f)=>if q0=3 then O (q2,c,q2,c,q2,c)else O (c,q4,c,q4,c,q4)
def Qd1{q0 q1 q2 q3 q4 q5 q6 q7 q8 q9 q10 q11 q12 q13 v5001 v5002 v5003 v5004 v5005 v5006}(V:Yg (q0,q1,q2,q3,q4,q5,q6,q7,q8,q9,q10,q11,q12,q13)=O (v5001,v5002,v5003,v5004,v5005,v5006)):PC prog env 193 [(.ptr 8 0)] (QgS q0 q1 q2 q3 q4 q5 q6 q7 q8 q9 q10 q11 q13 q12) (.agg [(Qd q0),(Qd q1),(Qd v5005),(.ms 9 q11 0 q13 q13),(Qd v5006),(Qd q5),(Qd q6)]) [(QB q0 q1 q2 q3 q4 q5 q6),(.box [(La q7)]),(.box [(Qd q8)]),Za,(QB q0 q1 q2 q3 q4 q5 q6),Za,(QB q0 q1 q2 q3 q4 q5 q6),(QI q9),(QgT q10 q11 q13 q0 q1 q2 q3 q4 q5 q6),(ZU q11 q12),(U2 q0 q1 v5001 q11 q13 v5002 q5 q6),(U2 q0 q1 v5003 q11 q13 v5004 q5 q6)]:=by unfold Yg at V;exact gY (fn:=f193) rfl<|ge 1<|ge 6<|ge 7<|Qh<|ge 3<|mQ V (λV=>gp<|re 7<|ge 2<|Qn zf) (λV=>gp<|re 7<|ge 2<|Qn zf)
def Jh:(Int×Int×Int×fJ×Int×Int×Int×fJ×Int)->Option (Unit⊕ (fJ×Nat×fJ×Int×Nat×Int×Int×Nat×Int×Nat×Int×Int×Nat×Int×Int×Nat×Int))|(q0,q1,q2,q3,q4,q5,q6,q7,f)=>if q0=1 then O (Naf ())else Vw (q0,q1,q2,q3,q4,q5,q6,q7,f)>>=λ(g,v2)=>Xh (q0,q1,q2,q3,q4,q5,q6,q7,f,g,v2)>>=λ(j,k,c)=>Yg (q0,q1,q2,q3,q4,q5,q6,q7,f,g,v2,j,k,c)>>=λ(l,m,n,p,d,e)=>O<|Nag (g,j,k,d,c,e,v2,c,l,c,m,n,c,p,d,c,e)
def QdY{q0 q1 q2 q3 q4 q5 q6 q7 q8 r}(V:Jh (q0,q1,q2,q3,q4,q5,q6,q7,q8)=O r):PC prog env 156 [(Ld q0 q1 q2 q3 q4 q5 q6),(.fn 164 [(.ptr 1 0),(.ptr 2 0)])] [(QB q0 q1 q2 q3 q4 q5 q6),(.box [(La q7)]),(.box [(Qd q8)]),Za] (match r with|.inl _=>(Ld q0 q1 q2 q3 q4 q5 q6)|.inr ((e,c,f,g,j,k,l,m,n,p,q,s,t,u,v,d,w))=>(.agg [(Qd q0),(Qd q1),(Qd v),(.ms 9 c 0 d d),(Qd w),(Qd q5),(Qd q6)])) (match r with|.inl _=>[(QB q0 q1 q2 q3 q4 q5 q6),(.box [(La q7)]),(.box [(Qd q8)]),Za,(QB q0 q1 q2 q3 q4 q5 q6),(QB q0 q1 q2 q3 q4 q5 q6)]|.inr ((e,c,f,g,j,k,l,m,n,p,q,s,t,u,v,d,w))=>[(QB q0 q1 q2 q3 q4 q5 q6),(.box [(La q7)]),(.box [(Qd q8)]),Za,(QB q0 q1 q2 q3 q4 q5 q6),(U2 q0 q1 g c j k q5 q6),(QB q0 q1 q2 q3 q4 q5 q6),(QI e),(QgT l c m q0 q1 q2 q3 q4 q5 q6),(ZU c f),(U2 q0 q1 n c p q q5 q6),(U2 q0 q1 s c t u q5 q6)]):=by unfold Jh at V;exact gY (fn:=f156) rfl<|ge 2<|Qh<|ge 3<|mQ V (λV=>ge 2<|Qn zf) (λV=>Qm<|gr 1 (sB V λA v2 x V=>Zg (QfP x)<|re 1<|gr 2 (N9 V λB C D x V=>Zg (QeO x)<|Q6<|gr 1 (Uo V λE F G H y z x V=>Zg (Qd1 x)<|re 1<|Qn zf))))
def JL:(Qj×fJ×Int)->Option Qj|(p0,p1,g)=>(Jh (p0.bx,p0.bc,p0.ek,p0.bm,p0.ed,p0.dk,p0.ep,p1,g)>>=λ|.inl _=>O (⟨p0.bx,p0.bc,p0.ek,p0.bm,p0.ed,p0.dk,p0.ep⟩:Qj)|.inr ((p,v2,f,q,r,s,t,u,v,j,k,l,m,n,c,d,e))=>QN (I f=d)>>=λ_=>O (⟨p0.bx,p0.bc,c,f,e,p0.dk,p0.ep⟩:Qj))
def Qgu{p0 p1 p2 r0}(V:JL (p0,p1,p2)=O r0):FQ 120 [(Qj.b8 p0),(Lb p1),(Qg p2)] (.b7<|Qj.b8 r0):=by unfold JL at V;exact fp (fn:=f120) rfl<|ge 4<|gr 2 (bs V (λ_ f V=>Zg (QdY f)<|re 1<|Qn zf) λ⟨r,v2,k,s,t,u,v,w,x,l,m,n,p,q,g,c,j⟩ f V=>Zg (QdY f)<|re 1<|Qn (gi V λd V=>(by obtain rfl:=vz V;exact⟨trivial,Ym [(.agg [(Qd p0.bx),(Qd p0.bc),(Qd g),(.ms 9 v2 0 c c),(Qd j),(Qd p0.dk),(Qd p0.ep)])] kr<|qM<|gk kr<|gk kr<|gk kr<|gk (jx (e:=3) Qg k d yC kr)<|gk kr<|gk kr<|gk kr mu⟩)))
def J4:(fJ×fJ×fJ×Int×Int×Int×fJ×Int×Int×Int×Nat)->Option ((Nat×fJ×fJ))|(q0,q1,q2,q3,q4,q5,q6,q7,e,f,d)=>kj 8 (I q0:Int) 0>>=λc=>Qy q0>>=λv2=>O ((mg c),c,v2)
def Qgm{q0 q1 q2 q3 q4 q5 q6 q7 q8 q9 q10 v5001 v5002 v5003}(V:J4 (q0,q1,q2,q3,q4,q5,q6,q7,q8,q9,q10)=O (v5001,v5002,v5003)):PC prog env 111 [(La q0)] [(.tok 62 q10),(Zp q1 q2 q3 q4 q5 q6 q7 q8 q9)] (.agg [(.ms 3 v5001 0 (I v5002)<|I v5002),(.ms 4 1 0 (I v5003)<|I v5003)]) [(.tok 62 q10),(Zp q1 q2 q3 q4 q5 q6 q7 q8 q9),(OS v5001 (I v5002)<|I v5003),(ZU v5001 v5002),(QI v5003)]:=by unfold J4 at V;exact gY (fn:=f111) rfl<|ge 1<|Qh<|Zd<|Qe 1<|QM Qg q0 (bi V λc d V=>Zb (v:=.ms 3 (mg c) 0 (I c) (I c)) (λH=>H++[.mt 3 (mg c) (cellsOf Qg c)]) rfl kr (by intro K f;exact V1 3 Qg (z:=0) (n:=(I q0:Int)) (bytes:=8) (e:=3) (os:=[]) d kr kr kr kr rfl rfl rfl kr kr kr f)<|Qe 1 (bi V λv2 d V=>go 4 3 Qg (QF d)<|re 2 ⟨kr,Qn zf⟩))
def ZY:(fJ×fJ×Qa×fJ×fJ×(List Qa)×(List Qa)×Int×Nat×fJ×fJ×Int)->Option ((fJ×fJ))|(p1,g,j,k,A,s,p0,t,u,d,e,f)=>if f<(I p1:Int)then idx p1 f>>=λc=>QN (I d=I g)>>=λ_=>idx d c>>=λv=>idx d c>>=λl=>idx j.box.lo f>>=λm=>QN (I d=I g)>>=λ_=>idx d c>>=λw=>iM d c (if l<m then m else l)>>=λq=>QN (I e=I k)>>=λ_=>idx e c>>=λy=>idx e c>>=λn=>idx j.box.hi f>>=λp=>QN (I e=I k)>>=λ_=>idx e c>>=λz=>iM e c (if p<n then p else n)>>=λr=>ZY (p1,g,j,k,A,s,p0,t,u,q,r,(W<|f+1))else O (d,e)
 partial_fixpoint
def WK:∀x r,ZY x=O r->match x with|(p1,q,c,s,S,t,p0,E,p,C,D,P)=>LQ f74 74 [1,1,0,1,0,0,1,1,0,0,1,1,0,1,0,0] 6 ⟨kp 75 [(1,(La p1)),(2,(La S)),(7,(Jx t)),(9,(.ptr 1 0)),(10,(.ptr 5 0)),(13,(Q7 p0)),(14,(Qd (I p0:Int))),(15,(Qd E)),(21,(La p1)),(22,(Qd (I p1:Int))),(23,(Qd P))],[(.tok 62<|I t),(Zp c.box.lo c.box.hi c.be.bx c.be.bc c.be.ek c.be.bm c.be.ed c.be.dk c.be.ep),(OS p (I q)<|I s),(ZU p C),(QI D),(OS p (I q)<|I s)]⟩ (P1 (.exit 2) (λ(Q,R) d=>⟨sl d 75 [(1,(La p1)),(2,(La S)),(7,(Jx t)),(9,(.ptr 1 0)),(10,(.ptr 5 0)),(13,(Q7 p0)),(14,(Qd (I p0:Int))),(15,(Qd E))],[(.tok 62<|I t),(Zp c.box.lo c.box.hi c.be.bx c.be.bc c.be.ek c.be.bm c.be.ed c.be.dk c.be.ep),(OS p (I q)<|I s),(ZU p Q),(QI R),(OS p (I q)<|I s)]⟩) r):=by
 refine ZY.partial_correctness _ (λZY WK x r V=>?_);obtain⟨p1,q,c,s,S,t,p0,E,p,C,D,P⟩:=x
 exact lp<|ge 1<|Qh<|ri V (λV=>Qm<|Qh<|Ql<|gr 1 (QE 1 Qg V λf V=>re 3<|Qh<|Zd<|Qe 6 (gi V λK V=>bi V λT u V=>QA rfl (λ_=>QR (e:=3) (n:=f) (j:=(f).toNat) (tt:=3) (g:=p) (lo:=0) (len:=I q) (cap:=I q) (k:=.i64) kr kr rfl kr kr (gw u)<|zB (gJ u) K) (bi V λw u V=>QA rfl (λ_=>Ye (tt:=3) (g:=p) (j:=(0+(f).toNat)) (e:=3) (cs:=cellsOf Qg C) (v:=.b7 (Qg w)) kr kr rfl kr (Zt kr)<|gM Qg u)<|Qe 4 (QE 1 Qg V λA V=>Qe 1<|QA rfl (λ_=>Ki (k:=.i64) (m:=w) (n:=A) rfl kr kr) (gi V λL V=>bi V λW u V=>QA rfl (λ_=>QR (e:=3) (n:=f) (j:=(f).toNat) (tt:=3) (g:=p) (lo:=0) (len:=I q) (cap:=I q) (k:=.i64) kr kr rfl kr kr (gw u)<|zB (gJ u) L) (bi V λF u V=>Zb (λH=>H.set 3<|ZU p F) rfl kr (λ_=>Js Qg (l:=C) (n:=f) (y:=(if w<A then A else w)) u yC kr rfl kr kr kr kr)<|Q6 ⟨kr,Zd<|Qe 6 (gi V λM V=>bi V λX u V=>QA rfl (λ_=>QR (e:=3) (n:=f) (j:=(f).toNat) (tt:=4) (g:=1) (lo:=0) (len:=I s) (cap:=I s) (k:=.i64) kr kr rfl kr kr (gw u)<|zB (gJ u) M) (bi V λz u V=>QA rfl (λ_=>Ye (tt:=4) (g:=1) (j:=(0+(f).toNat)) (e:=3) (cs:=cellsOf Qg D) (v:=.b7 (Qg z)) kr kr rfl kr (Zt kr)<|gM Qg u)<|Qe 4 (QE 1 Qg V λB V=>Qe 1<|QA rfl (λ_=>Hf (k:=.i64) (m:=z) (n:=B) rfl kr kr) (gi V λN V=>bi V λY u V=>QA rfl (λ_=>QR (e:=3) (n:=f) (j:=(f).toNat) (tt:=4) (g:=1) (lo:=0) (len:=I s) (cap:=I s) (k:=.i64) kr kr rfl kr kr (gw u)<|zB (gJ u) N) (bi V λG u V=>Zb (λH=>H.set 4<|QI G) rfl kr (λ_=>Js Qg (l:=D) (n:=f) (y:=(if B<z then B else z)) u yC kr rfl kr kr kr kr)<|Q6 ⟨kr,gp<|re 2<|WK _ _ V _<|fZ [(.tok 62<|I t),(Zp c.box.lo c.box.hi c.be.bx c.be.bc c.be.ek c.be.bm c.be.ed c.be.dk c.be.ep),(OS p (I q)<|I s),(ZU p F),(QI G),(OS p (I q)<|I s)] (λ_=>(fR kr<|fR kr<|fR kr<|fR (gj Qg _ _ _ _ _)<|fR (gj Qg _ _ _ _ _)<|fR kr gD)) rfl⟩)))))⟩))))))) (λV=>QD zf)
def ZH:((List Qa)×fJ×fJ×(List Qa)×Int)->Option ((List Qa))|(p0,p,p1,d,e)=>if e<(I p0:Int)then idx p0 e>>=λc=>J4 (p,c.box.lo,c.box.hi,c.be.bx,c.be.bc,c.be.ek,c.be.bm,c.be.ed,c.be.dk,c.be.ep,I d)>>=λ(n,f,g)=>ZY (p1,f,c,g,p,d,p0,e,n,f,g,0)>>=λ(j,k)=>JL (c.be,p1,(I p:Int))>>=λl=>QN (I j=I f)>>=λ_=>QN (I k=I g)>>=λ_=>app 120 d ([(⟨(⟨j,k⟩:Qo),l⟩:Qa)]:List Qa)>>=λm=>ZH (p0,p,p1,m,(W<|e+1))else O d
 partial_fixpoint
def QbI:∀x r,ZH x=O r->match x with|(p0,y,p1,g,s)=>LQ f74 74 [1,1,0,1,0,0] 1 ⟨kp 75 [(1,(La p1)),(2,(La y)),(7,(Jx g)),(13,(Q7 p0)),(14,(Qd (I p0:Int))),(15,(Qd s))],[(.tok 62<|I g)]⟩ (P1 (.exit 0) (λt d=>⟨sl d 75 [(7,(Jx t))],[(.tok 62<|I t)]⟩) r):=by
 refine ZH.partial_correctness _ (λZH QbI x r V=>?_);obtain⟨p0,y,p1,g,s⟩:=x
 exact lp<|ge 1<|Qh<|ri V (λV=>Qm<|Qh<|Ql<|Qh<|gp (QE 9 Qa.b8 V λf V=>re 3<|gr 1 (N9 V λl m n w V=>Zg (Qgm w)<|re 2<|Qh<|gr 1<|QM Qg p1<|re 1<|Ql<|kY V (WK _) (λ⟨j,k⟩ d V=>Zd<|Qe 6<|QM Qg y (bi V λc w V=>cp (Qgu w) (gi V λp V=>gi V λq V=>Zb (v:=(R6 j k c.bx c.bc c.ek c.bm c.ed c.dk c.ep)) (λH=>((H.set 3<|.mt 3 (l+1)<|cellsOf Qg ([]:fJ)).set 4 UI)) rfl kr (λ_ z=>Qid (cs:=[(.ms 3 l 0 (I m)<|I m),(.ms 4 1 0 (I n)<|I n),(Qd c.bx),(Qd c.bc),(Qd c.ek),(La c.bm),(Qd c.ed),(Qd c.dk),(Qd c.ep)]) rfl kr kr (Rk Qg j (e:=3) p yC kr<|Rk Qg k (e:=3) q yC kr<|sY<|sY<|sY<|sY<|sY<|sY<|sY Sf) z)<|Qe 1 (bi V λu w V=>YA 62 9 120 0 Qa.b8 g ([(⟨(⟨j,k⟩:Qo),c⟩:Qa)]:List Qa) u (xs:=(Naa Qa.b8) g) (es:=(Naa Qa.b8) ([(⟨(⟨j,k⟩:Qo),c⟩:Qa)]:List Qa)) (L:=(Naa Qa.b8)) yC rfl rfl Qa.fit w<|re 1 ⟨kr,gp<|re 2<|QbI _ _ V _ kr⟩)))) (hst:=(fZ [(.tok 62<|I g),(Zp f.box.lo f.box.hi f.be.bx f.be.bc f.be.ek f.be.bm f.be.ed f.be.dk f.be.ep),(OS l (I m)<|I n),(ZU l m),(QI n),(OS l (I m)<|I n)] (λ_=>(fR kr<|fR kr<|fR kr<|fR (gj Qg _ _ _ _ _)<|fR (gj Qg _ _ _ _ _)<|fR kr gD)) rfl))))) (λV=>QD zf)
def J6:((List Qa)×fJ×fJ)->Option (List Qa)|(p0,p1,e)=>ZH (p0,e,p1,([]:List Qa),0)>>=λd=>ZI d>>=λc=>O c
def Qgn{p0 p1 p2 r0}(V:J6 (p0,p1,p2)=O r0):FQ 74 [(.ew<|(Naa Qa.b8) p0),(Lb p1),(Lb p2)] (Q7 r0):=by unfold J6 at V;exact fp (fn:=f74) rfl<|ge 1<|ge 1<|Qh<|gr 1<|QM Qa.b8 p0<|re 1<|Ql (kY V (QbI _) λe d V=>gr 1 (bi V λc f V=>cp (JT f)<|re 1<|Qn zf))
def V7:(Qr×(List<|List Qa))->Option (List Qa)|(p0,p1)=>idx p1 0>>=λc=>J6 (c,p0.eh,p0.aa)>>=λv2=>O v2
def Qf5{p0 p1 r0}(V:V7 (p0,p1)=O r0):FQ 73 [(Qr.ex p0),(.ew<|(Naa (λl=>fS.ew<|(Naa Qa.b8) l)) p1)] (Q7 r0):=by unfold V7 at V;exact fp (fn:=f73) rfl<|ge 2<|Qh<|Zd<|Qe 1 (bi V λe c V=>X9 1 (λl=>fS.ew<|(Naa Qa.b8) l) p1 0 e (es:=(Naa (λl=>fS.ew<|(Naa Qa.b8) l)) p1) (d:=(.ew<|(Naa Qa.b8) e)) rfl c rfl rfl<|Qe 5 (bi V λv2 c V=>cp (Qgn c)<|re 1 ⟨kr,Qn zf⟩))
def QS:(fJ×fJ×Int)->Option (Unit⊕ Unit)|(p0,p1,c)=>if c<(I p0:Int)then idx p0 c>>=λd=>idx p1 c>>=λe=>if d≠e then O (Naf ())else QS (p0,p1,(W<|c+1))else O (Nag ())
 partial_fixpoint
def JW:∀x r,QS x=O r->match x with|(p0,p1,c)=>LQ f132 132 [1,1,0,1,0,0] 0 ⟨kp 26 [(0,(La p0)),(1,(La p1)),(12,(Qd (I p0:Int))),(13,(Qd c))],[]⟩ (P2 .ret (λ_ d=>⟨sl d 26 [(4,(Qp U))],[]⟩) (.exit 0) (λ_ d=>⟨sl d 26 [],[]⟩) r):=by refine QS.partial_correctness _ (λQS JW x r V=>?_);obtain⟨p0,p1,c⟩:=x;exact lp<|ge 1<|Qh<|ri V (λV=>Qm<|Qh<|Ql<|ge 2<|Qh<|Zd<|Qe 2 (QE 1 Qg V λe V=>Qe 3 (QE 1 Qg V λf V=>re 2 ⟨kr,zz V (λV=>ge 1<|Qn zf) (λV=>Qm<|gp<|re 2<|JW _ _ V _ kr)⟩))) (λV=>QD zf)
def Zs:(fJ×fJ)->Option Bool|(p0,p1)=>if(I p0:Int)≠(I p1:Int)then O U else(QS (p0,p1,0)>>=λ|.inl _=>O U|.inr _=>O J)
def Qdi{p0 p1 r0}(V:Zs (p0,p1)=O r0):FQ 132 [(Lb p0),(Lb p1)] (Qp r0):=by unfold Zs at V;exact fp (fn:=f132) rfl<|ge 1<|Qh<|gr 1<|QM Qg p0<|Qe 1<|QM Qg p1<|re 1<|zz V (λV=>ge 1<|Qn zf) (λV=>Qm<|Qh<|gr 1<|QM Qg p0<|re 1<|Ql (pG V (JW _) (λ_ d V=>zf) λ_ d V=>ge 1<|Qn zf))
def JK:(fJ×fJ)->Option Bool|(p0,p1)=>Zs (p0,p1)>>=λc=>O c
def Qhs{p0 p1 r0}(V:JK (p0,p1)=O r0):FQ 121 [(Lb p0),(Lb p1)] (Qp r0):=by unfold JK at V;exact fp (fn:=f121) rfl<|ge 1<|gr 2 (bi V λd c V=>cp (Qdi c)<|re 1<|Qn zf)
def JQ:(fJ×fJ)->Option (fJ×fJ)|(p0,p1)=>Qy p0>>=λc=>Qy p1>>=λv2=>O (c,v2)
def Qf8{p0 p1 v5001 v5002}(V:JQ (p0,p1)=O (v5001,v5002)):FQ 172 [(Lb p0),(Lb p1)] (.fn 202 [(.eI [(Lb v5001)]),(.eI [(Lb v5002)])]):=by unfold JQ at V;exact fp (fn:=f172) rfl<|ge 3<|Qh<|Zd<|Qe 1 (bi V λd c V=>QA (v:=.b7 (Lb d)) rfl (λ_=>Rz (f:=154) (first:=#[]) (cap:=#[]) (e:=3) (ow':=[]) (ds:=[.ew ((Naa Qg) p0)]) rfl kr kr kr kr (QF c)<|pR<|jx (e:=3) Qg d rfl yC kr)<|Qe 1 (bi V λv2 c V=>QA (v:=.b7 (Lb v2)) rfl (λ_=>Rz (f:=154) (first:=#[]) (cap:=#[]) (e:=3) (ow':=[]) (ds:=[.ew ((Naa Qg) p1)]) rfl kr kr kr kr (QF c)<|pR<|jx (e:=3) Qg v2 rfl yC kr)<|re 2 ⟨kr,ge 2<|Qn zf⟩))
def Zu:(fJ×fJ×fJ×fJ×Int)->Option ((fJ)⊕ fJ)|(q2,q1,q0,d,c)=>if c>=0 then QN (I d=I q2)>>=λ_=>idx d c>>=λm=>idx d c>>=λf=>QN (I d=I q2)>>=λ_=>idx d c>>=λn=>iM d c (W<|f+1)>>=λe=>QN (I e=I q2)>>=λ_=>idx e c>>=λp=>idx e c>>=λg=>idx q1 c>>=λj=>if g<j then O (Naf e)else idx q0 c>>=λk=>QN (I e=I q2)>>=λ_=>idx e c>>=λq=>iM e c k>>=λl=>Zu (q2,q1,q0,l,(W<|c - 1))else O (Nag d)
 partial_fixpoint
def Qan:∀x r,Zu x=O r->match x with|(q2,q1,q0,m,c)=>LQ f203 203 [1,0,1,0,0] 2 ⟨kp 37 [(0,(La q0)),(1,(La q1)),(2,(.ms 0 1 0 (I q2)<|I q2)),(7,(Qd c))],[(QI m),Tm]⟩ (P2 .ret (λA d=>⟨sl d 37 [(6,(Qp J))],[(QI A),Tm]⟩) (.exit 0) (λB d=>⟨sl d 37 [],[(QI B),Tm]⟩) r):=by
 refine Zu.partial_correctness _ (λZu Qan x r V=>?_);obtain⟨q2,q1,q0,m,c⟩:=x
 exact lp<|Qh<|ge 2<|ri V (λV=>Qm<|Qh<|Ql<|Qh<|gr 2 (gi V λt V=>bi V λE f V=>QA rfl (λ_=>QR (e:=3) (n:=c) (j:=(c).toNat) (tt:=0) (g:=1) (lo:=0) (len:=I q2) (cap:=I q2) (k:=.i64) kr kr rfl kr kr (gw f)<|zB (gJ f) t) (bi V λq f V=>QA rfl (λ_=>Ye (tt:=0) (g:=1) (j:=(0+(c).toNat)) (e:=3) (cs:=cellsOf Qg m) (v:=.b7 (Qg q)) kr kr rfl kr (Zt kr)<|gM Qg f)<|Qe 1 (gi V λu V=>bi V λF f V=>QA rfl (λ_=>QR (e:=3) (n:=c) (j:=(c).toNat) (tt:=0) (g:=1) (lo:=0) (len:=I q2) (cap:=I q2) (k:=.i64) kr kr rfl kr kr (gw f)<|zB (gJ f) u) (bi V λp f V=>Zb (λH=>H.set 0<|QI p) rfl kr (λ_=>Js Qg (l:=m) (n:=c) (y:=(W<|q+1)) f yC kr rfl kr kr kr kr)<|Q6<|Qh<|Zd<|Qe 2 (gi V λw V=>bi V λG f V=>QA rfl (λ_=>QR (e:=3) (n:=c) (j:=(c).toNat) (tt:=0) (g:=1) (lo:=0) (len:=I q2) (cap:=I q2) (k:=.i64) kr kr rfl kr kr (gw f)<|zB (gJ f) w) (bi V λC f V=>QA rfl (λ_=>Ye (tt:=0) (g:=1) (j:=(0+(c).toNat)) (e:=3) (cs:=cellsOf Qg p) (v:=.b7 (Qg C)) kr kr rfl kr (Zt kr)<|gM Qg f)<|Qe 2 (QE 1 Qg V λK V=>re 2 ⟨kr,ri V (λV=>ge 1<|Qn zf) (λV=>Qm<|gp<|Qe 4 (QE 1 Qg V λD V=>Qe 1 (gi V λz V=>bi V λL f V=>QA rfl (λ_=>QR (e:=3) (n:=c) (j:=(c).toNat) (tt:=0) (g:=1) (lo:=0) (len:=I q2) (cap:=I q2) (k:=.i64) kr kr rfl kr kr (gw f)<|zB (gJ f) z) (bi V λs f V=>Zb (λH=>H.set 0<|QI s) rfl kr (λ_=>Js Qg (l:=p) (n:=c) (y:=D) f yC kr rfl kr kr kr kr)<|Q6<|gp<|re 3<|Qan _ _ V _<|fZ [(QI s),Tm] (λ_=>(fR (gj Qg _ _ _ _ _)<|fR (gj Qg _ _ _ _ _) gD)) rfl))))⟩)))))))) (λV=>QD zf)
def X1:(fJ×fJ×fJ)->Option ((fJ×Bool))|(q0,q1,q2)=>(Zu (q2,q1,q0,q2,(W<|(I q2:Int) - 1))>>=λ|.inl c=>O (c,J)|.inr d=>O (d,U))
def Qfo{q0 q1 q2 v5001 v5002}(V:X1 (q0,q1,q2)=O (v5001,v5002)):PC prog env 203 [(La q0),(La q1),(.ms 0 1 0 (I q2)<|I q2)] [(QI q2),Tm] (Qp v5002) [(QI v5001),Tm]:=by unfold X1 at V;exact gY (fn:=f203) rfl<|ge 1<|Qh<|gr 1<|Qe 1<|re 2<|Ql<|pG V (Qan _) (λc d V=>zf) (λe d V=>ge 1<|Qn zf) (hst:=(fZ [(QI q2),Tm] (λ_=>(fR (gj Qg _ _ _ _ _)<|fR (gj Qg _ _ _ _ _) gD)) rfl))
def vM:∀l:fJ,iG (cellsOf Qg l)=O (l.map Qg)
 |[]=>rfl
 |a::l=>by
  have c:iG (Naa (λa=>PV.b7<|Qg a) l)=O (l.map Qg):=by simpa[cellsOf]using vM l
  simp[cellsOf,iG,c]
def Qh7{P:fL}{E:Env}{n:List (Nat×Nat)}{o:Oper}{D:fO->PV}{H:List fU}{K:PV->List fU->Prop}{f:fM}{x:fO}{args:Array Operand}{ts:Array TypeId}{first cap:Array Value}{os:List (Nat×Nat)}{e0 e g:Nat}{ds:List fS}{l:fJ}(q:o.op=.call {callee:=.value x,args:=args,argTypes:=ts})(r:D x=.b7 (.raw<|.func (.func f) first cap))(hw:n=(5000,e0)::os)(s:gR H (args.toList.map D)=O ds)(hc:PC P E f (ds.map .b7) [] (.ms 0 g 0 (I l)<|I l) [.mt e g (cellsOf Qg l)])(j:K (.b7<|.ew<|l.map Qg) (H++[.mt e 2 []])):jt P E n o D H K:=by
 obtain⟨N,h⟩:=hc;refine⟨_,_,⟨N,λk j=>?_⟩,j⟩;have hl:I (cellsOf Qg l)=I l:=by rw[iL]
 have p:(H++[fU.mt e 1 (cellsOf Qg l)])[I H]?=O (.mt e 1<|cellsOf Qg l):=by simp
 have t:(cellsOf Qg l).take (I l)=cellsOf Qg l:=bk y9
 have c:(iG<|cellsOf Qg l).isSome=J:=by rw[vM];rfl
 have m:(cellsOf Qg l).all PV.plainCell=J:=pF yC _;have V:ga [fU.mt e g (cellsOf Qg l)] 0=O (e,g,cellsOf Qg l):=Zt rfl
 have d:iw (H++[fU.mt e 1 (cellsOf Qg l)]) (.ms (I H) 1 0 (I l)<|I l)=O (.ew<|l.map Qg,H++[.mt e 2 []]):=by simp only[iw,jx Qg l rfl yC p,Zt p,jN];simp
 simp only[gU,q,hw,r,show¬13000<=5000 by omega,show¬12000<=5000 by omega,show¬(5000=7000) by omega,show¬6000<=5000 by omega,ai,ak,tm,kW,s,h k j,V,t,c,m,hl,j7,and_self,dA,d,jN]
def Ip(ys:List Tmp)(o:Oper):Bool:=(match o.op with|.move (.tmp t)=>!ys.contains t|.call {callee:=.value (.tmp t),..}=>!ys.contains t|_=>J) &&(match o.dst with|some d=>!ys.contains d|none=>J)
section
variable{σ:Type}{P:fL}{E:Env}{Y:Nat->Nat->List fS->σ->Option (Bool×σ)}{hn:Hint}{ys:List Tmp}
theorem LL{call:gO}{Y:List fS->σ->Option (Bool×σ)}{r i:Nat}{ops:Array Oper}{o:Oper}{st:St}{out:σ}(h:Ip ys o=J):mr P call hn Y r ops i o ⟨st,ys,out⟩=(iW P call hn r ops i o st).map λst=>⟨st,ys,out⟩:=by
 simp only[Ip,jE]at h;obtain⟨c,j⟩:=h
 have f:sO ys o.dst=ys:=by
  unfold sO;split
  .rename_i d k;rw[k]at j;refine List.filter_eq_self.2 λx l=>?_
   have m:¬d∈ys:=by simpa using j
   have:x≠d:=λe=>m<|e ▸ l
   simpa using this
  .rfl
 unfold mr;split
 .rename_i t g n;rw[g]at c
  have:ys.contains t=U:=by simpa using c
  simp only[this,j6,ai,f]
 .rename_i t args ts g n;rw[g]at c
  have:ys.contains t=U:=by simpa using c
  simp only[this,j6,ai,f]
 .simp only[f]
theorem Bb{call:gO}{Y:List fS->σ->Option (Bool×σ)}{r:Nat}{ops:Array Oper}{out:σ}:∀(os:List Oper) (i:Nat) (st st':St),os.all (Ip ys)=J->lR P call hn r ops i os st=O st'->kM P call hn Y r ops i os ⟨st,ys,out⟩=O ⟨st',ys,out⟩
 |[],i,st,st',_,h=>by cases h;rfl
 |o::os,i,st,st',hc,h=>by
  simp only[bH,jE]at hc;simp only[lR]at h;split at h
  .rename_i c d;simp only[kM,LL hc.1,d,jN];exact Bb os (i+1) c st' hc.2 h
  .cases h
theorem OY{r:Nat}{ops:Array Oper}{st:St}{out:σ}{Q:Ex->pZ σ->Prop}(hc:ops.toList.all (Ip ys)=J)(h:G P E hn r ops 0 (st,[]) λc=>Q .normal ⟨c.1,ys,out⟩):IR P E Y hn (.region r ops U) ⟨st,ys,out⟩ Q:=by obtain⟨s,fl,⟨N,d⟩,e⟩:=h;refine uy ⟨⟨s,ys,out⟩,⟨N,λk n f g=>?_⟩,e⟩;exact Bb _ _ _ _ hc<|rF _ _ _ _ _ _ _ _ _ _<|d k f
end
def Fs:fJ×fJ×fJ->Option (List fJ)|(lo,hi,at_)=>Qy at_>>=λc=>X1 (lo,hi,at_)>>=λ((n,ok):(fJ×Bool))=>QN (I n=I at_)>>=λ(_:Unit)=>if ok=J then Fs (lo,hi,n)>>=λr=>O (c::r)else O [c]
 partial_fixpoint
def My(lo hi:fJ):Option (List fJ):=Qy lo>>=λat_=>X6 (lo,hi)>>=λn=>if n>0 then Fs (lo,hi,at_)else O []
def Mx{σ:Type}{s s':St}{y c:List Tmp}{o:σ}(h:s=s')(d:y=c):(⟨s,y,o⟩:pZ σ)=⟨s',c,o⟩:=by rw[h,d]
def Fm{lo hi:fJ}{l:List fJ}(j:My lo hi=O l)(Y:Nat->Nat->List fS->Bg->Option (Bool×Bg))(fin s:Bg)(p:Rp Y fin (l.map λa:fJ=>fS.ew<|a.map Qg) s):
  IR prog env Y (env.hint 202) (FY f202) ⟨⟨.undef::[.eI [.ew (lo.map Qg)],.eI [.ew (hi.map Qg)]]++Nab (f202.ntmps - ([PV.eI [.ew (lo.map Qg)],.eI [.ew (hi.map Qg)]].length+1)) (.fz []),[]⟩,[0],s⟩ λe is=>(match e with|.exit _=>False|_=>True)/\is.out=fin:=by
 unfold My at j;obtain⟨q,v,j⟩:=Yf j;obtain⟨n,w,j⟩:=Yf j;refine OW (fn:=f202) rfl ?_ (FY f202) rfl;refine rJ<|OY kr<|Qe 1<|go 0 3 Qg (QF v)<|re 1 ?_;refine rJ<|OY kr<|Qe 2<|cp (λH=>W4 w H)<|re 2 ?_;refine yO<|OR ?_
 refine Hl (λ(x:Bool×fJ×List fJ×Bg)=>⟨⟨kp 22 [(1,.eI [.ew (lo.map Qg)]),(2,.eI [.ew (hi.map Qg)]),(4,.ms 0 1 0 (I x.2.1)<|I x.2.1),(5,Qp x.1)],[.mt 3 1 (cellsOf Qg x.2.1)]⟩,[0],x.2.2.2⟩)
  (λx=>((x.1=J/\Fs (lo,hi,x.2.1)=O x.2.2.1)\/(x.1=U/\x.2.2.1=[]))/\Rp Y fin (x.2.2.1.map λa:fJ=>fS.ew<|a.map Qg) x.2.2.2) (λx=>I x.2.2.1) (λx d=>?_) (I l+1) (decide<|n>0,q,l,s) _ (du _) ⟨?_,p⟩ ?_
 .obtain⟨ok,at_,rest,s⟩:=x;obtain⟨d,p⟩:=d;simp only at d p;refine rJ<|rJ<|OY kr<|re 1 ?_;rcases d with⟨rfl,d⟩|⟨rfl,rfl⟩
  .refine H8 kr<|Ir ?_;rw[Fs]at d;obtain⟨c,k1,d⟩:=Yf d;obtain⟨⟨m,ok⟩,k2,d⟩:=Yf d;obtain⟨_,k3,d⟩:=Yf d;replace k3:=Qhu k3
   have k:∃r,rest=c::r/\((ok=J/\Fs (lo,hi,m)=O r)\/(ok=U/\r=[])):=by
    cases ok with
    |true=>
     rw[aj rfl]at d;obtain⟨r,y,d⟩:=Yf d;cases d;exact⟨r,rfl,.inl ⟨rfl,y⟩⟩
    |false=>
     rw[ae yD]at d;cases d;exact⟨[],rfl,.inr ⟨rfl,rfl⟩⟩
   obtain⟨r,rfl,z⟩:=k;have A:∀(b:Bool) (out:Bg) {Q:Ex->pZ Bg->Prop},YE Y [fS.ew (c.map Qg)] s b out->True:=λ_ _ _ _=>trivial
   cases p with
   |go t u=>
    refine rJ<|yO<|rJ<|uy<|GW rfl rfl rfl rfl (of_decide_eq_true kr)<|r8 (λ_ _=>rfl) kr<|Qin rfl<|r8 (λ_ _=>rfl) kr<|Qh7 (f:=154) (first:=#[]) (cap:=#[]) (os:=[]) (e0:=3) (l:=c) rfl kr kr (iu (pR<|jx (e:=3) Qg at_ rfl yC kr) ng) (QF k1)<|wM rfl rfl rfl kr kr t<|r8 (λ_ _=>rfl) kr<|QiQ (b:=J) rfl kr<|Er ?_;refine Ez kr<|Ir ?_
    change IR prog env Y (env.hint 202) _ _ _
    refine Vg (is':=⟨_,[17,0],_⟩) rfl ?_;refine OY kr<|Qe 3<|Zg (Qfo k2)<|re 1 ?_;refine⟨(ok,m,r,_),?_,?_,z,u⟩
    .refine Mx ?_ rfl;show _=(⟨kp 22 [(1,.eI [.ew (lo.map Qg)]),(2,.eI [.ew (hi.map Qg)]),(4,.ms 0 1 0 (I m)<|I m),(5,Qp ok)],[.mt 3 1 (cellsOf Qg m)]⟩:St)
     rw[k3];exact fZ [.mt 3 1 (cellsOf Qg m)] (λ_=>(fR (gj Qg _ _ _ _ _) gD)) rfl
    .simp
   |stop t=>
    refine rJ<|yO<|rJ<|uy<|GW rfl rfl rfl rfl (of_decide_eq_true kr)<|r8 (λ_ _=>rfl) kr<|Qin rfl<|r8 (λ_ _=>rfl) kr<|Qh7 (f:=154) (first:=#[]) (cap:=#[]) (os:=[]) (e0:=3) (l:=c) rfl kr kr (iu (pR<|jx (e:=3) Qg at_ rfl yC kr) ng) (QF k1)<|wM rfl rfl rfl kr kr t<|r8 (λ_ _=>rfl) kr<|QiQ (b:=U) rfl kr<|Er ?_;exact H8 kr<|S8 ⟨trivial,rfl⟩
  .refine Ez kr<|Oz ?_;cases p;exact⟨trivial,rfl⟩
 .by_cases g:n>0
  .rw[aj g]at j;exact .inl ⟨decide_eq_true g,j⟩
  .rw[ae g]at j;cases j;exact .inr ⟨y3 g,rfl⟩
 .exact Mx (fZ [.mt 3 1 (cellsOf Qg q)] (λ_=>(fR (gj Qg _ _ _ _ _) gD)) rfl) rfl
def YZ:(fJ×fJ×Int)->Option (Unit⊕ Unit)|(p1,p0,c)=>if c<(I p1:Int)then idx p1 c>>=λd=>(if d<0 then O J else idx p0 c>>=λe=>O<|decide<|d>=e)>>=λ(f:Bool)=>if f=J then O (Naf ())else YZ (p1,p0,(W<|c+1))else O (Nag ())
 partial_fixpoint
def Qdk:∀x r,YZ x=O r->match x with|(p1,p0,c)=>LQ f204 204 [1,1,0,1,0,0] 0 ⟨kp 30 [(0,(La p0)),(12,(La p1)),(13,(Qd (I p1:Int))),(14,(Qd c))],[]⟩ (P2 .ret (λ_ d=>⟨sl d 30 [(4,(Qp U))],[]⟩) (.exit 0) (λ_ d=>⟨sl d 30 [],[]⟩) r):=by refine YZ.partial_correctness _ (λYZ Qdk x r V=>?_);obtain⟨p1,p0,c⟩:=x;exact lp<|ge 1<|Qh<|ri V (λV=>Qm<|Qh<|Ql<|gr 1 (QE 1 Qg V λf V=>re 3<|Qh (bi V λe j V=>Zm (λd=>⟨sl d 30 [(0,(La p0)),(12,(La p1)),(13,(Qd (I p1:Int))),(14,(Qd c)),(28,(Qp e))],[]⟩) (have V:=j;gp (Qe 3<|gs 21 V (λV=>re 7 zf) (λV=>Qe 3 (QE 1 Qg V λg V=>re 3 zf)))) (λd=>lf V (λV=>ge 1<|Qn zf) (λV=>Qm<|gp<|re 2<|Qdk _ _ V _ kr))))) (λV=>QD zf)
def Ug:(fJ×fJ)->Option Bool|(p0,p1)=>if(I p1:Int)≠(I p0:Int)then O U else(YZ (p1,p0,0)>>=λ|.inl _=>O U|.inr _=>O J)
def Qhf{p0 p1 r0}(V:Ug (p0,p1)=O r0):FQ 204 [(Lb p0),(Lb p1)] (Qp r0):=by unfold Ug at V;exact fp (fn:=f204) rfl<|ge 1<|Qh<|gr 1<|QM Qg p1<|Qe 1<|QM Qg p0<|re 1<|zz V (λV=>ge 1<|Qn zf) (λV=>Qm<|Qh<|gr 1<|QM Qg p1<|re 1<|Ql (pG V (Qdk _) (λ_ d V=>zf) λ_ d V=>ge 1<|Qn zf))
def X5:fJ->Option JM|p0=>Xt p0>>=λc=>O (⟨c,p0⟩:JM)
def Qe5{p0 r0}(V:X5 p0=O r0):FQ 198 [(Lb p0)] (.b7<|JM.b8 r0):=by unfold X5 at V;exact fp (fn:=f198) rfl<|ge 1<|gr 1 (bi V λd c V=>cp (Qed c)<|re 3<|Qn zf)
def ZG:(fJ×fJ×Int×Int)->Option Int|(p1,p0,d,c)=>if c<(if(I p1:Int)<(I p0:Int)then(I p1:Int)else(I p0:Int))then idx p0 c>>=λe=>idx p1 c>>=λf=>ZG (p1,p0,(W<|d+(W<|e*f)),(W<|c+1))else O d
 partial_fixpoint
def QeB:∀x r,ZG x=O r->match x with|(p1,p0,c,e)=>LQ f224 224 [1,1,0,1,0,0] 0 ⟨kp 28 [(0,(La p0)),(1,(La p1)),(5,(Qd c)),(11,(Qd (if(I p1:Int)<(I p0:Int)then(I p1:Int)else(I p0:Int)))),(12,(Qd e))],[]⟩ (P1 (.exit 0) (λf d=>⟨sl d 28 [(5,(Qd f))],[]⟩) r):=by refine ZG.partial_correctness _ (λZG QeB x r V=>?_);obtain⟨p1,p0,c,e⟩:=x;exact lp<|ge 1<|Qh<|ri V (λV=>Qm<|Qh<|Ql<|ge 2<|Zd<|Qe 3 (QE 1 Qg V λg V=>Qe 3 (QE 1 Qg V λj V=>re 4 ⟨kr,gp<|re 2<|QeB _ _ V _ kr⟩))) (λV=>QD zf)
def RG:(fJ×fJ)->Option Int|(p0,p1)=>ZG (p1,p0,0,0)>>=λc=>O c
def QgC{p0 p1 r0}(V:RG (p0,p1)=O r0):FQ 224 [(Lb p0),(Lb p1)] (Qd r0):=by unfold RG at V;exact fp (fn:=f224) rfl<|ge 1<|ge 1<|Qh<|gr 1<|QM Qg p0<|Qe 1<|QM Qg p1<|QA rfl (λ_=>Hf (k:=.i64) (m:=(I p0:Int)) (n:=(I p1:Int)) rfl kr kr)<|re 1<|Ql (kY V (QeB _) λc d V=>ge 2<|Qn zf)
def Wg:(fJ×fJ)->Option Int|(p0,p1)=>RG (p0,p1)>>=λc=>O c
def QfQ{p0 p1 r0}(V:Wg (p0,p1)=O r0):FQ 205 [(Lb p0),(Lb p1)] (Qd r0):=by unfold Wg at V;exact fp (fn:=f205) rfl<|ge 1<|gr 2 (bi V λd c V=>cp (QgC c)<|re 1<|Qn zf)
def TJ:(fJ×fJ)->Option (Int×Bool)|(p0,p1)=>Ug (p0,p1)>>=λc=>if c=U then O (0,U)else X5 p0>>=λv2=>Wg (v2.bm,p1)>>=λd=>O (d,J)
def QgX{p0 p1 r0 r1}(V:TJ (p0,p1)=O (r0,r1)):FQ 173 [(Lb p0),(Lb p1)] (.fz [(Qd r0),(Qp r1)]):=by unfold TJ at V;exact fp (fn:=f173) rfl<|ge 2<|Qh<|gr 2 (bi V λd c V=>cp (Qhf c)<|re 1<|zb V (λV=>ge 2<|Qn zf) (λV=>Qm<|gr 1 (bi V λv2 c V=>cp (Qe5 c)<|Qe 2 (bi V λe c V=>cp (QfQ c)<|re 2<|Qn zf))))
def VJ:(Int×Int×Int×fJ×Int×Int×Int)->Option ((fJ×Int))|(q0,q1,q2,q3,q4,q5,q6)=>Qy q3>>=λc=>if q0=3 then O (c,q4)else O (c,q2)
def QfO{q0 q1 q2 q3 q4 q5 q6 v5001 v5002}(V:VJ (q0,q1,q2,q3,q4,q5,q6)=O (v5001,v5002)):PC prog env 192 [(Ld q0 q1 q2 q3 q4 q5 q6)] [(QB q0 q1 q2 q3 q4 q5 q6)] (.ptr 3 0) [(QB q0 q1 q2 q3 q4 q5 q6),(QB q0 q1 q2 q3 q4 q5 q6),(QI v5001),(.box [(Qd v5002),(.ms 2 1 0 (I v5001)<|I v5001),(Qd q0),(Qd q1),(Qd q2),(La q3),(Qd q4),(Qd q5),(Qd q6)])]:=by unfold VJ at V;exact gY (fn:=f192) rfl<|ge 2<|Qh<|Zd<|Qe 4 (bi V λd c V=>go 2 3 Qg (QF c)<|re 5 ⟨kr,Qh<|ge 3<|mQ V (λV=>gp<|re 7<|ge 2<|Qn zf) (λV=>Qm<|ge 2<|Qn zf)⟩)
def Vs:(Jt×fJ)->Option Int|(p0,p1)=>RG (p0.bm,p1)>>=λc=>O<|W<|p0.first+c
def Qf0{p0 p1 r0}(V:Vs (p0,p1)=O r0):FQ 206 [(Jt.b8 p0),(Lb p1)] (Qd r0):=by unfold Vs at V;exact fp (fn:=f206) rfl<|ge 2<|Qh<|Zd<|Qe 5 (bi V λd c V=>cp (QgC c)<|re 2 ⟨kr,Qn zf⟩)
def Wx:(Int×Int)->Option Int|(p0,p1)=>if p1<=0 then O 0 else pz p0 p1>>=λc=>if c<0 then O (W<|c+p1)else O c
def Qh4{p0 p1 r0}(V:Wx (p0,p1)=O r0):FQ 207 [(Qg p0),(Qg p1)] (Qd r0):=by unfold Wx at V;exact fp (fn:=f207) rfl<|ge 1<|Qh<|ge 2<|ri V (λV=>ge 1<|Qn zf) (λV=>Qm<|gr 2 (bi V λd c V=>QA rfl (λ_=>OH (a:=p0) (b:=p1) c rfl kr kr)<|re 1<|Qh<|ge 2<|ri V (λV=>gp<|re 4<|ge 2<|Qn zf) (λV=>Qm<|ge 2<|Qn zf)))
def TW:(Qj×fJ)->Option (Int×Bool)|(p0,p1)=>VJ (p0.bx,p0.bc,p0.ek,p0.bm,p0.ed,p0.dk,p0.ep)>>=λ(d,v2)=>Vs ((⟨v2,d⟩:Jt),p1)>>=λc=>if p0.bx=2 then O (c,J)else if p0.bx=3 then Wx (c,p0.ep)>>=λe=>O ((W<|p0.ek+(W<|p0.dk*e)),J)else O (0,U)
def QhS{p0 p1 r0 r1}(V:TW (p0,p1)=O (r0,r1)):FQ 174 [(Qj.b8 p0),(Lb p1)] (.fz [(Qd r0),(Qp r1)]):=by unfold TW at V;exact fp (fn:=f174) rfl<|ge 3<|Qh<|gr 1 (sB V λd v2 c V=>Zg (QfO c)<|Qe 4 (bi V λf c V=>Qh9 (args:=[(.agg [(Qd v2),(.ms 2 1 0 (I d)<|I d)]),(La p1)]) (Qf0 c []) (iu (xx<|gk kr<|gk (jx (e:=3) Qg d rfl yC kr) mu)<|iu kr ng)<|re 1<|ge 2<|Ql<|ge 2<|mQ V (λV=>ge 3<|Qn zf) (λV=>ge 2<|mQ V (λV=>Qh<|Zd<|Qe 7 (bi V λg c V=>cp (Qh4 c)<|re 4 ⟨kr,Qn zf⟩)) (λV=>Qm<|ge 2<|Qn zf))))
def YY:((List Qa)×fJ×(List QC)×(List QC)×Int)->Option ((List QC))|(p0,p1,v2,g,f)=>if f<(I p0:Int)then idx p0 f>>=λc=>JQ (c.box.lo,c.box.hi)>>=λ(k,l)=>My k l>>=λm=>Bj (λ(j:fJ) (d:(List QC))=>TJ (p1,j)>>=λ(e,r)=>TW (c.be,j)>>=λ(n,p)=>QN (0<=e/\(e).toNat<I v2)>>=λ_=>idx d e>>=λs=>iM d e (⟨(!p),c.be.bc,n⟩:QC)>>=λq=>O q) m g>>=λ(d:(List QC))=>YY (p0,p1,v2,d,(W<|f+1))else O g
 partial_fixpoint
def Qeb:∀x r,YY x=O r->match x with|(p0,p1,v2,m,p)=>LQ f124 124 [1,1,0,1,0,0] 3 ⟨kp 55 [(3,(.ptr 0 0)),(5,(.ptr 2 0)),(16,(Q7 p0)),(17,(Qd (I p0:Int))),(18,(Qd p))],[(.box [(La p1)]),(.mt 198 (mg v2)<|cellsOf QC.b8 m),(.box [(.ms 1 (mg v2) 0 (I v2)<|I v2)])]⟩ (P1 (.exit 0) (λu d=>⟨sl d 55 [(5,(.ptr 2 0))],[(.box [(La p1)]),(.mt 198 (mg v2)<|cellsOf QC.b8 u),(.box [(.ms 1 (mg v2) 0 (I v2)<|I v2)])]⟩) r):=by
 refine YY.partial_correctness _ (λYY Qeb x r V=>?_);obtain⟨p0,p1,v2,m,p⟩:=x
 exact lp<|ge 1<|Qh<|ri V (λV=>Qm<|Qh<|Ql<|Qh<|gp (QE 9 Qa.b8 V λf V=>re 3<|gr 6 (sB V λv w k V=>cp (Qf8 k)<|Q6<|Ql (bi V λB k V=>bi V λj G V=>QiW (g:=(λa:fJ=>fS.ew<|a.map Qg)) (Hp:=λ(j:(List QC))=>[(.box [(La p1)]),(.mt 198 (mg v2)<|cellsOf QC.b8 j),(.box [(.ms 1 (mg v2) 0 (I v2)<|I v2)]),(Zp f.box.lo f.box.hi f.be.bx f.be.bc f.be.ek f.be.bm f.be.ed f.be.dk f.be.ep)]) (gf:=202) (caps:=[(.eI [(Lb v)]),(.eI [(Lb w)])]) (fn:=f202) (c:=FY f202) G kr kr kr rfl kr kr (Fm k) (λC j D V=>gp<|re 1 ⟨rfl,Ql<|gr 2 (sB V λq E k V=>cp (QgX k)<|re 5<|gr 3 (sB V λz A k V=>cp (QhS k)<|re 5<|gp<|Qe 9 (gi V λt V=>QA rfl (λ_=>Qh0 (e:=198) (n:=q) (tt:=1) (g:=(mg v2)) (len:=I v2) (cap:=I v2) (size:=3) t kr kr rfl kr kr) (bi V λF K V=>bi V λs k V=>Zb (λH=>H.set 1<|.mt 198 (mg v2)<|cellsOf QC.b8 s) rfl kr (λ_=>Qir QC.b8 (l:=j) (n:=q) (y:=(⟨(!A),f.be.bc,z⟩:QC)) (size:=3) k K QC.fit kr kr rfl kr kr kr kr)<|Q6 (by obtain rfl:=vz V;exact⟨rfl,MT (sl:=kp 55 [])<|fZ [(.box [(La p1)]),(.mt 198 (mg v2)<|cellsOf QC.b8 s),(.box [(.ms 1 (mg v2) 0 (I v2)<|I v2)]),(Zp f.box.lo f.box.hi f.be.bx f.be.bc f.be.ek f.be.bm f.be.ed f.be.dk f.be.ep)] (λ_=>(fR kr<|fR (gj QC.b8 _ _ _ _ _)<|fR kr<|fR kr gD)) rfl⟩)))))⟩)<|gp<|re 2<|Qeb _ _ V _<|fZ [(.box [(La p1)]),(.mt 198 (mg v2)<|cellsOf QC.b8 j),(.box [(.ms 1 (mg v2) 0 (I v2)<|I v2)])] (λ_=>(fR kr<|fR (gj QC.b8 _ _ _ _ _)<|fR kr gD)) rfl)))) (λV=>QD zf)
def TE:((List Qa)×fJ)->Option (List QC)|(p0,p1)=>Xl p1>>=λd=>kj 24 d (⟨U,0,0⟩:QC)>>=λv2=>YY (p0,p1,v2,v2,0)>>=λc=>QN (I c=I v2)>>=λ_=>O c
def QhH{p0 p1 r0}(V:TE (p0,p1)=O r0):FQ 124 [(.ew<|(Naa Qa.b8) p0),(Lb p1)] (R1 r0):=by unfold TE at V;exact fp (fn:=f124) rfl<|ge 2<|gr 1 (bi V λj g V=>cp (TT g) (bi V λv2 g V=>Zb (v:=.ms 1 (mg v2) 0 (I v2) (I v2)) (λH=>H++[.mt 198 (mg v2) (cellsOf QC.b8 v2)]) rfl kr (by intro K k;exact QiJ 1 QC.b8 (z:=(⟨U,0,0⟩:QC)) (n:=j) (bytes:=24) (e:=198) (size:=3) (os:=[]) g kr kr kr kr kr rfl kr rfl kr kr kr k)<|re 2<|Qh<|gr 1<|QM Qa.b8 p0<|re 1<|Ql<|kY V (Qeb _) (λf d V=>ge 2<|Qn (gi V λc V=>(by obtain rfl:=vz V;exact⟨trivial,Ym [(.ms 1 (mg v2) 0 (I v2)<|I v2)] kr<|Nh<|Ms (e:=198) QC.b8 f c yC kr⟩))) (hst:=(fZ [(.box [(La p1)]),(.mt 198 (mg v2)<|cellsOf QC.b8 v2),(.box [(.ms 1 (mg v2) 0 (I v2)<|I v2)])] (λ_=>(fR kr<|fR (gj QC.b8 _ _ _ _ _)<|fR kr gD)) rfl))))
def Vd:((List QC)×Int)->Option Qw|(p0,p1)=>idx p0 0>>=λc=>idx p0 0>>=λv2=>idx p0 0>>=λd=>((if(I p0:Int)>1 then O (!c.fill)else O U)>>=λ(e:Bool)=>(if e=J then idx p0 1>>=λf=>O (!f.fill)else O U)>>=λ(g:Bool)=>if g=J then idx p0 1>>=λj=>O (j.bc==v2.bc)else O U)>>=λ(k:Bool)=>if k=J then idx p0 1>>=λl=>O (⟨p1,1,c.fill,v2.bc,d.offset,(W<|l.offset - d.offset)⟩:Qw)else O (⟨p1,1,c.fill,v2.bc,d.offset,0⟩:Qw)
def QhI{p0 p1 r0}(V:Vd (p0,p1)=O r0):FQ 170 [(.ew<|(Naa QC.b8) p0),(Qg p1)] (.b7<|Qw.b8 r0):=by
 unfold Vd at V
 exact fp (fn:=f170) rfl<|ge 1<|Qh<|Zd<|Qe 2 (QE 3 QC.b8 V λe V=>Qe 3 (QE 3 QC.b8 V λv2 V=>Qe 3 (QE 3 QC.b8 V λf V=>re 5 ⟨kr,Qh<|Qh (bi V λg c V=>Zm (λd=>⟨sl d 53 [(0,(R1 p0)),(4,(.ptr 0 0)),(5,(.ptr 1 0)),(43,(Qp g))],[U9,(WT p1 e.fill v2.bc f.offset)]⟩) (have V:=c;Pj (Qe 1<|QM QC.b8 p0<|Qe 2 (bi V λk c V=>ZF (j:=8) (λd=>⟨sl d 53 [(0,(R1 p0)),(4,(.ptr 0 0)),(5,(.ptr 1 0)),(27,(Qp k))],[U9,(WT p1 e.fill v2.bc f.offset)]⟩) (λd=>Qe 1 (bi V λl c V=>ZF (j:=15) (λd=>⟨sl d 53 [(0,(R1 p0)),(4,(.ptr 0 0)),(5,(.ptr 1 0)),(34,(Qp l))],[U9,(WT p1 e.fill v2.bc f.offset)]⟩) (λd=>Qe 1<|lJ 35 V (λV=>Qe 1 (QE 3 QC.b8 V λm V=>re 6 ⟨kr,zf⟩)) (λV=>re 8 ⟨kr,zf⟩)) (λhJ=>lJ 28 c (λV=>Qe 1 (QE 3 QC.b8 V λn V=>Qe 4 zf)) (λV=>Qe 6 zf)))) (λhJ=>gs 23 c (λV=>Qe 4 zf) (λV=>Qe 4 zf))))) (λd=>lf V (λV=>Zd<|Qe 1 (QE 3 QC.b8 V λp V=>re 7 ⟨kr,ge 2<|Qn zf⟩)) (λV=>Qm<|ge 2<|Qn zf)))⟩)))
def Uh:(Qw×Int)->Option QC|(p0,p1)=>if p0.fill=J then O (⟨J,0,0⟩:QC)else O (⟨U,p0.bc,(W<|p0.offset+(W<|p1*p0.dk))⟩:QC)
def QgN{p0 p1 r0}(V:Uh (p0,p1)=O r0):FQ 171 [(Qw.b8 p0),(Qg p1)] (.b7<|QC.b8 r0):=by unfold Uh at V;exact fp (fn:=f171) rfl<|ge 2<|Qh<|ge 2<|lf V (λV=>ge 2<|Qn zf) (λV=>Qm<|ge 11<|Qn zf)
def JD:((List QC)×Qw×(List Qw)×Int×Int)->Option ((Int×(List Qw)×Int))|(p0,c,j,d,g)=>(if(W<|g+1)=(I p0:Int)then O J else idx p0 (W<|g+1)>>=λe=>Uh ((⟨c.er,d,c.fill,c.bc,c.offset,c.dk⟩:Qw),d)>>=λf=>O<|!((e.fill==f.fill) &&((e.bc==f.bc) &&((e.offset==f.offset) &&J))))>>=λ(k:Bool)=>if k=J then app 48 j ([(⟨c.er,d,c.fill,c.bc,c.offset,c.dk⟩:Qw)]:List Qw)>>=λl=>O (d,l,(W<|g+1))else JD (p0,c,j,(W<|d+1),(W<|g+1))
 partial_fixpoint
def Qff:∀x r,JD x=O r->match x with|(p0,c,g,j,k)=>LQ f123 123 [1,0,1,1,0,1,0,0,1,0,1,0,0] 2 ⟨kp 41 [(0,(R1 p0)),(3,(Uj g)),(4,(Qd k)),(5,(.ptr 1 0))],[(.tok 193<|I g),(Mb c.er j c.fill c.bc c.offset c.dk)]⟩ (P1 (.exit 1) (λ(m,l,n) d=>⟨sl d 41 [(0,(R1 p0)),(3,(Uj l)),(4,(Qd n))],[(.tok 193<|I l),(Mb c.er m c.fill c.bc c.offset c.dk)]⟩) r):=by
 refine JD.partial_correctness _ (λJD Qff x r V=>?_);obtain⟨p0,c,g,j,k⟩:=x
 exact lp<|Ql<|Qh<|ge 3<|Qh (bi V λp u V=>Zm (λd=>⟨sl d 41 [(0,(R1 p0)),(3,(Uj g)),(4,(Qd<|W<|k+1)),(5,(.ptr 1 0)),(31,(Qp p))],[(.tok 193<|I g),(Mb c.er j c.fill c.bc c.offset c.dk)]⟩) (have V:=u;Zd (Qe 2<|QM QC.b8 p0<|Qe 2<|Ba 21 V (λV=>re 10 ⟨kr,zf⟩) (λV=>Qe 2 (QE 3 QC.b8 V λe V=>Qe 4 (bi V λf s V=>cp (QgN s)<|QA rfl (λ_=>Qip (t:=198) (xs:=#[.bool e.fill,.int .i64 e.bc,.int .i64 e.offset]) (ys:=#[.bool f.fill,.int .i64 f.bc,.int .i64 f.offset]) (b:=((e.fill==f.fill) &&((e.bc==f.bc) &&((e.offset==f.offset) &&J)))) rfl kr kr<|MJ (fs:=prog.fieldsOf 198) kr kr kr kr)<|re 1 ⟨kr,zf⟩))))) (λd=>lf V (λV=>gr 3 (bi V λq s V=>YA 193 6 48 0 Qw.b8 g ([(⟨c.er,j,c.fill,c.bc,c.offset,c.dk⟩:Qw)]:List Qw) q (xs:=(Naa Qw.b8) g) (es:=(Naa Qw.b8) ([(⟨c.er,j,c.fill,c.bc,c.offset,c.dk⟩:Qw)]:List Qw)) (L:=(Naa Qw.b8)) yC rfl rfl Qw.fit s<|re 1<|QD zf)) (λV=>Qm<|gp<|re 5<|Qff _ _ V _ kr)))
def JC:((List QC)×(List Qw)×Int)->Option ((List Qw))|(p0,d,c)=>if c<(I p0:Int)then sub p0 c (I p0:Int)>>=λj=>Vd (j,c)>>=λe=>JD (p0,e,d,e.len,c)>>=λ(k,f,g)=>JC (p0,f,g)else O d
 partial_fixpoint
def WQ:∀x r,JC x=O r->match x with|(p0,e,c)=>LQ f123 123 [1,0,1,1,0,1,0,0] 1 ⟨kp 41 [(0,(R1 p0)),(3,(Uj e)),(4,(Qd c))],[(.tok 193<|I e)]⟩ (P1 (.exit 0) (λf d=>⟨sl d 41 [(3,(Uj f))],[(.tok 193<|I f)]⟩) r):=by refine JC.partial_correctness _ (λJC WQ x r V=>?_);obtain⟨p0,e,c⟩:=x;exact lp<|Qh<|gr 2<|QM QC.b8 p0<|re 1<|ri V (λV=>Qm<|Ql<|gr 2 (bi V λg j V=>Uf 3 QC.b8 p0 g c (I p0:Int) (es:=(Naa QC.b8) p0) (L:=(Naa QC.b8)) (a:=vX c) (b:=O (I<|(Naa QC.b8) p0)) yC rfl (λ_=>by first|rfl|exact oy<|QC.fit _) j rfl (Or.inr ⟨rfl,rfl⟩)<|Qe 1 (bi V λn j V=>cp (QhI j)<|re 2<|Ql (kY V (Qff _) λ⟨k,l,m⟩ d V=>WQ _ _ V _ kr)))) (λV=>QD zf)
def TS:(List QC)->Option (List Qw)|p0=>JC (p0,([]:List Qw),0)>>=λc=>O c
def Qij{p0 r0}(V:TS p0=O r0):FQ 123 [(.ew<|(Naa QC.b8) p0)] (Jf r0):=by unfold TS at V;exact fp (fn:=f123) rfl<|ge 1<|QiO<|ge 1<|Qh<|QiM<|Qh<|ge 1<|Ql (kY V (WQ _) λc d V=>ge 2<|Qn zf)
def U0:fJ->Option (List Qa)|p0=>Xa p0>>=λ(e,v2,c)=>ZI ([(⟨(⟨v2,c⟩:Qo),(⟨1,0,0,([]:fJ),0,0,0⟩:Qj)⟩:Qa)]:List Qa)>>=λd=>O d
def QgZ{p0 r0}(V:U0 p0=O r0):FQ 166 [(Lb p0)] (Q7 r0):=by unfold U0 at V;exact fp (fn:=f166) rfl<|ge 1<|gr 1 (N9 V λg v2 c d V=>QA (v:=.b7 (.agg [(Lb v2),(Lb c)])) rfl (λ_=>Rz (f:=111) (first:=#[]) (cap:=#[]) (e:=3) (ow':=[]) (ds:=[(Lb p0)]) (p:=(.agg [(.ms 1 g 0 (I v2)<|I v2),(.ms 2 1 0 (I c)<|I c)])) (H1:=(Uu g (I v2) (I c) v2 c)) rfl kr kr kr kr (VP d)<|xx<|gk (jx (e:=3) Qg v2 rfl yC kr)<|gk (jx (e:=3) Qg c rfl yC kr) mu)<|Qe 3 (bi V λj d V=>cp (JT d)<|re 1<|Qn zf))
def Xs:(fJ×Int×fJ×Int)->Option (fJ)|(p0,p1,d,c)=>if c<(I p0:Int)then idx p0 c>>=λe=>app 8 d ([(W<|e*p1)]:fJ)>>=λf=>Xs (p0,p1,f,(W<|c+1))else O d
 partial_fixpoint
def Qec:∀x r,Xs x=O r->match x with|(p0,p1,c,e)=>LQ f197 197 [1,1,0,1,0,0] 1 ⟨kp 22 [(1,(Qd p1)),(5,(TR c)),(8,(La p0)),(9,(Qd (I p0:Int))),(10,(Qd e))],[(.tok 3<|I c)]⟩ (P1 (.exit 0) (λf d=>⟨sl d 22 [(5,(TR f))],[(.tok 3<|I f)]⟩) r):=by refine Xs.partial_correctness _ (λXs Qec x r V=>?_);obtain⟨p0,p1,c,e⟩:=x;exact lp<|ge 1<|Qh<|ri V (λV=>Qm<|Qh<|Ql<|Qh<|gp (QE 1 Qg V λg V=>re 2<|gp<|Qe 5 (bi V λj k V=>YA 3 1 8 0 Qg c ([(W<|g*p1)]:fJ) j (xs:=(Naa Qg) c) (es:=(Naa Qg) ([(W<|g*p1)]:fJ)) (L:=(Naa Qg)) yC rfl rfl yC k<|re 1<|gp<|re 2<|Qec _ _ V _ kr))) (λV=>QD zf)
def U4:(fJ×Int)->Option fJ|(p0,p1)=>Xs (p0,p1,([]:fJ),0)>>=λc=>O c
def QhJ{p0 p1 r0}(V:U4 (p0,p1)=O r0):FQ 197 [(Lb p0),(Qg p1)] (La r0):=by unfold U4 at V;exact fp (fn:=f197) rfl<|ge 1<|ge 1<|Qh<|gr 1<|QM Qg p0<|re 1<|Ql (kY V (Qec _) λc d V=>ge 2<|Qn zf)
def Us:(Qw×fJ)->Option Qj|(p0,p1)=>Xt p1>>=λc=>if p0.fill=J then O (⟨1,0,0,([]:fJ),0,0,0⟩:Qj)else(if p0.dk=0 then O J else Xl p1>>=λd=>O<|decide<|d<=p0.len)>>=λ(v2:Bool)=>if v2=J then U4 (c,p0.dk)>>=λe=>O (⟨2,p0.bc,p0.offset,e,0,0,0⟩:Qj)else O (⟨3,p0.bc,p0.offset,c,0,p0.dk,p0.len⟩:Qj)
def Qhr{p0 p1 r0}(V:Us (p0,p1)=O r0):FQ 167 [(Qw.b8 p0),(Lb p1)] (.b7<|Qj.b8 r0):=by unfold Us at V;exact fp (fn:=f167) rfl<|ge 2<|gr 1 (bi V λe c V=>cp (Qed c)<|re 1<|Qh<|Ql<|ge 3<|lf V (λV=>ge 2<|Qn zf) (λV=>Qh (bi V λv2 f V=>Zm (λd=>⟨sl d 42 [(2,(.ptr 0 0)),(4,(.ptr 1 0)),(5,(La e)),(12,(Qp v2))],[(Mb p0.er p0.len p0.fill p0.bc p0.offset p0.dk),Za]⟩) (have V:=f;Zd (Qe 4<|Ba 16 V (λV=>re 7 ⟨kr,zf⟩) (λV=>Qe 1 (bi V λg c V=>cp (TT c)<|re 5 ⟨kr,zf⟩)))) (λd=>lf V (λV=>Qh<|Zd<|Qe 7 (bi V λj c V=>cp (QhJ c)<|re 2 ⟨kr,Qn zf⟩)) (λV=>Qm<|ge 11<|Qn zf)))))
def Jv:Int->Option Bool|p0=>O<|p0 !=p0
def Qfi{p0 r0}(V:Jv p0=O r0):FQ 175 [(Qg p0)] (Qp r0):=by unfold Jv at V;exact fp (fn:=f175) rfl<|ge 1<|ge 4<|Qn zf
def Xb:(Int×Int)->Option Int|(p0,p1)=>Jv p0>>=λc=>Jv p1>>=λv2=>if c=J then if v2=J then O 0 else O (-1)else if v2=J then O 1 else if p0<p1 then O (-1)else if p0>p1 then O 1 else O 0
def QeM{p0 p1 r0}(V:Xb (p0,p1)=O r0):FQ 133 [(Qg p0),(Qg p1)] (Qd r0):=by unfold Xb at V;exact fp (fn:=f133) rfl<|ge 1<|gr 1 (bi V λd c V=>cp (Qfi c)<|re 1<|gr 1 (bi V λv2 c V=>cp (Qfi c)<|re 1<|Qh<|ge 1<|lf V (λV=>Qh<|ge 1<|lf V (λV=>ge 1<|Qn zf) (λV=>Qm<|ge 1<|Qn zf)) (λV=>Qm<|Qh<|ge 1<|lf V (λV=>ge 1<|Qn zf) (λV=>Qm<|Qh<|ge 3<|ri V (λV=>ge 1<|Qn zf) (λV=>Qm<|Qh<|ge 3<|ri V (λV=>ge 1<|Qn zf) (λV=>Qm<|ge 1<|Qn zf))))))
def Tp:(Qw×Int)->Option Int|(p0,p1)=>Xb (p0.er,p1)>>=λc=>O c
def QfX{p0 p1 r0}(V:Tp (p0,p1)=O r0):FQ 223 [(Qw.b8 p0),(Qg p1)] (Qd r0):=by unfold Tp at V;exact fp (fn:=f223) rfl<|ge 2<|gr 3 (bi V λd c V=>cp (QeM c)<|re 1<|Qn zf)
def Qx:((List Qw)×Int×Int×Int)->Option Int|(p0,p1,c,d)=>if c<d then idx p0 (W<|(Int.fdiv (IntKind.u64.wrap<|(W<|c+d)) 2))>>=λe=>Tp (e,p1)>>=λf=>if f<0 then Qx (p0,p1,(W<|(W<|(Int.fdiv (IntKind.u64.wrap<|(W<|c+d)) 2))+1),d)else Qx (p0,p1,c,(W<|(Int.fdiv (IntKind.u64.wrap<|(W<|c+d)) 2)))else O c
 partial_fixpoint
def Q3:∀x r,Qx x=O r->match x with|(p0,p1,c,e)=>LQ f222 222 [1,1,1,0,0,0] 0 ⟨kp 49 [(0,(Jf p0)),(1,(Qd p1)),(2,(Nae 223)),(8,(Qd (I p0:Int))),(9,(Qd c)),(10,(Qd e))],[]⟩ (P1 (.exit 0) (λf d=>⟨sl d 49 [(0,(Jf p0)),(1,(Qd p1)),(2,(Nae 223)),(8,(Qd (I p0:Int))),(9,(Qd f))],[]⟩) r):=by refine Qx.partial_correctness _ (λQx Q3 x r V=>?_);obtain⟨p0,p1,c,e⟩:=x;exact lp<|Qh<|ge 3<|ri V (λV=>Qm<|Ql<|ge 7<|gr 3 (QE 6 Qw.b8 V λg V=>Qe 2 (bi V λj k V=>cp (QfX k)<|re 1<|ri V (λV=>gp<|re 3<|Q3 _ _ V _ kr) (λV=>gp<|re 2<|Q3 _ _ V _ kr)))) (λV=>QD zf)
def QU:((List Qw)×Int)->Option (Int×Bool)|(p0,p1)=>Qx (p0,p1,0,(I p0:Int))>>=λc=>if c<(I p0:Int)then idx p0 c>>=λd=>Tp (d,p1)>>=λe=>O (c,(e==0))else O (c,U)
def X3{p0 p1 r0 r1}(V:QU (p0,p1)=O (r0,r1)):FQ 222 [(.ew<|(Naa Qw.b8) p0),(Qg p1),(.raw<|.func (.func 223) #[] #[])] (.fz [(Qd r0),(Qp r1)]):=by unfold QU at V;exact fp (fn:=f222) rfl<|ge 2<|gr 1<|QM Qw.b8 p0<|re 1<|ge 3<|Qh<|Ql (kY V (Q3 _) λc d V=>gr 5<|gs 39 V (λV=>Qe 3 (QE 6 Qw.b8 V λe V=>Qe 2 (bi V λf g V=>cp (QfX g)<|re 4<|Qn zf))) (λV=>re 11<|Qn zf))
def R2:((List Qw)×Int)->Option (Qw×Int×Bool)|(p0,p1)=>QU (p0,p1)>>=λ(d,v2)=>(if v2=U then O (W<|d - 1)else O d)>>=λ(c:Int)=>(if c<0 then O J else idx p0 c>>=λe=>idx p0 c>>=λf=>O<|decide<|p1>=(W<|e.er+f.len))>>=λ(g:Bool)=>if g=J then O ((⟨0,0,U,0,0,0⟩:Qw),0,U)else idx p0 c>>=λj=>idx p0 c>>=λk=>O (j,(W<|p1 - k.er),J)
def QgE{p0 p1 r0 r1 r2}(V:R2 (p0,p1)=O (r0,r1,r2)):FQ 200 [(.ew<|(Naa Qw.b8) p0),(Qg p1)] (.fz [(.b7<|Qw.b8 r0),(Qd r1),(Qp r2)]):=by unfold R2 at V;exact fp (fn:=f200) rfl<|ge 3<|gr 2 (sB V λj v2 f V=>cp (X3 f)<|re 5<|Qh<|ge 2 (bi V λe c V=>Zm (λd=>⟨sl d 48 [(0,(Jf p0)),(1,(Qd p1)),(4,(.ptr 0 0)),(7,(Qd e))],[U9]⟩) (have V:=c;zb V (λV=>gp<|re 3 zf) (λV=>Qm zf)) (λd=>Qh<|Qh (bi V λg c V=>Zm (λd=>⟨sl d 48 [(0,(Jf p0)),(1,(Qd p1)),(4,(.ptr 0 0)),(7,(Qd e)),(35,(Qp g))],[U9]⟩) (have V:=c;Zd (Qe 3<|gs 21 V (λV=>re 14 ⟨kr,zf⟩) (λV=>Qe 3 (QE 6 Qw.b8 V λk V=>Qe 4 (QE 6 Qw.b8 V λl V=>re 5 ⟨kr,zf⟩))))) (λd=>lf V (λV=>ge 4<|Qn zf) (λV=>Qm<|Qh<|Zd<|Qe 2 (QE 6 Qw.b8 V λm V=>Qe 4 (QE 6 Qw.b8 V λn V=>re 6 ⟨kr,Qn zf⟩))))))))
def Ry:(Qw×Int×fJ)->Option Qj|(p0,p1,c)=>if p0.fill=J then O (⟨1,0,0,([]:fJ),0,0,0⟩:Qj)else kj 8 (I c:Int) 0>>=λd=>if(W<|(I c:Int) - 1)>=0 then idx d (W<|(I c:Int) - 1)>>=λv2=>iM d (W<|(I c:Int) - 1) p0.dk>>=λe=>idx c (W<|(I c:Int) - 1)>>=λf=>QN (I e=I d)>>=λ_=>O (⟨2,p0.bc,(W<|(W<|p0.offset+(W<|p1*p0.dk)) - (W<|p0.dk*f)),e,0,0,0⟩:Qj)else O (⟨2,p0.bc,(W<|p0.offset+(W<|p1*p0.dk)),d,0,0,0⟩:Qj)
def QgF{p0 p1 p2 r0}(V:Ry (p0,p1,p2)=O r0):FFQ 201 [(Qw.b8 p0),(Qg p1),(Lb p2)] (.b7<|Qj.b8 r0):=by
 unfold Ry at V
 exact fpF (fn:=f201) rfl<|ge 2<|Qh<|ge 2<|lf V (λV=>ge 2<|Qn zf) (λV=>Qm<|Qh<|Zd<|Qe 10<|QM Qg p2 (bi V λc d V=>Zb (v:=.arr 2 0 (I c) (I c)) (λH=>H++[.box (cellsOf Qg c)]) rfl kr (by intro K j;exact UB 2 Qg (z:=0) (n:=(I p2:Int)) (bytes:=8) d (e:=3) kr kr kr kr rfl rfl kr kr j)<|re 3 ⟨kr,Qh<|gr 1<|QM Qg p2<|re 2<|ge 2<|ri V (λV=>gr 5 (bi V λv2 d V=>QA rfl (λ_=>T7 (e:=3) (l:=c) (n:=(W<|(I p2:Int) - 1)) (i:=2) (cap:=I c) (m:=I c) d rfl kr kr rfl kr kr) (bi V λg d V=>Zb (λH=>H.set 2<|.box<|cellsOf Qg g) rfl kr (λ_=>UT Qg (l:=c) (n:=(W<|(I p2:Int) - 1)) (y:=p0.dk) d yC kr rfl kr kr kr kr)<|Q6<|Zd<|Qe 6 (QE 1 Qg V λk V=>re 5 ⟨kr,ge 2<|Qn (gi V λf V=>(by obtain rfl:=vz V;exact⟨trivial,yZ [(.agg [(Qd 2),(Qd p0.bc),(Qd<|W<|(W<|p0.offset+(W<|p1*p0.dk)) - (W<|p0.dk*k)),(.arr 2 0 (I c)<|I c),(Qd 0),(Qd 0),(Qd 0)])] kr (qM<|gk kr<|gk kr<|gk kr<|gk (pq Qg g f yC kr)<|gk kr<|gk kr<|gk kr mu)<|LH<|lh kr<|lh kr<|lh kr<|lh (L7 Qg g f yC kr)<|lh kr<|lh kr<|lh kr Mg⟩))⟩)))) (λV=>Qm<|ge 2<|Qn (by obtain rfl:=vz V;exact⟨trivial,yZ [(.agg [(Qd 2),(Qd p0.bc),(Qd<|W<|p0.offset+(W<|p1*p0.dk)),(.arr 2 0 (I c)<|I c),(Qd 0),(Qd 0),(Qd 0)])] kr (qM<|gk kr<|gk kr<|gk kr<|gk (pq Qg c rfl yC kr)<|gk kr<|gk kr<|gk kr mu)<|LH<|lh kr<|lh kr<|lh kr<|lh (L7 Qg c rfl yC kr)<|lh kr<|lh kr<|lh kr Mg⟩))⟩))
def Ze:(fJ×fJ×Nat×fJ×fJ×Int×Int)->Option (fJ)|(q0,l,q3,q1,d,e,c)=>if c<(I q0:Int)then idx q0 c>>=λf=>zl e f>>=λg=>QN (I d=I l)>>=λ_=>idx d c>>=λm=>iM d c g>>=λj=>pz e f>>=λk=>Ze (q0,l,q3,q1,j,k,(W<|c+1))else O d
 partial_fixpoint
def Jo:∀x r,Ze x=O r->match x with|(q0,p,q3,q1,c,f,g)=>LQ f199 199 [1,1,0,1,0,0] 3 ⟨kp 31 [(1,(Qd f)),(5,(.arr 2 0 (I p)<|I p)),(13,(La q0)),(14,(Qd (I q0:Int))),(15,(Qd g))],(Sc q3 q0 q1 c)⟩ (P1 (.exit 0) (λt d=>⟨sl d 31 [(5,(.arr 2 0 (I p)<|I p))],(Sc q3 q0 q1 t)⟩) r):=by refine Ze.partial_correctness _ (λZe Jo x r V=>?_);obtain⟨q0,p,q3,q1,c,f,g⟩:=x;exact lp<|ge 1<|Qh<|ri V (λV=>Qm<|Qh<|Ql<|gr 1 (QE 1 Qg V λj V=>re 3<|gr 4 (bi V λu q V=>QA rfl (λ_=>Qiq (a:=f) (b:=j) q rfl kr kr) (gi V λs V=>bi V λv q V=>QA rfl (λ_=>T7 (e:=3) (l:=c) (n:=g) (i:=2) (cap:=I p) (m:=I p) q s kr kr rfl kr kr) (bi V λk q V=>Zb (λH=>H.set 2<|.box<|cellsOf Qg k) rfl kr (λ_=>UT Qg (l:=c) (n:=g) (y:=u) q yC kr rfl kr kr kr kr)<|Q6<|gp<|Qe 2 (bi V λw q V=>QA rfl (λ_=>OH (a:=f) (b:=j) q rfl kr kr)<|re 1<|gp<|re 2<|Jo _ _ V _<|fZ (Sc q3 q0 q1 k) (λ_=>(fR kr<|fR kr<|fR (kX Qg _ _ _) gD)) rfl)))))) (λV=>QD zf)
def XL:(fJ×fJ×Int×Nat)->Option ((fJ×Nat))|(q0,q1,q2,q3)=>kj 8 (I q1:Int) 0>>=λd=>Ze (q0,d,q3,q1,d,q2,0)>>=λc=>O (c,I d)
def QeC{q0 q1 q2 q3 v5001 v5002}(V:XL (q0,q1,q2,q3)=O (v5001,v5002)):PC prog env 199 [(.b7<|.agg [(Lb q0),(Lb q1)]),(Qd q2)] [(.tok 62 q3)] (.arr 2 0 v5002 v5002) (Sc q3 q0 q1 v5001):=by unfold XL at V;exact gY (fn:=f199) rfl<|ge 2<|gr 2<|QM Qg q1 (bi V λc g V=>Zb (v:=.arr 2 0 (I c) (I c)) (λH=>H++[.box (cellsOf Qg c)]) rfl kr (by intro K j;exact UB 2 Qg (z:=0) (n:=(I q1:Int)) (bytes:=8) g (e:=3) kr kr kr kr rfl rfl kr kr j)<|re 1<|Qh<|gr 2<|QM Qg q0<|re 1<|Ql<|kY V (Jo _) (λf d V=>ge 2<|Qn zf) (hst:=(fZ (Sc q3 q0 q1 c) (λ_=>(fR kr<|fR kr<|fR (kX Qg _ _ _) gD)) rfl)))
def XS:(fJ×Int×Nat)->Option (Unit⊕ (fJ×fJ×fJ×Nat))|(q0,q1,q2)=>(if q1<0 then O J else Xl q0>>=λv2=>O<|decide<|q1>=v2)>>=λ(d:Bool)=>if d=J then O (Naf ())else X5 q0>>=λc=>XL (c.bm,c.Hn,q1,q2)>>=λ(e,f)=>O<|Nag (e,c.bm,c.Hn,f)
def Qef{q0 q1 q2 r}(V:XS (q0,q1,q2)=O r):PC prog env 168 [(La q0),(Qd q1)] [(.tok 62 q2)] (match r with|.inl _=>(.fz [Ea,(Qp U)])|.inr ((e,f,g,c))=>(.fz [(.arr 2 0 c c),(Qp J)])) (match r with|.inl _=>[(.tok 62 q2)]|.inr ((e,f,g,c))=>(Sc q2 f g e)):=by unfold XS at V;exact gY (fn:=f168) rfl<|ge 2<|Qh<|Qh (bi V λk l V=>Zm (λd=>⟨sl d 18 [(0,(La q0)),(1,(Qd q1)),(13,(Qp k))],[(.tok 62 q2)]⟩) (have V:=l;gp (Qe 3<|gs 8 V (λV=>re 5 zf) (λV=>Qe 2 (bi V λv2 j V=>cp (TT j)<|re 2 zf)))) (λd=>lf V (λV=>ge 2<|Qn zf) (λV=>Qm<|gr 1 (bi V λm j V=>cp (Qe5 j)<|Qe 1 (sB V λn p j V=>Zg (QeC j)<|re 2<|Qn zf)))))
def JA:(fJ×(List Qw)×Int×Int×Int×(List Qa)×Int×Qw×Nat×fJ×fJ×Int)->Option (fJ)|(e,q0,q1,j,k,l,m,n,q4,p,c,d)=>if d<(I e:Int)then QN (I c=I e)>>=λ_=>idx c d>>=λq=>idx c d>>=λf=>QN (I c=I e)>>=λ_=>idx c d>>=λr=>iM c d (W<|f+1)>>=λg=>JA (e,q0,q1,j,k,l,m,n,q4,p,g,(W<|d+1))else O c
 partial_fixpoint
def Qcb:∀x r,JA x=O r->match x with|(f,q0,q1,w,p,t,q,c,q4,s,u,m)=>LQ f169 169 [1,1,0,0,0,1,0,1,1,1,0,1,0,0] 6 ⟨kp 96 [(0,(Jf q0)),(1,(Qd q1)),(2,(Qd w)),(3,(Qd p)),(4,Ea),(11,(UO t)),(12,(.ptr 2 0)),(13,(Qd q)),(15,(Qd (if(W<|c.len - q)<p then(W<|c.len - q)else p))),(16,(.ptr 5 0)),(44,(Qd (I f:Int))),(45,(Qd m))],(Vn q4 (I t) c.er c.len c.fill c.bc c.offset c.dk s u (I s)<|I f)⟩ (P1 (.exit 2) (λE d=>⟨sl d 96 [(0,(Jf q0)),(1,(Qd q1)),(2,(Qd w)),(3,(Qd p)),(4,Ea),(11,(UO t)),(12,(.ptr 2 0)),(13,(Qd q)),(15,(Qd (if(W<|c.len - q)<p then(W<|c.len - q)else p))),(16,(.ptr 5 0))],(Vn q4 (I t) c.er c.len c.fill c.bc c.offset c.dk s E (I s)<|I f)⟩) r):=by
 refine JA.partial_correctness _ (λJA Qcb x r V=>?_);obtain⟨f,q0,q1,w,p,t,q,c,q4,s,u,m⟩:=x
 exact lp<|ge 1<|Qh<|ri V (λV=>Qm<|Qh<|Ql<|ge 2<|gp<|Qe 3 (gi V λB V=>bi V λF C V=>QA rfl (λ_=>QR (e:=3) (n:=m) (j:=(m).toNat) (tt:=4) (g:=1) (lo:=0) (len:=I f) (cap:=I f) (k:=.i64) kr kr rfl kr kr (gw C)<|zB (gJ C) B) (bi V λz C V=>QA rfl (λ_=>Ye (tt:=4) (g:=1) (j:=(0+(m).toNat)) (e:=3) (cs:=cellsOf Qg u) (v:=.b7 (Qg z)) kr kr rfl kr (Zt kr)<|gM Qg C)<|Qe 1 (gi V λD V=>bi V λG C V=>QA rfl (λ_=>QR (e:=3) (n:=m) (j:=(m).toNat) (tt:=4) (g:=1) (lo:=0) (len:=I f) (cap:=I f) (k:=.i64) kr kr rfl kr kr (gw C)<|zB (gJ C) D) (bi V λA C V=>Zb (λH=>H.set 4<|QI A) rfl kr (λ_=>Js Qg (l:=u) (n:=m) (y:=(W<|z+1)) C yC kr rfl kr kr kr kr)<|Q6<|gp<|re 2<|Qcb _ _ V _<|fZ (Vn q4 (I t) c.er c.len c.fill c.bc c.offset c.dk s A (I s)<|I f) (λ_=>(fR kr<|fR kr<|fR kr<|fR (gj Qg _ _ _ _ _)<|fR (gj Qg _ _ _ _ _)<|fR kr gD)) rfl))))) (λV=>QD zf)
def Jz:(Int×(List Qw)×Nat×Int×Int×(List Qa))->Option ((List Qa))|(q1,q0,q4,f,c,g)=>if c>0 then pz f q1>>=λp=>R2 (q0,p)>>=λ(d,e,q)=>Qy ([]:fJ)>>=λl=>Qy ([]:fJ)>>=λj=>JA (j,q0,q1,f,c,g,e,d,q4,l,j,0)>>=λk=>Ry (d,e,([]:fJ))>>=λm=>QN (I k=I j)>>=λ_=>app 120 g ([(⟨(⟨l,k⟩:Qo),m⟩:Qa)]:List Qa)>>=λn=>Jz (q1,q0,q4,(W<|f+(if(W<|d.len - e)<c then(W<|d.len - e)else c)),(W<|c - (if(W<|d.len - e)<c then(W<|d.len - e)else c)),n)else O g
 partial_fixpoint
def Qca:∀x r,Jz x=O r->match x with|(q1,q0,q4,p,q,g)=>LQ f169 169 [1,1,0,0,0] 2 ⟨kp 96 [(0,(Jf q0)),(1,(Qd q1)),(2,(Qd p)),(3,(Qd q)),(4,Ea),(11,(UO g))],[(.tok 62 q4),(.tok 62<|I g)]⟩ (P1 (.exit 0) (λu d=>⟨sl d 96 [(11,(UO u))],[(.tok 62 q4),(.tok 62<|I u)]⟩) r):=by
 refine Jz.partial_correctness _ (λJz Qca x r V=>?_);obtain⟨q1,q0,q4,p,q,g⟩:=x
 exact lp<|Qh<|ge 2<|ri V (λV=>Qm<|Ql<|gr 3 (bi V λz s V=>QA rfl (λ_=>OH (a:=p) (b:=q1) s rfl kr kr) (N9 V λf y A s V=>cp (QgE s)<|re 8<|gr 5<|QA rfl (λ_=>Hf (k:=.i64) (m:=q) (n:=(W<|f.len - y)) rfl kr kr)<|re 1<|gr 1 (bi V λe s V=>go 3 3 Qg (QF s)<|Qe 1 (bi V λj s V=>go 4 3 Qg (QF s)<|re 3<|Qh<|gr 2<|Qe 1<|re 1<|Ql<|kY V (Qcb _) (λl d V=>Qh<|Zd<|Qe 4 (bi V λc s V=>cp (fpo<|QgF s)<|re 3 ⟨kr,ge 8<|Qh<|gr 1<|Qe 1<|re 2<|ge 2<|E3 kr<|Qm<|gp<|Qe 1 (gi V λt V=>Zb (v:=(R6 e l c.bx c.bc c.ek c.bm c.ed c.dk c.ep)) (λH=>((H.set 3<|.mt 3 (1+1) []).set 4<|.mt 3 (1+1) [])) rfl kr (λ_=>T2 (n:=9) (i:=6) (off:=0) (bs:=[(.ms 3 1 0 (I e)<|I e),(.ms 4 1 0 (I j)<|I j),(Qd c.bx),(Qd c.bc),(Qd c.ek),(La c.bm),(Qd c.ed),(Qd c.dk),(Qd c.ep)]) (cs:=[(.ms 3 1 0 (I e)<|I e),(.ms 4 1 0 (I j)<|I j),(Qd c.bx),(Qd c.bc),(Qd c.ek),(La c.bm),(Qd c.ed),(Qd c.dk),(Qd c.ep)]) rfl rfl kr kr kr kr kr rfl<|sJ Qg yC kr rfl<|sJ Qg yC kr t<|jr<|jr<|jr<|jr<|jr<|jr<|jr uA)<|Qe 1 (bi V λw s V=>YA 62 9 120 1 Qa.b8 g ([(⟨(⟨e,l⟩:Qo),c⟩:Qa)]:List Qa) w (xs:=(Naa Qa.b8) g) (es:=(Naa Qa.b8) ([(⟨(⟨e,l⟩:Qo),c⟩:Qa)]:List Qa)) (L:=(Naa Qa.b8)) yC rfl rfl Qa.fit s<|re 1<|Qca _ _ V _ kr))⟩)) (hst:=(fZ (Vn q4 (I g) f.er f.len f.fill f.bc f.offset f.dk e j (I e)<|I j) (λ_=>(fR kr<|fR kr<|fR kr<|fR (gj Qg _ _ _ _ _)<|fR (gj Qg _ _ _ _ _)<|fR kr gD)) rfl))))))) (λV=>QD zf)
def W6:((List Qw)×Int×Int×Int×Nat)->Option ((List Qa))|(q0,q1,q2,q3,q4)=>Jz (q1,q0,q4,q2,q3,([]:List Qa))>>=λc=>O c
def Qgy{q0 q1 q2 q3 q4 v5001}(V:W6 (q0,q1,q2,q3,q4)=O v5001):PC prog env 169 [(Jf q0),(Qd q1),(Qd q2),(Qd q3),Ea] [(.tok 62 q4)] (UO v5001) [(.tok 62 q4),(.tok 62<|I v5001)]:=by unfold W6 at V;exact gY (fn:=f169) rfl<|ge 1<|ge 1<|Qh<|Ql (kY V (Qca _) λc d V=>ge 2<|Qn zf)
def ZT:(fJ×(List Qw)×Int×Int×Int×Nat×(List Qa)×Int×Qw×Nat×fJ×fJ×fJ×fJ×fJ×Int)->Option (fJ)|(e,q0,q1,j,k,q4,l,m,n,t,q5,q6,p,q,c,d)=>if d<(I e:Int)then QN (I c=I e)>>=λ_=>idx c d>>=λr=>idx c d>>=λf=>QN (I c=I e)>>=λ_=>idx c d>>=λs=>iM c d (W<|f+1)>>=λg=>ZT (e,q0,q1,j,k,q4,l,m,n,t,q5,q6,p,q,g,(W<|d+1))else O c
 partial_fixpoint
def Qcd:∀x r,ZT x=O r->match x with|(f,q0,q1,z,p,q4,t,q,c,G,q5,q6,u,s,w,m)=>LQ f169 169 [1,1,0,0,0,1,0,1,1,1,0,1,0,0] 8 ⟨kp 96 [(0,(Jf q0)),(1,(Qd q1)),(2,(Qd z)),(3,(Qd p)),(4,(.arr 2 0 q4 q4)),(11,(TO t)),(12,(.ptr 4 0)),(13,(Qd q)),(15,(Qd (if(W<|c.len - q)<p then(W<|c.len - q)else p))),(16,(.ptr 7 0)),(44,(Qd (I f:Int))),(45,(Qd m))],[(.tok 62 G),(Qz q5 q6),(.box<|cellsOf Qg u),(.tok 62<|I t),(Mb c.er c.len c.fill c.bc c.offset c.dk),(QI s),(QI w),(Ui (I s)<|I f)]⟩ (P1 (.exit 2) (λF d=>⟨sl d 96 [(0,(Jf q0)),(1,(Qd q1)),(2,(Qd z)),(3,(Qd p)),(4,(.arr 2 0 q4 q4)),(11,(TO t)),(12,(.ptr 4 0)),(13,(Qd q)),(15,(Qd (if(W<|c.len - q)<p then(W<|c.len - q)else p))),(16,(.ptr 7 0))],[(.tok 62 G),(Qz q5 q6),(.box<|cellsOf Qg u),(.tok 62<|I t),(Mb c.er c.len c.fill c.bc c.offset c.dk),(QI s),(QI F),(Ui (I s)<|I f)]⟩) r):=by
 refine ZT.partial_correctness _ (λZT Qcd x r V=>?_);obtain⟨f,q0,q1,z,p,q4,t,q,c,G,q5,q6,u,s,w,m⟩:=x
 exact lp<|ge 1<|Qh<|ri V (λV=>Qm<|Qh<|Ql<|ge 2<|gp<|Qe 3 (gi V λC V=>bi V λK D V=>QA rfl (λ_=>QR (e:=3) (n:=m) (j:=(m).toNat) (tt:=6) (g:=1) (lo:=0) (len:=I f) (cap:=I f) (k:=.i64) kr kr rfl kr kr (gw D)<|zB (gJ D) C) (bi V λA D V=>QA rfl (λ_=>Ye (tt:=6) (g:=1) (j:=(0+(m).toNat)) (e:=3) (cs:=cellsOf Qg w) (v:=.b7 (Qg A)) kr kr rfl kr (Zt kr)<|gM Qg D)<|Qe 1 (gi V λE V=>bi V λL D V=>QA rfl (λ_=>QR (e:=3) (n:=m) (j:=(m).toNat) (tt:=6) (g:=1) (lo:=0) (len:=I f) (cap:=I f) (k:=.i64) kr kr rfl kr kr (gw D)<|zB (gJ D) E) (bi V λB D V=>Zb (λH=>H.set 6<|QI B) rfl kr (λ_=>Js Qg (l:=w) (n:=m) (y:=(W<|A+1)) D yC kr rfl kr kr kr kr)<|Q6<|gp<|re 2<|Qcd _ _ V _<|fZ [(.tok 62 G),(Qz q5 q6),(.box<|cellsOf Qg u),(.tok 62<|I t),(Mb c.er c.len c.fill c.bc c.offset c.dk),(QI s),(QI B),(Ui (I s)<|I f)] (λ_=>(fR kr<|fR kr<|fR (kX Qg _ _ _)<|fR kr<|fR kr<|fR (gj Qg _ _ _ _ _)<|fR (gj Qg _ _ _ _ _)<|fR kr gD)) rfl))))) (λV=>QD zf)
def Zr:(Int×(List Qw)×Nat×Nat×fJ×fJ×fJ×Int×Int×(List Qa))->Option ((fJ×(List Qa)))|(q1,q0,q4,C,q5,q6,c,l,d,m)=>if d>0 then pz l q1>>=λw=>R2 (q0,w)>>=λ(e,f,D)=>QN (I c=q4)>>=λ_=>Qy c>>=λj=>QN (I c=q4)>>=λ_=>Qy c>>=λk=>ZT (k,q0,q1,l,d,q4,m,f,e,C,q5,q6,c,j,k,0)>>=λg=>QN (I c=q4)>>=λ_=>Ry (e,f,c)>>=λp=>(if(W<|(q4:Int) - 1)>=0 then idx j (W<|(q4:Int) - 1)>>=λy=>idx j (W<|(q4:Int) - 1)>>=λq=>QN (I g=I k)>>=λ_=>idx g (W<|(q4:Int) - 1)>>=λz=>iM g (W<|(q4:Int) - 1) (W<|q+(if(W<|e.len - f)<d then(W<|e.len - f)else d))>>=λr=>QN (I c=q4)>>=λ_=>idx c (W<|(q4:Int) - 1)>>=λA=>idx c (W<|(q4:Int) - 1)>>=λs=>QN (I c=q4)>>=λ_=>idx c (W<|(q4:Int) - 1)>>=λB=>iM c (W<|(q4:Int) - 1) (W<|s+(if(W<|e.len - f)<d then(W<|e.len - f)else d))>>=λt=>O (t,r)else O (c,g))>>=λ((u,n):(fJ×fJ))=>QN (I n=I k)>>=λ_=>app 120 m ([(⟨(⟨j,n⟩:Qo),p⟩:Qa)]:List Qa)>>=λv=>Zr (q1,q0,q4,C,q5,q6,u,(W<|l+(if(W<|e.len - f)<d then(W<|e.len - f)else d)),(W<|d - (if(W<|e.len - f)<d then(W<|e.len - f)else d)),v)else O (c,m)
 partial_fixpoint
def WU:∀x r,Zr x=O r->match x with|(q1,q0,q4,q8,q5,q6,t,B,q,z)=>LQ f169 169 [1,1,0,0,0] 4 ⟨kp 96 [(0,(Jf q0)),(1,(Qd q1)),(2,(Qd B)),(3,(Qd q)),(4,(.arr 2 0 q4 q4)),(11,(TO z))],(VN q8 q5 q6 t<|I z)⟩ (P1 (.exit 0) (λ(v601,P) d=>⟨sl d 96 [(11,(TO P))],(VN q8 q5 q6 v601<|I P)⟩) r):=by
 refine Zr.partial_correctness _ (λZr WU x r V=>?_);obtain⟨q1,q0,q4,q8,q5,q6,t,B,q,z⟩:=x
 exact lp<|Qh<|ge 2<|ri V (λV=>Qm<|Ql<|gr 3 (bi V λv603 w V=>QA rfl (λ_=>OH (a:=B) (b:=q1) w rfl kr kr) (N9 V λf u v606 w V=>cp (QgE w)<|re 8<|gr 5<|QA rfl (λ_=>Hf (k:=.i64) (m:=q) (n:=(W<|f.len - u)) rfl kr kr)<|re 1<|gr 1 (gi V λQ V=>bi V λp w V=>gol 5 3 Qg (args:=[(.arr 2 0 q4 q4)]) (QF w) (Zt kr) (iu (FX<|pq Qg t Q yC kr) ng) (Dt<|pF yC _)<|Qe 1 (gi V λR V=>bi V λs w V=>gol 6 3 Qg (args:=[(.arr 2 0 q4 q4)]) (QF w) (Zt kr) (iu (FX<|pq Qg t R yC kr) ng) (Dt<|pF yC _)<|re 3<|Qh<|gr 2<|Qe 1<|re 1<|Ql<|kY V (Qcd _) (λS d V=>Qh<|Zd<|Qe 4 (gi V λF V=>bi V λc w V=>Qii (args:=[(.b7<|.agg [(Qg f.er),(Qg f.len),(UN f.fill),(Qg f.bc),(Qg f.offset),(Qg f.dk)]),(Qd u),(.arr 2 0 q4 q4)]) (QgF w) (iu kr<|iu kr<|iu (FX<|pq Qg t F yC kr) ng)<|re 3 ⟨kr,ge 8<|Qh<|gr 1<|Qe 1<|re 2<|ge 2 (sB V λC A hs V=>Zm (λd=>⟨sl d 96 [(0,(Jf q0)),(1,(Qd q1)),(2,(Qd<|W<|B+(if(W<|f.len - u)<q then(W<|f.len - u)else q))),(3,(Qd<|W<|q - (if(W<|f.len - u)<q then(W<|f.len - u)else q))),(4,(.arr 2 0 q4 q4)),(11,(TO z)),(18,(.ptr 8 0))],[(.tok 62 q8),(Qz q5 q6),(.box<|cellsOf Qg C),(.tok 62<|I z),(Mb f.er f.len f.fill f.bc f.offset f.dk),(QI p),(QI A),(Ui (I p)<|I s),(.box [(.ms 5 1 0 (I p)<|I p),(.ms 6 1 0 (I s)<|I s),(Qd c.bx),(Qd c.bc),(Qd c.ek),(La c.bm),(Qd c.ed),(Qd c.dk),(Qd c.ep)])]⟩) (have V:=hs;ri V (λV=>Qh<|Zd<|Qe 6 (bi V λv1222 w V=>QA rfl (λ_=>QR (e:=3) (n:=(W<|(q4:Int) - 1)) (j:=((W<|(q4:Int) - 1)).toNat) (tt:=5) (g:=1) (lo:=0) (len:=I p) (cap:=I p) (k:=.i64) kr kr rfl kr kr (gw w)<|zB (gJ w) rfl) (bi V λD w V=>QA rfl (λ_=>Ye (tt:=5) (g:=1) (j:=(0+((W<|(q4:Int) - 1)).toNat)) (e:=3) (cs:=cellsOf Qg p) (v:=.b7 (Qg D)) kr kr rfl kr (Zt kr)<|gM Qg w)<|Qe 2 (gi V λG V=>bi V λv1224 w V=>QA rfl (λ_=>QR (e:=3) (n:=(W<|(q4:Int) - 1)) (j:=((W<|(q4:Int) - 1)).toNat) (tt:=6) (g:=1) (lo:=0) (len:=I s) (cap:=I s) (k:=.i64) kr kr rfl kr kr (gw w)<|zB (gJ w) G) (bi V λT w V=>Zb (λH=>H.set 6<|QI T) rfl kr (λ_=>Js Qg (l:=S) (n:=(W<|(q4:Int) - 1)) (y:=(W<|D+(if(W<|f.len - u)<q then(W<|f.len - u)else q))) w yC kr rfl kr kr kr kr)<|Q6 ⟨kr,gp<|Qe 2 (gi V λK V=>bi V λv1227 w V=>QA rfl (λ_=>T7 (e:=3) (l:=t) (n:=(W<|(q4:Int) - 1)) (i:=2) (cap:=q4) (m:=q4) w K kr kr rfl kr kr) (bi V λX w V=>QA rfl (λ_=>QiG Qg (l:=t) (n:=(W<|(q4:Int) - 1)) (i:=2) w kr kr rfl kr kr)<|Qe 2 (gi V λM V=>bi V λv1230 w V=>QA rfl (λ_=>T7 (e:=3) (l:=t) (n:=(W<|(q4:Int) - 1)) (i:=2) (cap:=q4) (m:=q4) w M kr kr rfl kr kr) (bi V λY w V=>Zb (λH=>H.set 2<|.box<|cellsOf Qg Y) rfl kr (λ_=>UT Qg (l:=t) (n:=(W<|(q4:Int) - 1)) (y:=(W<|X+(if(W<|f.len - u)<q then(W<|f.len - u)else q))) w yC kr rfl kr kr kr kr)<|Q6 zf))))⟩))))) (λV=>Qm zf)) (λd=>gp<|Qe 1 (gi V λN V=>Zb (v:=(R6 p A c.bx c.bc c.ek c.bm c.ed c.dk c.ep)) (λH=>((H.set 5<|.mt 3 (1+1) []).set 6<|.mt 3 (1+1) [])) rfl kr (λ_=>T2 (n:=9) (i:=8) (off:=0) (bs:=[(.ms 5 1 0 (I p)<|I p),(.ms 6 1 0 (I s)<|I s),(Qd c.bx),(Qd c.bc),(Qd c.ek),(La c.bm),(Qd c.ed),(Qd c.dk),(Qd c.ep)]) (cs:=[(.ms 5 1 0 (I p)<|I p),(.ms 6 1 0 (I s)<|I s),(Qd c.bx),(Qd c.bc),(Qd c.ek),(La c.bm),(Qd c.ed),(Qd c.dk),(Qd c.ep)]) rfl rfl kr kr kr kr kr rfl<|sJ Qg yC kr rfl<|sJ Qg yC kr N<|jr<|jr<|jr<|jr<|jr<|jr<|jr uA)<|Qe 1 (bi V λE w V=>YA 62 9 120 3 Qa.b8 z ([(⟨(⟨p,A⟩:Qo),c⟩:Qa)]:List Qa) E (xs:=(Naa Qa.b8) z) (es:=(Naa Qa.b8) ([(⟨(⟨p,A⟩:Qo),c⟩:Qa)]:List Qa)) (L:=(Naa Qa.b8)) yC rfl rfl Qa.fit w<|re 1<|WU _ _ V _<|fZ (VN q8 q5 q6 C<|I E) (λ_=>(fR kr<|fR kr<|fR (kX Qg _ _ _)<|fR kr gD)) rfl))))⟩)) (hst:=(fZ [(.tok 62 q8),(Qz q5 q6),(.box<|cellsOf Qg t),(.tok 62<|I z),(Mb f.er f.len f.fill f.bc f.offset f.dk),(QI p),(QI s),(Ui (I p)<|I s)] (λ_=>(fR kr<|fR kr<|fR (kX Qg _ _ _)<|fR kr<|fR kr<|fR (gj Qg _ _ _ _ _)<|fR (gj Qg _ _ _ _ _)<|fR kr gD)) rfl))))))) (λV=>QD zf)
def XD:((List Qw)×Int×Int×Int×Nat×fJ×fJ×fJ×Nat)->Option ((fJ×(List Qa)))|(q0,q1,q2,q3,q4,q5,q6,q7,e)=>Zr (q1,q0,q4,e,q5,q6,q7,q2,q3,([]:List Qa))>>=λ(c,d)=>O (c,d)
def Qgz{q0 q1 q2 q3 q4 q5 q6 q7 q8 v5001 v5002}(V:XD (q0,q1,q2,q3,q4,q5,q6,q7,q8)=O (v5001,v5002)):PC prog env 169 [(Jf q0),(Qd q1),(Qd q2),(Qd q3),(.arr 2 0 q4 q4)] (Sc q8 q5 q6 q7) (TO v5002) (VN q8 q5 q6 v5001<|I v5002):=by unfold XD at V;exact gY (fn:=f169) rfl<|ge 1<|ge 1<|Qh<|Ql<|kY V (WU _) (λ⟨c,e⟩ d V=>ge 2<|Qn zf) (hst:=(fZ [(.tok 62 q8),(Qz q5 q6),(.box<|cellsOf Qg q7),(.tok 62<|I ([]:List Qa))] (λ_=>(fR kr<|fR kr<|fR (kX Qg _ _ _)<|fR kr gD)) rfl))
def Zx:(Int×fJ×(List Qw)×Qw×Qw×Int×(List Qa)×Int)->Option ((List Qa))|(s,p1,p0,e,f,g,c,d)=>if d<s then(XS (p1,d,I c)>>=λ|.inl _=>W6 (p0,(W<|e.er+f.len),d,g,I c)>>=λj=>app 120 c j>>=λk=>Zx (s,p1,p0,e,f,g,k,(W<|d+g))|.inr ((l,m,n,p))=>XD (p0,(W<|e.er+f.len),d,g,p,m,n,l,I c)>>=λ(t,q)=>app 120 c q>>=λr=>Zx (s,p1,p0,e,f,g,r,(W<|d+g)))else O c
 partial_fixpoint
def VS:∀x r,Zx x=O r->match x with|(q,p1,p0,l,m,s,c,f)=>LQ f122 122 [1,1,1,1,1,1,1,0,1,0,0] 1 ⟨kp 82 [(0,(Jf p0)),(1,(La p1)),(5,(Qd q)),(6,(Qd s)),(7,(Qd<|W<|l.er+m.len)),(8,(Jx c)),(9,(Qd f))],[(.tok 62<|I c)]⟩ (P1 (.exit 1) (λg d=>⟨sl d 82 [(8,(Jx g))],[(.tok 62<|I g)]⟩) r):=by refine Zx.partial_correctness _ (λZx VS x r V=>?_);obtain⟨q,p1,p0,l,m,s,c,f⟩:=x;exact lp<|Qh<|ge 3<|ri V (λV=>Qm<|Qh<|Ql<|gr 2 (bs V (λ_ e V=>Zg (Qef e)<|re 5<|gp<|Qe 6 (bi V λj e V=>Zg (Qgy e) (bi V λn e V=>YA 62 9 120 0 Qa.b8 c j n (xs:=(Naa Qa.b8) c) (es:=(Naa Qa.b8) j) (L:=(Naa Qa.b8)) yC rfl rfl Qa.fit e<|re 1<|gp<|re 4<|VS _ _ V _ kr))) λ⟨t,u,v,w⟩ e V=>Zg (Qef e)<|re 5<|gp<|Qe 6 (sB V λy k e V=>Zg (Qgz e) (bi V λp e V=>YA 62 9 120 0 Qa.b8 c k p (xs:=(Naa Qa.b8) c) (es:=(Naa Qa.b8) k) (L:=(Naa Qa.b8)) yC rfl rfl Qa.fit e<|re 1<|gp<|re 4<|VS _ _ V _ kr)))) (λV=>QD zf)
def Yu:((List Qw)×fJ)->Option (List Qa)|(p0,p1)=>Xl p1>>=λg=>(if g=0 then O J else O ((I p0:Int)==0))>>=λ(v2:Bool)=>if v2=J then U0 p1>>=λj=>O j else if(I p0:Int)=1 then Xa p1>>=λ(q,k,l)=>idx p0 0>>=λm=>Us (m,p1)>>=λn=>O ([(⟨(⟨k,l⟩:Qo),n⟩:Qa)]:List Qa)else(if(I p1:Int)>0 then idx p1 (W<|(I p1:Int) - 1)>>=λd=>O d else O 1)>>=λ(p:Int)=>idx p0 (W<|(I p0:Int) - 1)>>=λe=>idx p0 (W<|(I p0:Int) - 1)>>=λf=>Zx (g,p1,p0,e,f,p,([]:List Qa),0)>>=λc=>O c
def Qhq{p0 p1 r0}(V:Yu (p0,p1)=O r0):FQ 122 [(.ew<|(Naa Qw.b8) p0),(Lb p1)] (Q7 r0):=by
 unfold Yu at V
 exact fp (fn:=f122) rfl<|ge 1<|gr 1 (bi V λl c V=>cp (TT c)<|re 1<|Qh<|Ql<|Qh (bi V λv2 k V=>Zm (λd=>⟨sl d 82 [(0,(Jf p0)),(1,(La p1)),(5,(Qd l)),(14,(Qp v2))],[]⟩) (have V:=k;gp (Qe 3<|Ba 17 V (λV=>re 5 zf) (λV=>Qe 1<|QM Qw.b8 p0<|re 3 zf))) (λd=>lf V (λV=>gr 1 (bi V λu c V=>cp (QgZ c)<|re 1<|Qn zf)) (λV=>gr 1<|QM Qw.b8 p0<|re 2<|mQ V (λV=>Qh<|Zd<|Qe 1 (N9 V λm g j c V=>QA (v:=.b7 (.agg [(Lb g),(Lb j)])) rfl (λ_=>Rz (f:=111) (first:=#[]) (cap:=#[]) (e:=3) (ow':=[]) (ds:=[(Lb p1)]) (p:=(.agg [(.ms 1 m 0 (I g)<|I g),(.ms 2 1 0 (I j)<|I j)])) (H1:=(Uu m (I g) (I j) g j)) rfl kr kr kr kr (VP c)<|xx<|gk (jx (e:=3) Qg g rfl yC kr)<|gk (jx (e:=3) Qg j rfl yC kr) mu)<|Qe 1 (QE 6 Qw.b8 V λw V=>Qe 2 (bi V λx c V=>cp (Qhr c)<|re 3 ⟨kr,Qn zf⟩)))) (λV=>Qm<|ge 1<|Qh<|gr 1<|QM Qg p1<|re 1 (bi V λq k V=>Zm (λd=>⟨sl d 82 [(0,(Jf p0)),(1,(La p1)),(5,(Qd l)),(6,(Qd q))],[]⟩) (have V:=k;ri V (λV=>gp<|Qe 2<|QM Qg p1<|Qe 1 (QE 1 Qg V λr V=>re 2 zf)) (λV=>Qm zf)) (λd=>Qh<|Zd<|Qe 2<|QM Qw.b8 p0<|Qe 1 (QE 6 Qw.b8 V λs V=>Qe 4<|QM Qw.b8 p0<|Qe 1 (QE 6 Qw.b8 V λt V=>re 4 ⟨kr,ge 1<|Qh<|ge 1<|Ql (kY V (VS _) λn d V=>ge 2<|Qn zf)⟩)))))))))
def Jk:((List Qa)×fJ×fJ)->Option (List Qa)|(p0,p1,c)=>JK (p1,c)>>=λd=>if d=J then O p0 else TE (p0,p1)>>=λv2=>TS v2>>=λe=>Yu (e,c)>>=λf=>O f
def QgW{p0 p1 p2 r0}(V:Jk (p0,p1,p2)=O r0):FQ 76 [(.ew<|(Naa Qa.b8) p0),(Lb p1),(Lb p2)] (Q7 r0):=by unfold Jk at V;exact fp (fn:=f76) rfl<|ge 1<|Qh<|gr 2 (bi V λd c V=>cp (Qhs c)<|Q6<|lf V (λV=>ge 2<|Qn zf) (λV=>Qm<|gr 2 (bi V λv2 c V=>cp (QhH c) (bi V λe c V=>cp (Qij c)<|Qe 1 (bi V λf c V=>cp (Qhq c)<|re 1<|Qn zf)))))
def Ws:(Qr×(List<|List Qa))->Option (List Qa)|(p0,p1)=>idx p1 0>>=λc=>idx p0.ea 0>>=λv2=>Jk (c,v2.aa,p0.aa)>>=λd=>O d
def Qf6{p0 p1 r0}(V:Ws (p0,p1)=O r0):FQ 75 [(Qr.ex p0),(.ew<|(Naa (λl=>fS.ew<|(Naa Qa.b8) l)) p1)] (Q7 r0):=by unfold Ws at V;exact fp (fn:=f75) rfl<|ge 2<|Qh<|Zd<|Qe 1 (bi V λe c V=>X9 1 (λl=>fS.ew<|(Naa Qa.b8) l) p1 0 e (es:=(Naa (λl=>fS.ew<|(Naa Qa.b8) l)) p1) (d:=(.ew<|(Naa Qa.b8) e)) rfl c rfl rfl<|Qe 3 (bi V λv2 c V=>X9 8 Qr.b8 p0.ea 0 v2 (es:=Qr.hE p0.ea) (d:=(Qr.ex v2)) (Qr.fa _) c (Qr.i6 v2) rfl<|Qe 4 (bi V λf c V=>cp (QgW c)<|re 1 ⟨kr,Qn zf⟩)))
def YT(x:List Qa):Option (List Qa):=app 120 [] x
def jh(l:List Qa):Nat:=match l with|[]=>0|_=>1
def QbN{x r}(V:YT x=O r):PC prog env 125 ([.ew ((Naa Qa.b8) x)].map .b7) [] (.ms 0 (jh r) 0 (I r)<|I r) [.mt 62 (jh r) (cellsOf Qa.b8 r)]:=by
 obtain⟨c,d⟩:=qb V;have d:r=x:=d;subst d;cases r with
 |nil=>exact Mn (n:=20) (by kernel_rfl)
 |cons a l=>
  exact gY (fn:=f125) rfl<|ge 1<|Qh<|gr 1<|QA rfl (λ_=>QhK (p:=.b7 (.ew<|(Naa Qa.b8) (a::l))) (b:=U) rfl kr kr kr)<|Q6<|E3 kr<|Qm<|gr 2<|Zb (v:=.ms 0 1 0 (I (a::l)) (I (a::l))) (λH=>H.set 0<|.mt 62 1<|cellsOf Qa.b8 (a::l)) rfl kr (λ_ f=>QhX Qa.b8 (l:=[]) (es:=a::l) (bytes:=120) (e:=62) (tt:=0) (g:=0) (m:=0) (size:=9) V Qa.fit rfl kr kr rfl kr kr rfl rfl kr rfl kr kr f)<|re 1<|Qn zf
def ZP:((List Qa)×Int×Int×(List Qa)×Nat×(List Qa)×Int)->Option ((Nat×(List Qa)))|(p1,k,l,p0,d,e,c)=>if c<(I p1:Int)then idx p1 c>>=λf=>JG (f,k,0,65536,l)>>=λg=>app 120 e ([g]:List Qa)>>=λj=>ZP (p1,k,l,p0,(d+1),j,(W<|c+1))else O (d,e)
 partial_fixpoint
def Qb6:∀x r,ZP x=O r->match x with|(p1,s,u,p0,c,f,n)=>LQ f78 78 [1,1,0,1,0,0] 1 ⟨kp 49 [(0,(Q7 p0)),(2,(Qd s)),(3,(Qd u)),(9,(.ms 0 c 0 (I f)<|I f)),(16,(Q7 p1)),(17,(Qd (I p1:Int))),(18,(Qd n))],[(Ng c f)]⟩ (P1 (.exit 0) (λ(p,k) d=>⟨sl d 49 [(0,(Q7 p0)),(2,(Qd s)),(9,(.ms 0 p 0 (I k)<|I k))],[(Ng p k)]⟩) r):=by refine ZP.partial_correctness _ (λZP Qb6 x r V=>?_);obtain⟨p1,s,u,p0,c,f,n⟩:=x;exact lp<|ge 1<|Qh<|ri V (λV=>Qm<|Qh<|Ql<|Qh<|gp (QE 9 Qa.b8 V λw V=>re 3<|gp<|Qe 4 (bi V λq t V=>cp (Ww t)<|Qe 1 (bi V λj t V=>Zb (v:=.ms 0 (c+1) 0 (I j) (I j)) (λH=>H.set 0<|Wd c j) rfl kr (λ_ y=>QhX Qa.b8 (l:=f) (es:=([q]:List Qa)) (bytes:=120) (e:=62) (tt:=0) (g:=c) (m:=I f) (size:=9) t Qa.fit rfl kr kr rfl kr kr rfl rfl kr rfl kr kr y)<|re 1<|gp<|re 2<|Qb6 _ _ V _<|fZ [(Wd c j)] (λ_=>(fR (gj Qa.b8 _ _ _ _ _) gD)) rfl)))) (λV=>QD zf)
def ZQ:((List Qa)×Int×(List Qa)×Nat×(List Qa)×Int)->Option ((List Qa))|(p0,m,e,k,d,c)=>if c<(I p0:Int)then QN (0<=c/\(c).toNat<I p0)>>=λ_=>idx d c>>=λf=>JG (f,m,0,65536,0)>>=λg=>QN (0<=c/\(c).toNat<I e)>>=λ_=>idx d c>>=λl=>iM d c g>>=λj=>ZQ (p0,m,e,k,j,(W<|c+1))else O d
 partial_fixpoint
def Qb7:∀x r,ZQ x=O r->match x with|(p0,z,c,f,k,j)=>LQ f78 78 [1,1,1,0,1,0,0] 1 ⟨kp 49 [(2,(Qd z)),(9,(.ms 0 f 0 (I c)<|I c)),(33,(.ms 0 f 0 (I p0)<|max (I c)<|I c)),(34,(Qd (I p0:Int))),(35,(Qd j))],[(Ng f k)]⟩ (P1 (.exit 2) (λs d=>⟨sl d 49 [(9,(.ms 0 f 0 (I c)<|I c))],[(Ng f s)]⟩) r):=by
 refine ZQ.partial_correctness _ (λZQ Qb7 x r V=>?_);obtain⟨p0,z,c,f,k,j⟩:=x
 exact lp<|ge 1<|Qh<|ri V (λV=>Qm<|Qh<|Ql<|gr 1 (gi V λp V=>QA rfl (λ_=>Qh0 (e:=62) (n:=j) (tt:=0) (g:=f) (len:=I p0) (cap:=(max (I c)<|I c)) (size:=9) p kr kr rfl kr kr) (bi V λv u V=>QA rfl (λ_=>QiR Qa.b8 (tt:=0) (g:=f) (n:=j) (e:=62) (size:=9) u Qa.fit kr kr kr rfl kr kr kr)<|re 3<|gp<|Qe 4 (bi V λt u V=>cp (Ww u) (gi V λq V=>QA rfl (λ_=>Qh0 (e:=62) (n:=j) (tt:=0) (g:=f) (len:=I c) (cap:=I c) (size:=9) q kr kr rfl kr kr) (bi V λw A V=>bi V λm u V=>Zb (λH=>H.set 0<|Ng f m) rfl kr (λ_=>Qir Qa.b8 (l:=k) (n:=j) (y:=t) (size:=9) u A Qa.fit kr kr rfl kr kr kr kr)<|Q6<|gp<|re 2<|Qb7 _ _ V _<|fZ [(Ng f m)] (λ_=>(fR (gj Qa.b8 _ _ _ _ _) gD)) rfl)))))) (λV=>QD zf)
def UM:((List Qa)×(List Qa)×Int×Int)->Option (List Qa)|(p0,p1,g,j)=>YT p0>>=λk=>ZP (p1,g,j,p0,1,k,0)>>=λ(f,c)=>QN (I p0<=I c)>>=λ_=>ZQ (p0,g,c,f,c,0)>>=λd=>QN (I d=I c)>>=λ_=>ZI d>>=λe=>O e
def Qgv{p0 p1 p2 p3 r0}(V:UM (p0,p1,p2,p3)=O r0):FQ 78 [(.ew<|(Naa Qa.b8) p0),(.ew<|(Naa Qa.b8) p1),(Qg p2),(Qg p3)] (Q7 r0):=by
 unfold UM at V
 exact fp (fn:=f78) rfl<|ge 1<|gr 1 (bi V λr p V=>go 0 62 Qa.b8 (QbN p)<|re 1<|Qh<|gr 1<|QM Qa.b8 p1<|re 1<|Ql<|kY V (Qb6 _) (λ⟨f,c⟩ d V=>Qh<|gr 2<|QM Qa.b8 p0 (gi V λn V=>QA (v:=(.ms 0 f 0 (I p0)<|max (I c)<|I c)) rfl (λ_=>Qig (e:=62) (len:=I c) (h:=I p0) n kr kr rfl kr kr)<|Qe 1<|re 1<|Ql<|kY V (Qb7 _) (λj d V=>Qh<|gp (gi V λk V=>Zb (v:=(Q7 j)) (λH=>H.set 0<|.mt 62 (f+1)<|cellsOf Qa.b8 ([]:List Qa)) rfl kr (λ_ s=>QiS Qa.b8 (l:=j) (tt:=0) (e:=62) (g:=f) (m:=I c) (cap:=I c) k yC rfl kr kr kr s) (bi V λq p V=>cp (JT p)<|re 1<|Qn zf))) (hst:=(fZ [(Ng f c)] (λ_=>(fR (gj Qa.b8 _ _ _ _ _) gD)) rfl)))) (hst:=(fZ [(.mt 62 1<|cellsOf Qa.b8 r)] (λ_=>(fR (gj Qa.b8 _ _ _ _ _) gD)) rfl)))
def V9:(Qr×(List<|List Qa))->Option (List Qa)|(p0,p1)=>idx p1 0>>=λc=>idx p1 1>>=λv2=>idx p0.ea 0>>=λd=>idx d.aa p0.ch>>=λe=>UM (c,v2,p0.ch,e)>>=λf=>O f
def Qf7{p0 p1 r0}(V:V9 (p0,p1)=O r0):FQ 77 [(Qr.ex p0),(.ew<|(Naa (λl=>fS.ew<|(Naa Qa.b8) l)) p1)] (Q7 r0):=by unfold V9 at V;exact fp (fn:=f77) rfl<|ge 2<|Qh<|Zd<|Qe 1 (bi V λf c V=>X9 1 (λl=>fS.ew<|(Naa Qa.b8) l) p1 0 f (es:=(Naa (λl=>fS.ew<|(Naa Qa.b8) l)) p1) (d:=(.ew<|(Naa Qa.b8) f)) rfl c rfl rfl<|Qe 2 (bi V λv2 c V=>X9 1 (λl=>fS.ew<|(Naa Qa.b8) l) p1 1 v2 (es:=(Naa (λl=>fS.ew<|(Naa Qa.b8) l)) p1) (d:=(.ew<|(Naa Qa.b8) v2)) rfl c rfl rfl<|Qe 5 (bi V λe c V=>X9 8 Qr.b8 p0.ea 0 e (es:=Qr.hE p0.ea) (d:=(Qr.ex e)) (Qr.fa _) c (Qr.i6 e) rfl<|Qe 4 (QE 1 Qg V λg V=>Qe 1 (bi V λj c V=>cp (Qgv c)<|re 1 ⟨kr,Qn zf⟩)))))
mutual
def QP (x:((List Qr)×Int×fJ×Int×fJ×Int×Int×fJ×(List<|List Qa)×Int)):Option ((List<|List Qa)):=match x with|(q7,q0,q1,q2,q3,q4,q5,q6,f,e)=>if e<(I q7:Int)then idx q7 e>>=λc=>ZX (c.bx,c.aa,c.bc,c.cx,c.ch,c.cS,c.eh,c.ea)>>=λg=>app 24 f ([g]:List (List Qa))>>=λj=>QP (q7,q0,q1,q2,q3,q4,q5,q6,j,(W<|e+1))else O f
 partial_fixpoint
def ZX (x:(Int×fJ×Int×fJ×Int×Int×fJ×(List Qr))):Option ((List Qa)):=match x with|(q0,q1,q2,q3,q4,q5,q6,q7)=>QP (q7,q0,q1,q2,q3,q4,q5,q6,([]:List (List Qa)),0)>>=λd=>if q0=1 then VI ((⟨q0,q1,q2,q3,q4,q5,q6,q7⟩:Qr),d)>>=λk=>O k else if q0=2 then VC ((⟨q0,q1,q2,q3,q4,q5,q6,q7⟩:Qr),d)>>=λl=>O l else if q0=3 then Wf ((⟨q0,q1,q2,q3,q4,q5,q6,q7⟩:Qr),d)>>=λm=>O m else if q0=4 then VZ ((⟨q0,q1,q2,q3,q4,q5,q6,q7⟩:Qr),d)>>=λn=>O n else if q0=5 then V7 ((⟨q0,q1,q2,q3,q4,q5,q6,q7⟩:Qr),d)>>=λp=>O p else if q0=6 then Ws ((⟨q0,q1,q2,q3,q4,q5,q6,q7⟩:Qr),d)>>=λq=>O q else if q0=7 then V9 ((⟨q0,q1,q2,q3,q4,q5,q6,q7⟩:Qr),d)>>=λr=>O r else Z
 partial_fixpoint
end
def Jp:((List Qr)×Int×fJ×Int×fJ×Int×Int×fJ×(List<|List Qa)×Int)->((List<|List Qa))->Prop:=λx r=>match x with|(q7,q0,q1,q2,q3,q4,q5,q6,c,f)=>LQ f32 32 [1,1,0,1,0,0] 4 ⟨kp 29 [(1,(.ptr 2 0)),(2,(.ptr 1 0)),(3,(.eI [(Qg q0),(Lb q1),(Qg q2),(Lb q3),(Qg q4),(Qg q5),(Lb q6),(.ew<|Qr.hE q7)])),(5,(.vec 3<|(Naa (λl=>fS.ew<|(Naa Qa.b8) l)) c)),(9,(.b7<|.ew<|Qr.hE q7)),(10,(Qd (I q7:Int))),(11,(Qd f))],[(.map [(.int .i64 1,(Nae 65)),(.int .i64 2,(Nae 67)),(.int .i64 3,(Nae 69)),(.int .i64 4,(Nae 71)),(.int .i64 5,(Nae 73)),(.int .i64 6,(Nae 75)),(.int .i64 7,(Nae 77))]),(.box [(.hC 0)]),(.box [(.fn 32 [(.ptr 2 0),(.ptr 1 0)])]),(.tok 29<|I c)]⟩<|P1 (.exit 0) (λe d=>⟨sl d 29 [(2,(.ptr 1 0)),(3,(.eI [(Qg q0),(Lb q1),(Qg q2),(Lb q3),(Qg q4),(Qg q5),(Lb q6),(.ew<|Qr.hE q7)])),(5,(.vec 3<|(Naa (λl=>fS.ew<|(Naa Qa.b8) l)) e))],[(.map [(.int .i64 1,(Nae 65)),(.int .i64 2,(Nae 67)),(.int .i64 3,(Nae 69)),(.int .i64 4,(Nae 71)),(.int .i64 5,(Nae 73)),(.int .i64 6,(Nae 75)),(.int .i64 7,(Nae 77))]),(.box [(.hC 0)]),(.box [(.fn 32 [(.ptr 2 0),(.ptr 1 0)])]),(.tok 29<|I e)]⟩) r
def J1:(Int×fJ×Int×fJ×Int×Int×fJ×(List Qr))->(List Qa)->Prop:=λx r=>match x with|(q0,q1,q2,q3,q4,q5,q6,q7)=>PCX prog env 32 [(.b7<|.agg [(Qg q0),(Lb q1),(Qg q2),(Lb q3),(Qg q4),(Qg q5),(Lb q6),(.ew<|Qr.hE q7)]),(.ptr 2 0),(.ptr 1 0)] [(.map [(.int .i64 1,(Nae 65)),(.int .i64 2,(Nae 67)),(.int .i64 3,(Nae 69)),(.int .i64 4,(Nae 71)),(.int .i64 5,(Nae 73)),(.int .i64 6,(Nae 75)),(.int .i64 7,(Nae 77))]),(.box [(.hC 0)]),(.box [(.fn 32 [(.ptr 2 0),(.ptr 1 0)])])] (match r with|v5001=>(Q7 v5001)) (match r with|v5001=>[(.map [(.int .i64 1,(Nae 65)),(.int .i64 2,(Nae 67)),(.int .i64 3,(Nae 69)),(.int .i64 4,(Nae 71)),(.int .i64 5,(Nae 73)),(.int .i64 6,(Nae 75)),(.int .i64 7,(Nae 77))]),(.box [(.hC 0)]),(.box [(.fn 32 [(.ptr 2 0),(.ptr 1 0)])])])
def l6:(∀x r,QP x=O r->Jp x r)/\(∀x r,ZX x=O r->J1 x r):=by
 refine QP.mutual_partial_correctness Jp J1 ?_ ?_
 .intro QP ZX Jr QbH x r V;unfold Jp;obtain⟨q7,q0,q1,q2,q3,q4,q5,q6,k,p⟩:=x
  exact lp<|ge 1<|Qh<|ri V (λV=>Qm<|Qh<|Ql<|Qh<|gp (bi V λc f V=>X9 8 Qr.b8 q7 p c (es:=Qr.hE q7) (d:=(Qr.ex c)) (Qr.fa _) f (Qr.i6 c) rfl<|re 3<|gp<|Qe 3 (bi V λg f V=>Qia (A0:=[(.b7<|.agg [(Qg c.bx),(Lb c.aa),(Qg c.bc),(Lb c.cx),(Qg c.ch),(Qg c.cS),(Lb c.eh),(.ew<|Qr.hE c.ea)]),(.ptr 2 0),(.ptr 1 0)]) (q:=(Q7 g)) (H0:=[(.map [(.int .i64 1,(Nae 65)),(.int .i64 2,(Nae 67)),(.int .i64 3,(Nae 69)),(.int .i64 4,(Nae 71)),(.int .i64 5,(Nae 73)),(.int .i64 6,(Nae 75)),(.int .i64 7,(Nae 77))]),(.box [(.hC 0)]),(.box [(.fn 32 [(.ptr 2 0),(.ptr 1 0)])])]) (b:=0) (n:=3) (QbH _ _ f) (lP rfl<|lP rfl<|lP rfl BT) (lP rfl<|lP rfl<|lP rfl BT)<|Qe 1 (bi V λm f V=>YA 29 1 24 3 (λl=>fS.ew<|(Naa Qa.b8) l) k ([g]:List (List Qa)) m (xs:=(Naa (λl=>fS.ew<|(Naa Qa.b8) l)) k) (es:=(Naa (λl=>fS.ew<|(Naa Qa.b8) l)) ([g]:List (List Qa))) (L:=(Naa (λl=>fS.ew<|(Naa Qa.b8) l))) yC rfl rfl yC f<|re 1<|gp<|re 2<|Jr _ _ V _<|fZ [(.map [(.int .i64 1,(Nae 65)),(.int .i64 2,(Nae 67)),(.int .i64 3,(Nae 69)),(.int .i64 4,(Nae 71)),(.int .i64 5,(Nae 73)),(.int .i64 6,(Nae 75)),(.int .i64 7,(Nae 77))]),(.box [(.hC 0)]),(.box [(.fn 32 [(.ptr 2 0),(.ptr 1 0)])]),(.tok 29<|I m)] (λ_=>(fR kr<|fR kr<|fR kr<|fR kr gD)) rfl)))) (λV=>QD zf)
 .intro QP Jr x r V;unfold J1;obtain⟨q0,q1,q2,q3,q4,q5,q6,q7⟩:=x;refine PN (fn:=f32) rfl ?_
  exact ge 2<|ge 1<|Qh<|gr 2<|Ff Qr.b8 q7 (es:=Qr.hE q7) (Qr.fa _)<|re 1<|Ql<|kY V (Jr _) (λs d V=>gr 3<|kc (n:=q0) (K:=1) V (λhc V=>QA (v:=(Nae 65)) rfl (λ_=>Ty (i:=0) (kt:=3) (e:=69) (ik:=.i64) (es:=[(.int .i64 1,(Nae 65)),(.int .i64 2,(Nae 67)),(.int .i64 3,(Nae 69)),(.int .i64 4,(Nae 71)),(.int .i64 5,(Nae 73)),(.int .i64 6,(Nae 75)),(.int .i64 7,(Nae 77))]) (n:=q0) (K:=1) (j:=0) hc kr kr rfl kr kr kr kr)<|Qe 2 (bi V λt f V=>cp (Qf1 f)<|re 1<|Qn zf)) (λV=>kc (n:=q0) (K:=2) V (λhc V=>QA (v:=(Nae 67)) rfl (λ_=>Ty (i:=0) (kt:=3) (e:=69) (ik:=.i64) (es:=[(.int .i64 1,(Nae 65)),(.int .i64 2,(Nae 67)),(.int .i64 3,(Nae 69)),(.int .i64 4,(Nae 71)),(.int .i64 5,(Nae 73)),(.int .i64 6,(Nae 75)),(.int .i64 7,(Nae 77))]) (n:=q0) (K:=2) (j:=1) hc kr kr rfl kr kr kr kr)<|Qe 2 (bi V λu f V=>cp (Qf2 f)<|re 1<|Qn zf)) (λV=>kc (n:=q0) (K:=3) V (λhc V=>QA (v:=(Nae 69)) rfl (λ_=>Ty (i:=0) (kt:=3) (e:=69) (ik:=.i64) (es:=[(.int .i64 1,(Nae 65)),(.int .i64 2,(Nae 67)),(.int .i64 3,(Nae 69)),(.int .i64 4,(Nae 71)),(.int .i64 5,(Nae 73)),(.int .i64 6,(Nae 75)),(.int .i64 7,(Nae 77))]) (n:=q0) (K:=3) (j:=2) hc kr kr rfl kr kr kr kr)<|Qe 2 (bi V λw f V=>cp (Qf3 f)<|re 1<|Qn zf)) (λV=>kc (n:=q0) (K:=4) V (λhc V=>QA (v:=(Nae 71)) rfl (λ_=>Ty (i:=0) (kt:=3) (e:=69) (ik:=.i64) (es:=[(.int .i64 1,(Nae 65)),(.int .i64 2,(Nae 67)),(.int .i64 3,(Nae 69)),(.int .i64 4,(Nae 71)),(.int .i64 5,(Nae 73)),(.int .i64 6,(Nae 75)),(.int .i64 7,(Nae 77))]) (n:=q0) (K:=4) (j:=3) hc kr kr rfl kr kr kr kr)<|Qe 2 (bi V λy f V=>cp (Qf4 f)<|re 1<|Qn zf)) (λV=>kc (n:=q0) (K:=5) V (λhc V=>QA (v:=(Nae 73)) rfl (λ_=>Ty (i:=0) (kt:=3) (e:=69) (ik:=.i64) (es:=[(.int .i64 1,(Nae 65)),(.int .i64 2,(Nae 67)),(.int .i64 3,(Nae 69)),(.int .i64 4,(Nae 71)),(.int .i64 5,(Nae 73)),(.int .i64 6,(Nae 75)),(.int .i64 7,(Nae 77))]) (n:=q0) (K:=5) (j:=4) hc kr kr rfl kr kr kr kr)<|Qe 2 (bi V λz f V=>cp (Qf5 f)<|re 1<|Qn zf)) (λV=>kc (n:=q0) (K:=6) V (λhc V=>QA (v:=(Nae 75)) rfl (λ_=>Ty (i:=0) (kt:=3) (e:=69) (ik:=.i64) (es:=[(.int .i64 1,(Nae 65)),(.int .i64 2,(Nae 67)),(.int .i64 3,(Nae 69)),(.int .i64 4,(Nae 71)),(.int .i64 5,(Nae 73)),(.int .i64 6,(Nae 75)),(.int .i64 7,(Nae 77))]) (n:=q0) (K:=6) (j:=5) hc kr kr rfl kr kr kr kr)<|Qe 2 (bi V λA f V=>cp (Qf6 f)<|re 1<|Qn zf)) (λV=>kc (n:=q0) (K:=7) V (λhc V=>QA (v:=(Nae 77)) rfl (λ_=>Ty (i:=0) (kt:=3) (e:=69) (ik:=.i64) (es:=[(.int .i64 1,(Nae 65)),(.int .i64 2,(Nae 67)),(.int .i64 3,(Nae 69)),(.int .i64 4,(Nae 71)),(.int .i64 5,(Nae 73)),(.int .i64 6,(Nae 75)),(.int .i64 7,(Nae 77))]) (n:=q0) (K:=7) (j:=6) hc kr kr rfl kr kr kr kr)<|Qe 2 (bi V λB f V=>cp (Qf7 f)<|re 1<|Qn zf)) (λV=>(QiE V).elim)))))))) (hst:=(fZ [(.map [(.int .i64 1,(Nae 65)),(.int .i64 2,(Nae 67)),(.int .i64 3,(Nae 69)),(.int .i64 4,(Nae 71)),(.int .i64 5,(Nae 73)),(.int .i64 6,(Nae 75)),(.int .i64 7,(Nae 77))]),(.box [(.hC 0)]),(.box [(.fn 32 [(.ptr 2 0),(.ptr 1 0)])]),(.tok 29<|I ([]:List (List Qa)))] (λ_=>(fR kr<|fR kr<|fR kr<|fR kr gD)) rfl))
def Jr:∀x r,QP x=O r->Jp x r:=l6.1
def QbH:∀x r,ZX x=O r->J1 x r:=l6.2
def S7:Qr->Option (List Qa)|p0=>JB ()>>=λ_=>ZX (p0.bx,p0.aa,p0.bc,p0.cx,p0.ch,p0.cS,p0.eh,p0.ea)>>=λc=>O c
def Qhz{p0 r0}(V:S7 p0=O r0):FQ 9 [(Qr.ex p0)] (Q7 r0):=by
 unfold S7 at V
 exact fp (fn:=f9) rfl<|ge 2<|Qh<|gp (bi V λ_ c V=>Zg (Qfb c)<|re 2<|ge 1<|ge 2<|gr 2 (bi V λd c V=>Qia (A0:=[(.b7<|.agg [(Qg p0.bx),(Lb p0.aa),(Qg p0.bc),(Lb p0.cx),(Qg p0.ch),(Qg p0.cS),(Lb p0.eh),(.ew<|Qr.hE p0.ea)]),(.ptr 2 0),(.ptr 1 0)]) (q:=(Q7 d)) (H0:=[(.map [(.int .i64 1,(Nae 65)),(.int .i64 2,(Nae 67)),(.int .i64 3,(Nae 69)),(.int .i64 4,(Nae 71)),(.int .i64 5,(Nae 73)),(.int .i64 6,(Nae 75)),(.int .i64 7,(Nae 77))]),(.box [(.hC 0)]),(.box [(.fn 32 [(.ptr 2 0),(.ptr 1 0)])])]) (b:=0) (n:=3) (QbH _ _ c) (lP rfl<|lP rfl<|lP rfl BT) (lP rfl<|lP rfl<|lP rfl BT)<|re 1<|Qn zf))
def JJ:fJ->Option Qk|p0=>kj 8 (I p0:Int) 0>>=λc=>O (⟨c,p0⟩:Qk)
def QfV{p0 r0}(V:JJ p0=O r0):FQ 80 [(Lb p0)] (.b7<|Qk.b8 r0):=by unfold JJ at V;exact fp (fn:=f80) rfl<|ge 1<|gr 1<|QM Qg p0 (bi V λc d V=>Zb (v:=.arr 1 0 (I c) (I c)) (λH=>H++[.box (cellsOf Qg c)]) rfl kr (by intro K f;exact UB 1 Qg (z:=0) (n:=(I p0:Int)) (bytes:=8) d (e:=3) kr kr kr kr rfl rfl kr kr f)<|re 3<|Qn (by obtain rfl:=vz V;exact⟨trivial,Ym [(.agg [(.arr 1 0 (I c)<|I c),(La p0)])] kr<|qM<|gk (pq Qg c rfl yC kr)<|gk kr mu⟩))
def Zf:(fJ×Nat×fJ×Int×Int×Int)->Option Int|(q0,g,j,k,c,d)=>(if d<(I q0:Int)then O (decide<|c>0)else O U)>>=λ(e:Bool)=>if e=J then idx q0 d>>=λf=>Zf (q0,g,j,k,(W<|c*f),(W<|d+1))else O c
 partial_fixpoint
def Qar:∀x r,Zf x=O r->match x with|(q0,e,c,f,g,j)=>LQ f126 126 [1,1,1,0,1,0,0,1,0,0,1,1,0,1,0,0] 2 ⟨kp 42 [(0,(La q0)),(3,(.ms 1 e 0 (I c)<|I c)),(4,(Qd f)),(5,(Qd g)),(6,(Qd j))],(O9 e c)⟩ (P1 (.exit 2) (λk d=>⟨sl d 42 [(0,(La q0)),(3,(.ms 1 e 0 (I c)<|I c)),(4,(Qd f)),(5,(Qd k))],(O9 e c)⟩) r):=by refine Zf.partial_correctness _ (λZf Qar x r V=>?_);obtain⟨q0,e,c,f,g,j⟩:=x;exact lp<|Qh<|Qh (bi V λl n V=>Zm (λd=>⟨sl d 42 [(0,(La q0)),(3,(.ms 1 e 0 (I c)<|I c)),(4,(Qd f)),(5,(Qd g)),(6,(Qd j)),(28,(Qp l))],(O9 e c)⟩) (have V:=n;gp (Qe 2<|QM Qg q0<|Qe 2<|gs 25 V (λV=>re 3 zf) (λV=>re 3 zf))) (λd=>lf V (λV=>Qm<|Qh<|Ql<|gp<|Qe 3 (QE 1 Qg V λm V=>re 3<|gp<|re 3<|Qar _ _ V _<|fZ (O9 e c) (λ_=>(fR kr<|fR (gj Qg _ _ _ _ _) gD)) rfl)) (λV=>QD zf)))
def QZ:(fJ×Nat×fJ×Int)->Option ((Nat×fJ))|(q0,d,e,c)=>if c<(I q0:Int)then Yn q0>>=λj=>(if j=0 then O 0 else O 1)>>=λ(k:Int)=>Zf (q0,d,e,c,k,(W<|c+1))>>=λf=>app 8 e ([f]:fJ)>>=λg=>QZ (q0,(gb d ([f]:fJ).isEmpty),g,(W<|c+1))else O (d,e)
 partial_fixpoint
def WW:∀x r,QZ x=O r->match x with|(q0,c,f,n)=>LQ f126 126 [1,1,1,0,1,0,0] 2 ⟨kp 42 [(0,(La q0)),(3,(.ms 1 c 0 (I f)<|I f)),(4,(Qd n))],(O9 c f)⟩ (P1 (.exit 0) (λ(q,p) d=>⟨sl d 42 [(3,(.ms 1 q 0 (I p)<|I p))],(O9 q p)⟩) r):=by
 refine QZ.partial_correctness _ (λQZ WW x r V=>?_);obtain⟨q0,c,f,n⟩:=x
 exact lp<|Qh<|gr 2<|QM Qg q0<|re 1<|ri V (λV=>Qm<|Qh<|Ql<|ge 1<|Qh<|gr 1 (bi V λu t V=>cp (TV t)<|re 1 (bi V λs w V=>Zm (λd=>⟨sl d 42 [(0,(La q0)),(3,(.ms 1 c 0 (I f)<|I f)),(4,(Qd n)),(5,(Qd s))],(O9 c f)⟩) (have V:=w;mQ V (λV=>gp<|re 1 zf) (λV=>Qm zf)) (λd=>Qh<|ge 3<|Ql<|kY V (Qar _) (λj d V=>gp<|Qe 3 (bi V λk t V=>Zb (v:=.ms 1 (gb c ([j]:fJ).isEmpty) 0 (I k) (I k)) (λH=>H.set 1<|V8 c j k) rfl kr (λ_ y=>TQ Qg (l:=f) (es:=([j]:fJ)) (bytes:=8) (e:=3) (tt:=1) (g:=c) (m:=I f) t yC kr kr kr kr rfl rfl kr rfl kr kr y)<|re 1<|gp<|re 3<|WW _ _ V _<|fZ [Za,(V8 c j k)] (λ_=>(fR kr<|fR (gj Qg _ _ _ _ _) gD)) rfl)) (hst:=(fZ (O9 c f) (λ_=>(fR kr<|fR (gj Qg _ _ _ _ _) gD)) rfl)))))) (λV=>QD zf)
def Yx:fJ->Option ((Nat×fJ))|q0=>Ja q0>>=λe=>if e≠0 then O (0,([]:fJ))else QZ (q0,0,([]:fJ),0)>>=λ(c,d)=>O (c,d)
def Qfr{q0 v5001 v5002}(V:Yx q0=O (v5001,v5002)):PC prog env 126 [(La q0)] [Za] (.ms 1 v5001 0 (I v5002)<|I v5002) (O9 v5001 v5002):=by unfold Yx at V;exact gY (fn:=f126) rfl<|ge 1<|Qh<|gr 1 (bi V λg f V=>cp (UA f)<|re 1<|zz V (λV=>ge 1<|Qn zf) (λV=>Qm<|ge 1<|Qh<|ge 1<|Ql<|kY V (WW _) (λ⟨c,e⟩ d V=>ge 2<|Qn zf) (hst:=(fZ [Za,TH] (λ_=>(fR kr<|fR (gj Qg _ _ _ _ _) gD)) rfl))))
def Ue:(Int×fJ)->Option Qt|(p0,p1)=>Yx p1>>=λ(c,v2)=>O (⟨2,p0,0,v2,0,0,0⟩:Qt)
def Qg4{p0 p1 r0}(V:Ue (p0,p1)=O r0):FQ 81 [(Qg p0),(Lb p1)] (.b7<|Qt.b8 r0):=by unfold Ue at V;exact fp (fn:=f81) rfl<|ge 1<|gr 2 (sB V λc v2 d V=>Zg (Qfr d)<|re 2<|Qn (by obtain rfl:=vz V;exact⟨trivial,Ym [(.agg [(Qd 2),(Qd p0),(Qd 0),(.ms 1 c 0 (I v2)<|I v2),(Qd 0),(Qd 0),(Qd 0)])] kr<|qM<|gk kr<|gk kr<|gk kr<|gk (jx (e:=3) Qg v2 rfl yC kr)<|gk kr<|gk kr<|gk kr mu⟩))
def XC:(Qk×Int)->Option (Unit⊕ Unit)|(p0,c)=>if c<(I p0.lo:Int)then idx p0.lo c>>=λd=>idx p0.hi c>>=λe=>if d>=e then O (Naf ())else XC (p0,(W<|c+1))else O (Nag ())
 partial_fixpoint
def W7:∀x r,XC x=O r->match x with|(p0,c)=>LQ f44 44 [1,0,1,0,0] 1 ⟨kp 22 [(1,(.ptr 0 0)),(3,(Qd c))],[(Qz p0.lo p0.hi)]⟩ (P2 .ret (λ_ d=>⟨sl d 22 [(2,(Qp J))],[(Qz p0.lo p0.hi)]⟩) (.exit 0) (λ_ d=>⟨sl d 22 [],[(Qz p0.lo p0.hi)]⟩) r):=by refine XC.partial_correctness _ (λXC W7 x r V=>?_);obtain⟨p0,c⟩:=x;exact lp<|Qh<|gr 3<|QM Qg p0.lo<|re 1<|ri V (λV=>Qm<|Qh<|Ql<|Qh<|Zd<|Qe 3 (QE 1 Qg V λe V=>Qe 4 (QE 1 Qg V λf V=>re 2 ⟨kr,ri V (λV=>ge 1<|Qn zf) (λV=>Qm<|gp<|re 3<|W7 _ _ V _ kr)⟩))) (λV=>QD zf)
def Jb:Qk->Option Bool|p0=>(XC (p0,0)>>=λ|.inl _=>O J|.inr _=>O U)
def QfU{p0 r0}(V:Jb p0=O r0):FQ 44 [(Qk.b8 p0)] (Qp r0):=by unfold Jb at V;exact fp (fn:=f44) rfl<|ge 2<|Qh<|ge 1<|Ql (pG V (W7 _) (λ_ d V=>zf) λ_ d V=>ge 1<|Qn zf)
def XX:(fJ×fJ×Int)->Option (Bool⊕ Unit)|(p0,p1,c)=>(if c<(I p0:Int)then O (decide<|c<(I p1:Int))else O U)>>=λ(d:Bool)=>if d=J then idx p0 c>>=λe=>idx p1 c>>=λf=>if e≠f then idx p0 c>>=λg=>idx p1 c>>=λj=>O (Naf<|decide<|g<j)else XX (p0,p1,(W<|c+1))else O (Nag ())
 partial_fixpoint
def Qd9:∀x r,XX x=O r->match x with|(p0,p1,c)=>LQ f46 46 [1,0,1,0,0] 0 ⟨kp 41 [(0,(La p0)),(1,(La p1)),(5,(Qd c))],[]⟩ (P2 .ret (λe d=>⟨sl d 41 [(4,(Qp e))],[]⟩) (.exit 0) (λ_ d=>⟨sl d 41 [(0,(La p0)),(1,(La p1))],[]⟩) r):=by refine XX.partial_correctness _ (λXX Qd9 x r V=>?_);obtain⟨p0,p1,c⟩:=x;exact lp<|Qh<|Qh (bi V λf m V=>Zm (λd=>⟨sl d 41 [(0,(La p0)),(1,(La p1)),(5,(Qd c)),(15,(Qp f))],[]⟩) (have V:=m;gp (Qe 2<|QM Qg p0<|Qe 2<|gs 10 V (λV=>Qe 2<|QM Qg p1<|re 2 zf) (λV=>re 5 zf))) (λd=>lf V (λV=>Qm<|Qh<|Ql<|Qh<|Zd<|Qe 2 (QE 1 Qg V λg V=>Qe 3 (QE 1 Qg V λj V=>re 2 ⟨kr,zz V (λV=>Qh<|Zd<|Qe 2 (QE 1 Qg V λk V=>Qe 3 (QE 1 Qg V λl V=>re 3 ⟨kr,Qn zf⟩))) (λV=>Qm<|gp<|re 3<|Qd9 _ _ V _ kr)⟩))) (λV=>QD zf)))
def J9:(fJ×fJ)->Option Bool|(p0,p1)=>(XX (p0,p1,0)>>=λ|.inl c=>O c|.inr _=>O<|decide<|(I p0:Int)<(I p1:Int))
def Qgq{p0 p1 r0}(V:J9 (p0,p1)=O r0):FQ 46 [(Lb p0),(Lb p1)] (Qp r0):=by unfold J9 at V;exact fp (fn:=f46) rfl<|ge 1<|Qh<|ge 1<|Ql (pG V (Qd9 _) (λc d V=>zf) λ_ d V=>gr 1<|QM Qg p0<|Qe 1<|QM Qg p1<|re 2<|Qn zf)
def Jn:((List Qc)×Qc×Int)->Option Int|(p0,p1,c)=>(if c<(I p0:Int)then idx p0 c>>=λd=>J9 (d.box.lo,p1.box.lo)>>=λe=>O e else O U)>>=λ(f:Bool)=>if f=J then Jn (p0,p1,(W<|c+1))else O c
 partial_fixpoint
def QeJ:∀x r,Jn x=O r->match x with|(p0,p1,c)=>LQ f79 79 [1,1,1,0,0,0] 1 ⟨kp 40 [(0,(QL p0)),(3,(.ptr 0 0)),(5,(Qd c))],[(Zp p1.box.lo p1.box.hi p1.be.bx p1.be.bc p1.be.ek p1.be.bm p1.be.ed p1.be.dk p1.be.ep)]⟩ (P1 (.exit 0) (λe d=>⟨sl d 40 [(0,(QL p0)),(3,(.ptr 0 0)),(5,(Qd e))],[(Zp p1.box.lo p1.box.hi p1.be.bx p1.be.bc p1.be.ek p1.be.bm p1.be.ed p1.be.dk p1.be.ep)]⟩) r):=by refine Jn.partial_correctness _ (λJn QeJ x r V=>?_);obtain⟨p0,p1,c⟩:=x;exact lp<|Qh<|Qh (bi V λf k V=>Zm (λd=>⟨sl d 40 [(0,(QL p0)),(3,(.ptr 0 0)),(5,(Qd c)),(25,(Qp f))],[(Zp p1.box.lo p1.box.hi p1.be.bx p1.be.bc p1.be.ek p1.be.bm p1.be.ed p1.be.dk p1.be.ep)]⟩) (have V:=k;Zd (Qe 2<|QM Qc.b8 p0<|Qe 2<|gs 14 V (λV=>Qe 2 (QE 9 Qc.b8 V λg V=>Qe 6 (bi V λj l V=>cp (Qgq l)<|re 1 ⟨kr,zf⟩))) (λV=>re 11 ⟨kr,zf⟩))) (λd=>lf V (λV=>Qm<|Ql<|gp<|re 3<|QeJ _ _ V _ kr) (λV=>QD zf)))
def Zo:((List Qc)×Qc)->Option (List Qc)|(p0,p1)=>Jb p1.box>>=λk=>if k=J then O p0 else Jn (p0,p1,0)>>=λc=>sub p0 0 c>>=λd=>app 120 ([]:List Qc) d>>=λe=>app 120 e ([(⟨(⟨p1.box.lo,p1.box.hi⟩:Qk),(⟨p1.be.bx,p1.be.bc,p1.be.ek,p1.be.bm,p1.be.ed,p1.be.dk,p1.be.ep⟩:Qt)⟩:Qc)]:List Qc)>>=λf=>sub p0 c (I p0:Int)>>=λg=>app 120 f g>>=λj=>O j
def P0{p0 p1 r0}(V:Zo (p0,p1)=O r0):FQ 79 [(.ew<|(Naa Qc.b8) p0),(Qc.b8 p1)] (QL r0):=by
 unfold Zo at V
 exact fp (fn:=f79) rfl<|ge 2<|Qh<|gr 2 (bi V λm e V=>cp (QfU e)<|Q6<|lf V (λV=>ge 2<|Qn zf) (λV=>Qm<|ge 1<|Qh<|Ql (kY V (QeJ _) λc d V=>Qh<|Zd<|Qe 3 (bi V λf e V=>Uf 9 Qc.b8 p0 f 0 c (es:=(Naa Qc.b8) p0) (L:=(Naa Qc.b8)) (a:=vX 0) (b:=vX c) yC rfl (λ_=>by first|rfl|exact oy<|Qc.fit _) e rfl (Or.inl rfl) (bi V λg e V=>YA 83 9 120 1 Qc.b8 ([]:List Qc) f g (xs:=(Naa Qc.b8) ([]:List Qc)) (es:=(Naa Qc.b8) f) (L:=(Naa Qc.b8)) yC rfl rfl Qc.fit e<|Qe 2 (bi V λj e V=>YA 83 9 120 1 Qc.b8 g ([(⟨(⟨p1.box.lo,p1.box.hi⟩:Qk),(⟨p1.be.bx,p1.be.bc,p1.be.ek,p1.be.bm,p1.be.ed,p1.be.dk,p1.be.ep⟩:Qt)⟩:Qc)]:List Qc) j (xs:=(Naa Qc.b8) g) (es:=(Naa Qc.b8) ([(⟨(⟨p1.box.lo,p1.box.hi⟩:Qk),(⟨p1.be.bx,p1.be.bc,p1.be.ek,p1.be.bm,p1.be.ed,p1.be.dk,p1.be.ep⟩:Qt)⟩:Qc)]:List Qc)) (L:=(Naa Qc.b8)) yC rfl rfl Qc.fit e<|Qe 2 (bi V λk e V=>Uf 9 Qc.b8 p0 k c (I p0:Int) (es:=(Naa Qc.b8) p0) (L:=(Naa Qc.b8)) (a:=vX c) (b:=O (I<|(Naa Qc.b8) p0)) yC rfl (λ_=>by first|rfl|exact oy<|Qc.fit _) e rfl (Or.inr ⟨rfl,rfl⟩) (bi V λl e V=>YA 83 9 120 1 Qc.b8 j k l (xs:=(Naa Qc.b8) j) (es:=(Naa Qc.b8) k) (L:=(Naa Qc.b8)) yC rfl rfl Qc.fit e<|re 1 ⟨kr,Qn zf⟩))))))))
def TN:(Int×fJ)->Option (List Qc)|(p0,p1)=>JJ p1>>=λc=>Ue (p0,p1)>>=λv2=>Zo (([]:(List Qc)),(⟨(⟨c.lo,c.hi⟩:Qk),(⟨v2.bx,v2.bc,v2.ek,v2.bm,v2.ed,v2.dk,v2.ep⟩:Qt)⟩:Qc))>>=λd=>O d
def Qho{p0 p1 r0}(V:TN (p0,p1)=O r0):FQ 33 [(Qg p0),(Lb p1)] (QL r0):=by unfold TN at V;exact fp (fn:=f33) rfl<|ge 1<|gr 1 (bi V λd c V=>cp (QfV c)<|Qe 2 (bi V λv2 c V=>cp (Qg4 c)<|Qe 1 (bi V λe c V=>cp (P0 c)<|re 1<|Qn zf)))
def RN:(Qt×Int×fJ)->Option Qt|(p0,p1,c)=>(if p0.bx=2 then O (W<|p0.ek+p1)else O p0.ek)>>=λ(d:Int)=>if p0.bx=3 then O (⟨p0.bx,p0.bc,d,c,(W<|p0.ed+p1),p0.dk,p0.ep⟩:Qt)else O (⟨p0.bx,p0.bc,d,c,p0.ed,p0.dk,p0.ep⟩:Qt)
def QfJ{p0 p1 p2 r0}(V:RN (p0,p1,p2)=O r0):FQ 127 [(Qt.b8 p0),(Qg p1),(Lb p2)] (.b7<|Qt.b8 r0):=by unfold RN at V;exact fp (fn:=f127) rfl<|ge 2<|ge 3<|ge 3<|Qh<|ge 3 (bi V λc e V=>Zm (λd=>⟨sl d 28 [(1,(Qd p1)),(3,(.ptr 0 0)),(6,(.ptr 1 0)),(7,(.ptr 2 0))],[(QB p0.bx p0.bc p0.ek p0.bm p0.ed p0.dk p0.ep),Za,(QB p0.bx p0.bc c p2 p0.ed p0.dk p0.ep)]⟩) (have V:=e;mQ V (λV=>gp<|re 6 zf) (λV=>Qm zf)) (λd=>Qh<|ge 3<|mQ V (λV=>gp<|re 6<|ge 2<|Qn zf) (λV=>Qm<|ge 2<|Qn zf)))
def YX:(Qt×Int×Int)->Option Qt|(p0,p1,c)=>if p0.bx=1 then O p0 else idx p0.bm p1>>=λd=>RN (p0,(W<|c*d),p0.bm)>>=λv2=>O v2
def Vt{p0 p1 p2 r0}(V:YX (p0,p1,p2)=O r0):FQ 82 [(Qt.b8 p0),(Qg p1),(Qg p2)] (.b7<|Qt.b8 r0):=by unfold YX at V;exact fp (fn:=f82) rfl<|ge 2<|Qh<|ge 3<|mQ V (λV=>ge 2<|Qn zf) (λV=>Qm<|Qh<|Zd<|Qe 5 (QE 1 Qg V λd V=>Qe 4 (bi V λv2 c V=>cp (QfJ c)<|re 1 ⟨kr,Qn zf⟩)))
def XB:(Qk×Int)->Option (Unit⊕ Unit)|(p0,c)=>if c<(I p0.lo:Int)then idx p0.lo c>>=λd=>idx p0.hi c>>=λe=>if d>=e then O (Naf ())else XB (p0,(W<|c+1))else O (Nag ())
 partial_fixpoint
def Qdz:∀x r,XB x=O r->match x with|(p0,c)=>LQ f128 128 [1,0,1,0,0] 1 ⟨kp 22 [(1,(.ptr 0 0)),(3,(Qd c))],[(Qz p0.lo p0.hi)]⟩ (P2 .ret (λ_ d=>⟨sl d 22 [(2,(Qp J))],[(Qz p0.lo p0.hi)]⟩) (.exit 0) (λ_ d=>⟨sl d 22 [],[(Qz p0.lo p0.hi)]⟩) r):=by refine XB.partial_correctness _ (λXB Qdz x r V=>?_);obtain⟨p0,c⟩:=x;exact lp<|Qh<|gr 3<|QM Qg p0.lo<|re 1<|ri V (λV=>Qm<|Qh<|Ql<|Qh<|Zd<|Qe 3 (QE 1 Qg V λe V=>Qe 4 (QE 1 Qg V λf V=>re 2 ⟨kr,ri V (λV=>ge 1<|Qn zf) (λV=>Qm<|gp<|re 3<|Qdz _ _ V _ kr)⟩))) (λV=>QD zf)
def JH:Qk->Option Bool|p0=>(XB (p0,0)>>=λ|.inl _=>O J|.inr _=>O U)
def Wh{p0 r0}(V:JH p0=O r0):FQ 128 [(Qk.b8 p0)] (Qp r0):=by unfold JH at V;exact fp (fn:=f128) rfl<|ge 2<|Qh<|ge 1<|Ql (pG V (Qdz _) (λ_ d V=>zf) λ_ d V=>ge 1<|Qn zf)
def Z0:(Qk×Qk×fJ×fJ×Int)->Option ((fJ×fJ))|(p0,p1,d,e,c)=>if c<(I p0.lo:Int)then idx p0.lo c>>=λf=>idx p1.lo c>>=λg=>app 8 d ([(if f<g then g else f)]:fJ)>>=λl=>idx p0.hi c>>=λj=>idx p1.hi c>>=λk=>app 8 e ([(if k<j then k else j)]:fJ)>>=λm=>Z0 (p0,p1,l,m,(W<|c+1))else O (d,e)
 partial_fixpoint
def QbK:∀x r,Z0 x=O r->match x with|(p0,p1,c,e,p)=>LQ f129 129 [1,1,1,0,1,0,0] 6 ⟨kp 59 [(2,(.ptr 0 0)),(3,(.ptr 1 0)),(4,(.ptr 2 0)),(6,(.ptr 3 0)),(7,(Qd p))],[(Qz p0.lo p0.hi),(Qz p1.lo p1.hi),(.box [Ea,Ea]),(.box [(.vec 4<|(Naa Qg) c),(QhR e)]),(.tok 3<|I c),(.tok 3<|I e)]⟩ (P1 (.exit 0) (λ(q,s) d=>⟨sl d 59 [(4,(.ptr 2 0)),(6,(.ptr 3 0))],[(Qz p0.lo p0.hi),(Qz p1.lo p1.hi),(.box [Ea,Ea]),(.box [(.vec 4<|(Naa Qg) q),(QhR s)]),(.tok 3<|I q),(.tok 3<|I s)]⟩) r):=by
 refine Z0.partial_correctness _ (λZ0 QbK x r V=>?_);obtain⟨p0,p1,c,e,p⟩:=x
 exact lp<|Qh<|gr 3<|QM Qg p0.lo<|re 1<|ri V (λV=>Qm<|Qh<|Ql<|Qh<|Zd<|Qe 5 (QE 1 Qg V λf V=>Qe 4 (QE 1 Qg V λg V=>Qe 1<|QA rfl (λ_=>Ki (k:=.i64) (m:=f) (n:=g) rfl kr kr)<|Qe 1 (bi V λt v V=>YA 3 1 8 4 Qg c ([(if f<g then g else f)]:fJ) t (xs:=(Naa Qg) c) (es:=(Naa Qg) ([(if f<g then g else f)]:fJ)) (L:=(Naa Qg)) yC rfl rfl yC v<|re 2 ⟨kr,Zd<|Qe 5 (QE 1 Qg V λj V=>Qe 4 (QE 1 Qg V λl V=>Qe 1<|QA rfl (λ_=>Hf (k:=.i64) (m:=j) (n:=l) rfl kr kr)<|Qe 1 (bi V λu v V=>YA 3 1 8 5 Qg e ([(if l<j then l else j)]:fJ) u (xs:=(Naa Qg) e) (es:=(Naa Qg) ([(if l<j then l else j)]:fJ)) (L:=(Naa Qg)) yC rfl rfl yC v<|re 2 ⟨kr,gp<|re 3<|QbK _ _ V _ kr⟩)))⟩)))) (λV=>QD zf)
def J7:(Qk×Qk)->Option (Qk×Bool)|(p0,p1)=>if(I p0.lo:Int)≠(I p1.lo:Int)then O ((⟨([]:fJ),([]:fJ)⟩:Qk),U)else Z0 (p0,p1,([]:fJ),([]:fJ),0)>>=λ(c,d)=>JH (⟨c,d⟩:Qk)>>=λe=>if e=J then O ((⟨([]:fJ),([]:fJ)⟩:Qk),U)else O ((⟨c,d⟩:Qk),J)
def Qgo{p0 p1 r0 r1}(V:J7 (p0,p1)=O (r0,r1)):FQ 129 [(Qk.b8 p0),(Qk.b8 p1)] (.fz [(.b7<|Qk.b8 r0),(Qp r1)]):=by unfold J7 at V;exact fp (fn:=f129) rfl<|ge 4<|Qh<|gr 2<|QM Qg p0.lo<|Qe 2<|QM Qg p1.lo<|re 1<|zz V (λV=>ge 3<|Qn zf) (λV=>Qm<|ge 1<|Qh<|ge 1<|Ql (kY V (QbK _) λ⟨c,e⟩ d V=>Qh<|gr 1 (bi V λf g V=>cp (Wh g)<|Q6<|lf V (λV=>ge 3<|Qn zf) (λV=>Qm<|ge 3<|Qn zf))))
def Xy:(Qk×Int×Qk×(List Qk)×Qk×fJ×fJ×Int)->Option ((fJ×fJ))|(p0,d,v2,u,p1,e,f,c)=>if c<(I p0.lo:Int)then idx p0.lo c>>=λg=>idx p0.hi c>>=λj=>(if c<d then idx v2.lo c>>=λk=>idx v2.hi c>>=λl=>O (k,l)else O (g,j))>>=λ((m,n):(Int×Int))=>(if c=d then O J else O U)>>=λ(p:Bool)=>(if p=J then idx v2.lo c>>=λq=>O q else O n)>>=λ(r:Int)=>(if c=d then O ()else O ())>>=λ(_:Unit)=>app 8 e ([m]:fJ)>>=λs=>app 8 f ([r]:fJ)>>=λt=>Xy (p0,d,v2,u,p1,s,t,(W<|c+1))else O (e,f)
 partial_fixpoint
def Qdw:∀x r,Xy x=O r->match x with|(p0,j,v2,c,p1,e,f,k)=>LQ f83 83 [1,1,1,1,1,0,1,0,0,1,0,0,1,0,0,1,0,0,1,0,1,0,0] 7 ⟨kp 111 [(2,(.ptr 0 0)),(5,(.ptr 2 0)),(7,(XG c)),(8,(Qd j)),(9,(Qd 0)),(10,(.ptr 4 0)),(11,(Qd k))],(J2 p0.lo p0.hi p1.lo p1.hi v2.lo v2.hi (I c) e f (I e)<|I f)⟩ (P1 (.exit 4) (λ(m,n) d=>⟨sl d 111 [(2,(.ptr 0 0)),(5,(.ptr 2 0)),(7,(XG c)),(8,(Qd j)),(9,(Qd 0)),(10,(.ptr 4 0))],(J2 p0.lo p0.hi p1.lo p1.hi v2.lo v2.hi (I c) m n (I m)<|I n)⟩) r):=by
 refine Xy.partial_correctness _ (λXy Qdw x r V=>?_);obtain⟨p0,j,v2,c,p1,e,f,k⟩:=x
 exact lp<|Qh<|gr 3<|QM Qg p0.lo<|re 1<|ri V (λV=>Qm<|Qh<|Ql<|Qh<|Zd<|Qe 3 (QE 1 Qg V λv V=>Qe 4 (QE 1 Qg V λw V=>re 3 ⟨kr,Qh<|ge 3 (sB V λg p q V=>Zm (λd=>⟨sl d 111 [(2,(.ptr 0 0)),(5,(.ptr 2 0)),(7,(XG c)),(8,(Qd j)),(9,(Qd 0)),(10,(.ptr 4 0)),(11,(Qd k)),(12,(Qd g)),(13,(Qd p))],(J2 p0.lo p0.hi p1.lo p1.hi v2.lo v2.hi (I c) e f (I e)<|I f)⟩) (have V:=q;ri V (λV=>Zd<|Qe 3 (QE 1 Qg V λy V=>Qe 4 (QE 1 Qg V λz V=>re 3 ⟨kr,zf⟩))) (λV=>Qm zf)) (λd=>Qh<|Qh (bi V λs q V=>Zm (λd=>⟨sl d 111 [(2,(.ptr 0 0)),(5,(.ptr 2 0)),(7,(XG c)),(8,(Qd j)),(9,(Qd 0)),(10,(.ptr 4 0)),(11,(Qd k)),(12,(Qd g)),(13,(Qd p)),(73,(Qp s))],(J2 p0.lo p0.hi p1.lo p1.hi v2.lo v2.hi (I c) e f (I e)<|I f)⟩) (have V:=q;gp (Qe 4<|Ba 70 V (λV=>re 3 zf) (λV=>re 3 zf))) (λd=>bi V λl q V=>Zm (λd=>⟨sl d 111 [(2,(.ptr 0 0)),(5,(.ptr 2 0)),(7,(XG c)),(8,(Qd j)),(9,(Qd 0)),(10,(.ptr 4 0)),(11,(Qd k)),(12,(Qd g)),(13,(Qd l))],(J2 p0.lo p0.hi p1.lo p1.hi v2.lo v2.hi (I c) e f (I e)<|I f)⟩) (have V:=q;lf V (λV=>gp<|Qe 3 (QE 1 Qg V λA V=>re 2 zf)) (λV=>Qm zf)) (λd=>Qh<|Qh (bi V λ_ q V=>Zm (λd=>⟨sl d 111 [(2,(.ptr 0 0)),(5,(.ptr 2 0)),(7,(XG c)),(8,(Qd j)),(9,(Qd 0)),(10,(.ptr 4 0)),(11,(Qd k)),(12,(Qd g)),(13,(Qd l)),(85,(Qp U))],(J2 p0.lo p0.hi p1.lo p1.hi v2.lo v2.hi (I c) e f (I e)<|I f)⟩) (have V:=q;gp (Qe 4<|Ba 82 V (λV=>re 3 zf) (λV=>re 3 zf))) (λd=>E3 kr<|Qm<|gr 4 (bi V λt B V=>YA 3 1 8 5 Qg e ([g]:fJ) t (xs:=(Naa Qg) e) (es:=(Naa Qg) ([g]:fJ)) (L:=(Naa Qg)) yC rfl rfl yC B<|re 2<|gp<|Qe 4 (bi V λu B V=>YA 3 1 8 6 Qg f ([l]:fJ) u (xs:=(Naa Qg) f) (es:=(Naa Qg) ([l]:fJ)) (L:=(Naa Qg)) yC rfl rfl yC B<|re 2<|gp<|re 3<|Qdw _ _ V _ kr)))))))))⟩))) (λV=>QD zf)
def Xz:(Qk×Int×Qk×(List Qk)×Qk×fJ×fJ×Int)->Option ((fJ×fJ))|(p0,d,v2,g,p1,e,f,c)=>if c<(I p0.lo:Int)then idx p0.lo c>>=λj=>idx p0.hi c>>=λk=>(if c<d then idx v2.lo c>>=λl=>idx v2.hi c>>=λm=>O (l,m)else O (j,k))>>=λ((n,p):(Int×Int))=>(if c=d then O ()else O ())>>=λ(_:Unit)=>(if c=d then O J else O U)>>=λ(q:Bool)=>(if q=J then idx v2.hi c>>=λr=>O r else O n)>>=λ(s:Int)=>app 8 e ([s]:fJ)>>=λt=>app 8 f ([p]:fJ)>>=λu=>Xz (p0,d,v2,g,p1,t,u,(W<|c+1))else O (e,f)
 partial_fixpoint
def Qdx:∀x r,Xz x=O r->match x with|(p0,k,v2,c,p1,e,f,g)=>LQ f83 83 [1,1,1,1,1,0,1,0,0,1,0,0,1,0,0,1,0,0,1,0,1,0,0] 7 ⟨kp 111 [(2,(.ptr 0 0)),(5,(.ptr 2 0)),(7,(XG c)),(8,(Qd k)),(9,(Qd 1)),(10,(.ptr 4 0)),(11,(Qd g))],(J2 p0.lo p0.hi p1.lo p1.hi v2.lo v2.hi (I c) e f (I e)<|I f)⟩ (P1 (.exit 4) (λ(n,p) d=>⟨sl d 111 [(2,(.ptr 0 0)),(5,(.ptr 2 0)),(7,(XG c)),(8,(Qd k)),(9,(Qd 1)),(10,(.ptr 4 0))],(J2 p0.lo p0.hi p1.lo p1.hi v2.lo v2.hi (I c) n p (I n)<|I p)⟩) r):=by
 refine Xz.partial_correctness _ (λXz Qdx x r V=>?_);obtain⟨p0,k,v2,c,p1,e,f,g⟩:=x
 exact lp<|Qh<|gr 3<|QM Qg p0.lo<|re 1<|ri V (λV=>Qm<|Qh<|Ql<|Qh<|Zd<|Qe 3 (QE 1 Qg V λv V=>Qe 4 (QE 1 Qg V λw V=>re 3 ⟨kr,Qh<|ge 3 (sB V λl j q V=>Zm (λd=>⟨sl d 111 [(2,(.ptr 0 0)),(5,(.ptr 2 0)),(7,(XG c)),(8,(Qd k)),(9,(Qd 1)),(10,(.ptr 4 0)),(11,(Qd g)),(12,(Qd l)),(13,(Qd j))],(J2 p0.lo p0.hi p1.lo p1.hi v2.lo v2.hi (I c) e f (I e)<|I f)⟩) (have V:=q;ri V (λV=>Zd<|Qe 3 (QE 1 Qg V λy V=>Qe 4 (QE 1 Qg V λz V=>re 3 ⟨kr,zf⟩))) (λV=>Qm zf)) (λd=>Qh<|Qh (bi V λ_ q V=>Zm (λd=>⟨sl d 111 [(2,(.ptr 0 0)),(5,(.ptr 2 0)),(7,(XG c)),(8,(Qd k)),(9,(Qd 1)),(10,(.ptr 4 0)),(11,(Qd g)),(12,(Qd l)),(13,(Qd j)),(73,(Qp U))],(J2 p0.lo p0.hi p1.lo p1.hi v2.lo v2.hi (I c) e f (I e)<|I f)⟩) (have V:=q;gp (Qe 4<|Ba 70 V (λV=>re 3 zf) (λV=>re 3 zf))) (λd=>E3 kr<|Qm<|Qh<|Qh (bi V λs q V=>Zm (λd=>⟨sl d 111 [(2,(.ptr 0 0)),(5,(.ptr 2 0)),(7,(XG c)),(8,(Qd k)),(9,(Qd 1)),(10,(.ptr 4 0)),(11,(Qd g)),(12,(Qd l)),(13,(Qd j)),(85,(Qp s))],(J2 p0.lo p0.hi p1.lo p1.hi v2.lo v2.hi (I c) e f (I e)<|I f)⟩) (have V:=q;gp (Qe 4<|Ba 82 V (λV=>re 3 zf) (λV=>re 3 zf))) (λd=>bi V λm q V=>Zm (λd=>⟨sl d 111 [(2,(.ptr 0 0)),(5,(.ptr 2 0)),(7,(XG c)),(8,(Qd k)),(9,(Qd 1)),(10,(.ptr 4 0)),(11,(Qd g)),(12,(Qd m)),(13,(Qd j))],(J2 p0.lo p0.hi p1.lo p1.hi v2.lo v2.hi (I c) e f (I e)<|I f)⟩) (have V:=q;lf V (λV=>gp<|Qe 3 (QE 1 Qg V λA V=>re 2 zf)) (λV=>Qm zf)) (λd=>gr 4 (bi V λt B V=>YA 3 1 8 5 Qg e ([m]:fJ) t (xs:=(Naa Qg) e) (es:=(Naa Qg) ([m]:fJ)) (L:=(Naa Qg)) yC rfl rfl yC B<|re 2<|gp<|Qe 4 (bi V λu B V=>YA 3 1 8 6 Qg f ([j]:fJ) u (xs:=(Naa Qg) f) (es:=(Naa Qg) ([j]:fJ)) (L:=(Naa Qg)) yC rfl rfl yC B<|re 2<|gp<|re 3<|Qdx _ _ V _ kr)))))))))⟩))) (λV=>QD zf)
def Xx:(Qk×Qk×Qk×(List Qk)×Int)->Option ((List Qk))|(p0,v2,p1,d,e)=>if e<(I p0.lo:Int)then Xy (p0,e,v2,d,p1,([]:fJ),([]:fJ),0)>>=λ(f,g)=>JH (⟨f,g⟩:Qk)>>=λl=>(if l=U then app 48 d ([(⟨f,g⟩:Qk)]:List Qk)>>=λm=>O m else O d)>>=λ(c:(List Qk))=>Xz (p0,e,v2,c,p1,([]:fJ),([]:fJ),0)>>=λ(j,k)=>JH (⟨j,k⟩:Qk)>>=λn=>(if n=U then app 48 c ([(⟨j,k⟩:Qk)]:List Qk)>>=λp=>O p else O c)>>=λ(q:(List Qk))=>Xx (p0,v2,p1,q,(W<|e+1))else O d
 partial_fixpoint
def WG:∀x r,Xx x=O r->match x with|(p0,v2,p1,e,f)=>LQ f83 83 [1,1,1,1,1,0,1,0,0] 4 ⟨kp 111 [(2,(.ptr 0 0)),(5,(.ptr 2 0)),(7,(XG e)),(8,(Qd f))],(Vk p0.lo p0.hi p1.lo p1.hi v2.lo v2.hi<|I e)⟩ (P1 (.exit 0) (λn d=>⟨sl d 111 [(7,(XG n))],(Vk p0.lo p0.hi p1.lo p1.hi v2.lo v2.hi<|I n)⟩) r):=by
 refine Xx.partial_correctness _ (λXx WG x r V=>?_);obtain⟨p0,v2,p1,e,f⟩:=x
 exact lp<|Qh<|gr 3<|QM Qg p0.lo<|re 1<|ri V (λV=>Qm<|Qh<|Ql<|ge 1<|Ql<|SF<|oU (st':=⟨kp 111 [(2,(.ptr 0 0)),(5,(.ptr 2 0)),(7,(XG e)),(8,(Qd f)),(9,(Qd 0))],(Vk p0.lo p0.hi p1.lo p1.hi v2.lo v2.hi<|I e)⟩) kr<|Qh<|ge 2<|L9 kr<|Qm<|Qh<|Ql<|ge 1<|Qh<|ge 1<|Ql (kY V (Qdw _) λ⟨g,j⟩ d V=>gr 1 (bi V λt p V=>cp (Wh p)<|re 1 (bi V λc u V=>Zm (λd=>⟨sl d 111 [(2,(.ptr 0 0)),(5,(.ptr 2 0)),(7,(XG c)),(8,(Qd f)),(9,(Qd 0))],(J2 p0.lo p0.hi p1.lo p1.hi v2.lo v2.hi (I c) g j (I g)<|I j)⟩) (have V:=u;zb V (λV=>gp<|Qe 3 (bi V λq p V=>YA 80 2 48 3 Qk.b8 e ([(⟨g,j⟩:Qk)]:List Qk) q (xs:=(Naa Qk.b8) e) (es:=(Naa Qk.b8) ([(⟨g,j⟩:Qk)]:List Qk)) (L:=(Naa Qk.b8)) yC rfl rfl Qk.fit p<|re 1 zf)) (λV=>Qm zf)) (λd=>gp<|re 3<|oU (st':=⟨kp 111 [(2,(.ptr 0 0)),(5,(.ptr 2 0)),(7,(XG c)),(8,(Qd f)),(9,(Qd 1))],(Vk p0.lo p0.hi p1.lo p1.hi v2.lo v2.hi<|I c)⟩) kr<|Qh<|ge 2<|L9 kr<|Qm<|Qh<|Ql<|ge 1<|Qh<|ge 1<|Ql (kY V (Qdx _) λ⟨k,l⟩ d V=>gr 1 (bi V λv p V=>cp (Wh p)<|re 1 (bi V λm u V=>Zm (λd=>⟨sl d 111 [(2,(.ptr 0 0)),(5,(.ptr 2 0)),(7,(XG m)),(8,(Qd f)),(9,(Qd 1))],(J2 p0.lo p0.hi p1.lo p1.hi v2.lo v2.hi (I m) k l (I k)<|I l)⟩) (have V:=u;zb V (λV=>gp<|Qe 3 (bi V λs p V=>YA 80 2 48 3 Qk.b8 c ([(⟨k,l⟩:Qk)]:List Qk) s (xs:=(Naa Qk.b8) c) (es:=(Naa Qk.b8) ([(⟨k,l⟩:Qk)]:List Qk)) (L:=(Naa Qk.b8)) yC rfl rfl Qk.fit p<|re 1 zf)) (λV=>Qm zf)) (λd=>gp<|re 3<|oU (st':=⟨kp 111 [(2,(.ptr 0 0)),(5,(.ptr 2 0)),(7,(XG m)),(8,(Qd f)),(9,(Qd 2))],(Vk p0.lo p0.hi p1.lo p1.hi v2.lo v2.hi<|I m)⟩) kr<|Qh<|ge 2<|E3 kr<|QD<|gp<|re 3<|WG _ _ V _ kr))))))))) (λV=>QD zf)
def Ud:(Qk×Qk)->Option (List Qk)|(p0,p1)=>JH p0>>=λd=>if d=J then O ([]:(List Qk))else J7 (p0,p1)>>=λ(v2,e)=>if e=U then O ([p0]:List Qk)else Xx (p0,v2,p1,([]:List Qk),0)>>=λc=>O c
def Qhk{p0 p1 r0}(V:Ud (p0,p1)=O r0):FQ 83 [(Qk.b8 p0),(Qk.b8 p1)] (Oc r0):=by unfold Ud at V;exact fp (fn:=f83) rfl<|ge 3<|Qh<|gr 1 (bi V λf c V=>cp (Wh c)<|Q6<|lf V (λV=>ge 1<|Qn zf) (λV=>Qm<|gr 2 (sB V λv2 g c V=>cp (Qgo c)<|re 6<|Qh<|ge 2<|zb V (λV=>ge 3<|Qn zf) (λV=>Qm<|ge 1<|Qh<|ge 1<|Ql (kY V (WG _) λe d V=>ge 2<|Qn zf)))))
def YO:(fJ×(List Qc)×Int×fJ×fJ×(List Qc)×Int×Int×Int×fJ×Int×Int×Int×fJ×fJ×Int)->Option ((Int×Int×Int×fJ×Int×Int×Int×fJ×fJ))|(E,p0,e,D,p1,C,m,n,p,q,r,s,t,u,v,d)=>if d<(I E:Int)then idx p0 e>>=λw=>idx w.box.lo d>>=λf=>idx D d>>=λg=>app 8 u ([(if(W<|f - g)<0 then 0 else(W<|f - g))]:fJ)>>=λy=>idx p0 e>>=λz=>idx z.box.hi d>>=λj=>idx D d>>=λk=>idx E d>>=λl=>app 8 v ([(if l<(W<|j - k)then l else(W<|j - k))]:fJ)>>=λA=>idx D d>>=λB=>YX ((⟨m,n,p,q,r,s,t⟩:Qt),d,B)>>=λc=>YO (E,p0,e,D,p1,C,c.bx,c.bc,c.ek,c.bm,c.ed,c.dk,c.ep,y,A,(W<|d+1))else O (m,n,p,q,r,s,t,u,v)
 partial_fixpoint
def W8:∀x r,YO x=O r->match x with|(S,p0,q,T,p1,s,v,w,y,z,A,B,C,l,p,D)=>LQ f34 34 [1,1,0,1,0,0,1,0,0,1,1,0,1,0,0] 6 ⟨kp 148 [(0,(QL p0)),(1,(La p1)),(2,(La S)),(3,(La T)),(9,(QL s)),(10,(Qd q)),(11,(.ptr 0 0)),(12,(.ptr 3 0)),(13,(Qd D))],[(QB v w y z A B C),(.tok 3<|I l),(.tok 3<|I p),(.box [(QhP l),(Oj p)]),(.tok 3<|I ([]:fJ)),(.tok 3<|I ([]:fJ))]⟩ (P1 (.exit 2) (λ(E,F,G,H,K,M,N,t,u) d=>⟨sl d 148 [(0,(QL p0)),(1,(La p1)),(2,(La S)),(3,(La T)),(9,(QL s)),(10,(Qd q)),(11,(.ptr 0 0)),(12,(.ptr 3 0))],[(QB E F G H K M N),(.tok 3<|I t),(.tok 3<|I u),(.box [(QhP t),(Oj u)]),(.tok 3<|I ([]:fJ)),(.tok 3<|I ([]:fJ))]⟩) r):=by
 refine YO.partial_correctness _ (λYO W8 x r V=>?_);obtain⟨S,p0,q,T,p1,s,v,w,y,z,A,B,C,l,p,D⟩:=x
 exact lp<|Qh<|gr 2<|QM Qg S<|re 1<|ri V (λV=>Qm<|Qh<|Ql<|Qh<|Zd<|Qe 4 (QE 9 Qc.b8 V λX V=>Qe 4 (QE 1 Qg V λc V=>Qe 3 (QE 1 Qg V λe V=>Qe 2<|QA rfl (λ_=>Ki (k:=.i64) (m:=(W<|c - e)) (n:=0) rfl kr kr)<|Qe 1 (bi V λP R V=>YA 3 1 8 1 Qg l ([(if(W<|c - e)<0 then 0 else(W<|c - e))]:fJ) P (xs:=(Naa Qg) l) (es:=(Naa Qg) ([(if(W<|c - e)<0 then 0 else(W<|c - e))]:fJ)) (L:=(Naa Qg)) yC rfl rfl yC R<|re 2 ⟨kr,Qh<|Zd<|Qe 4 (QE 9 Qc.b8 V λY V=>Qe 4 (QE 1 Qg V λf V=>Qe 3 (QE 1 Qg V λg V=>Qe 4 (QE 1 Qg V λj V=>Qe 1<|QA rfl (λ_=>Hf (k:=.i64) (m:=(W<|f - g)) (n:=j) rfl kr kr)<|Qe 1 (bi V λQ R V=>YA 3 1 8 2 Qg p ([(if j<(W<|f - g)then j else(W<|f - g))]:fJ) Q (xs:=(Naa Qg) p) (es:=(Naa Qg) ([(if j<(W<|f - g)then j else(W<|f - g))]:fJ)) (L:=(Naa Qg)) yC rfl rfl yC R<|re 2 ⟨kr,Zd<|Qe 4 (QE 1 Qg V λv1221 V=>Qe 1 (bi V λv1222 R V=>cp (Vt R)<|re 1 ⟨kr,gp<|re 3<|W8 _ _ V _ kr⟩))⟩)))))⟩))))) (λV=>QD zf)
def YN:((List Qc)×fJ×fJ×fJ×(List Qc)×Int)->Option ((List Qc))|(p0,s,t,p1,e,d)=>if d<(I p0:Int)then idx p0 d>>=λc=>YO (s,p0,d,t,p1,e,c.be.bx,c.be.bc,c.be.ek,c.be.bm,c.be.ed,c.be.dk,c.be.ep,([]:fJ),([]:fJ),0)>>=λ(f,g,j,k,l,m,n,p,q)=>Zo (e,(⟨(⟨p,q⟩:Qk),(⟨f,g,j,k,l,m,n⟩:Qt)⟩:Qc))>>=λr=>YN (p0,s,t,p1,r,(W<|d+1))else O e
 partial_fixpoint
def Qdb:∀x r,YN x=O r->match x with|(p0,g,j,p1,c,e)=>LQ f34 34 [1,1,0,1,0,0] 0 ⟨kp 148 [(0,(QL p0)),(1,(La p1)),(2,(La g)),(3,(La j)),(9,(QL c)),(10,(Qd e))],[]⟩ (P1 (.exit 0) (λf d=>⟨sl d 148 [(1,(La p1)),(2,(La g)),(3,(La j)),(9,(QL f))],[]⟩) r):=by refine YN.partial_correctness _ (λYN Qdb x r V=>?_);obtain⟨p0,g,j,p1,c,e⟩:=x;exact lp<|Qh<|gr 2<|QM Qc.b8 p0<|re 1<|ri V (λV=>Qm<|Qh<|Ql<|gr 2 (QE 9 Qc.b8 V λw V=>re 4<|ge 3<|Qh<|ge 1<|Ql (kY V (W8 _) λ⟨k,l,m,n,p,q,s,t,u⟩ d V=>gp<|Qe 4 (bi V λv y V=>cp (P0 y)<|re 1<|gp<|re 3<|Qdb _ _ V _ kr)))) (λV=>QD zf)
def Xf:(fJ×fJ×fJ×(List Qc)×fJ×fJ×Int)->Option ((fJ×fJ))|(p,q,p1,n,d,e,c)=>if c<(I p:Int)then idx q c>>=λf=>app 8 d ([(if(W<|0 - f)<0 then 0 else(W<|0 - f))]:fJ)>>=λl=>idx p1 c>>=λg=>idx q c>>=λj=>idx p c>>=λk=>app 8 e ([(if k<(W<|g - j)then k else(W<|g - j))]:fJ)>>=λm=>Xf (p,q,p1,n,l,m,(W<|c+1))else O (d,e)
 partial_fixpoint
def WY:∀x r,Xf x=O r->match x with|(w,z,p1,p,c,e,q)=>LQ f34 34 [1,1,1,1,0,1,0,0] 5 ⟨kp 148 [(1,(La p1)),(2,(La w)),(3,(La z)),(9,(QL p)),(14,(.ptr 2 0)),(15,(Qd q))],(Rx (I c) (I e) c e)⟩ (P1 (.exit 4) (λ(s,t) d=>⟨sl d 148 [(2,(La w)),(9,(QL p)),(14,(.ptr 2 0))],(Rx (I s) (I t) s t)⟩) r):=by
 refine Xf.partial_correctness _ (λXf WY x r V=>?_);obtain⟨w,z,p1,p,c,e,q⟩:=x
 exact lp<|Qh<|gr 2<|QM Qg w<|re 1<|ri V (λV=>Qm<|Qh<|Ql<|Qh<|Zd<|Qe 4 (QE 1 Qg V λf V=>Qe 2<|QA rfl (λ_=>Ki (k:=.i64) (m:=(W<|0 - f)) (n:=0) rfl kr kr)<|Qe 1 (bi V λu y V=>YA 3 1 8 0 Qg c ([(if(W<|0 - f)<0 then 0 else(W<|0 - f))]:fJ) u (xs:=(Naa Qg) c) (es:=(Naa Qg) ([(if(W<|0 - f)<0 then 0 else(W<|0 - f))]:fJ)) (L:=(Naa Qg)) yC rfl rfl yC y<|re 2 ⟨kr,Zd<|Qe 4 (QE 1 Qg V λg V=>Qe 3 (QE 1 Qg V λj V=>Qe 4 (QE 1 Qg V λl V=>Qe 1<|QA rfl (λ_=>Hf (k:=.i64) (m:=(W<|g - j)) (n:=l) rfl kr kr)<|Qe 1 (bi V λv y V=>YA 3 1 8 1 Qg e ([(if l<(W<|g - j)then l else(W<|g - j))]:fJ) v (xs:=(Naa Qg) e) (es:=(Naa Qg) ([(if l<(W<|g - j)then l else(W<|g - j))]:fJ)) (L:=(Naa Qg)) yC rfl rfl yC y<|re 2 ⟨kr,gp<|re 3<|WY _ _ V _ kr⟩))))⟩))) (λV=>QD zf)
def Xg:((List Qk)×fJ×fJ×(List Qc)×Int)->Option ((List Qc))|(c,f,g,e,d)=>if d<(I c:Int)then idx c d>>=λj=>Zo (e,(⟨j,(⟨1,0,0,([]:fJ),0,0,0⟩:Qt)⟩:Qc))>>=λk=>Xg (c,f,g,k,(W<|d+1))else O e
 partial_fixpoint
def Qde:∀x r,Xg x=O r->match x with|(f,c,e,g,j)=>LQ f34 34 [1,1,1,1,1,1,0,1,0,0] 5 ⟨kp 148 [(9,(QL g)),(16,(Oc f)),(17,(Qd j))],(Rx (I c) (I e) c e)⟩ (P1 (.exit 6) (λk d=>⟨sl d 148 [(9,(QL k))],(Rx (I c) (I e) c e)⟩) r):=by refine Xg.partial_correctness _ (λXg Qde x r V=>?_);obtain⟨f,c,e,g,j⟩:=x;exact lp<|Qh<|gr 2<|QM Qk.b8 f<|re 1<|ri V (λV=>Qm<|Qh<|Ql<|gp<|Qe 3 (QE 2 Qk.b8 V λl V=>Qe 3 (bi V λm n V=>cp (P0 n)<|re 1<|gp<|re 3<|Qde _ _ V _ kr))) (λV=>QD zf)
def Ve:((List Qc)×fJ×fJ×fJ)->Option (List Qc)|(p0,p1,k,l)=>YN (p0,k,l,p1,([]:List Qc),0)>>=λf=>Xf (k,l,p1,f,([]:fJ),([]:fJ),0)>>=λ(c,d)=>JJ k>>=λe=>Ud ((⟨e.lo,e.hi⟩:Qk),(⟨c,d⟩:Qk))>>=λg=>Xg (g,c,d,f,0)>>=λj=>O j
def Qg8{p0 p1 p2 p3 r0}(V:Ve (p0,p1,p2,p3)=O r0):FQ 34 [(.ew<|(Naa Qc.b8) p0),(Lb p1),(Lb p2),(Lb p3)] (QL r0):=by unfold Ve at V;exact fp (fn:=f34) rfl<|ge 1<|ge 1<|Qh<|ge 1<|Ql (kY V (Qdb _) λl d V=>ge 3<|Qh<|ge 1<|Ql (kY V (WY _) λ⟨c,e⟩ d V=>Qh<|Zd<|Qe 1 (bi V λf g V=>cp (QfV g)<|Qe 1 (bi V λj g V=>cp (Qhk g)<|re 1 ⟨kr,Qh<|ge 1<|Ql (kY V (Qde _) λk d V=>ge 2<|Qn zf)⟩))))
def Yj:(Qk×Int×Int×Int)->Option Qk|(p0,p1,f,g)=>app 8 ([]:fJ) p0.lo>>=λc=>app 8 ([]:fJ) p0.hi>>=λv2=>idx c p1>>=λj=>iM c p1 f>>=λd=>idx v2 p1>>=λk=>iM v2 p1 g>>=λe=>QN (I d=I c)>>=λ_=>QN (I e=I v2)>>=λ_=>O (⟨d,e⟩:Qk)
def V6{p0 p1 p2 p3 r0}(V:Yj (p0,p1,p2,p3)=O r0):FQ 84 [(Qk.b8 p0),(Qg p1),(Qg p2),(Qg p3)] (.b7<|Qk.b8 r0):=by
 unfold Yj at V
 exact fp (fn:=f84) rfl<|ge 2<|Qh<|Zd<|Qe 3 (bi V λc d V=>Zb (v:=.ms 2 (mg c) 0 (I c) (I c)) (λH=>H++[.mt 3 (mg c) (cellsOf Qg c)]) rfl kr (by intro K f;exact Qh6 2 Qg (es:=p0.lo) (bytes:=8) (e:=3) (i:=1) (off:=0) d yC kr kr kr kr kr rfl kr kr f)<|Qe 3 (bi V λv2 d V=>Zb (v:=.ms 4 (mg v2) 0 (I v2) (I v2)) (λH=>H++[.mt 3 (mg v2) (cellsOf Qg v2)]) rfl kr (by intro K f;exact Qh6 4 Qg (es:=p0.hi) (bytes:=8) (e:=3) (i:=3) (off:=0) d yC kr kr kr kr kr rfl kr kr f)<|re 3 ⟨kr,gr 4 (bi V λs d V=>QA rfl (λ_=>QR (e:=3) (n:=p1) (j:=(p1).toNat) (tt:=2) (g:=(mg c)) (lo:=0) (len:=I c) (cap:=I c) (k:=.i64) kr kr rfl kr kr (gw d)<|zB (gJ d) rfl) (bi V λq d V=>Zb (λH=>H.set 2<|.mt 3 (mg c)<|cellsOf Qg q) rfl kr (λ_=>Js Qg (l:=c) (n:=p1) (y:=p2) d yC kr rfl kr kr kr kr)<|Q6<|gr 4 (bi V λt d V=>QA rfl (λ_=>QR (e:=3) (n:=p1) (j:=(p1).toNat) (tt:=4) (g:=(mg v2)) (lo:=0) (len:=I v2) (cap:=I v2) (k:=.i64) kr kr rfl kr kr (gw d)<|zB (gJ d) rfl) (bi V λr d V=>Zb (λH=>H.set 4<|.mt 3 (mg v2)<|cellsOf Qg r) rfl kr (λ_=>Js Qg (l:=v2) (n:=p1) (y:=p3) d yC kr rfl kr kr kr kr)<|Q6<|ge 2<|Qn (gi V λm V=>gi V λp V=>(by obtain rfl:=vz V;exact⟨trivial,Ym [(.agg [(.ms 2 (mg c) 0 (I c)<|I c),(.ms 4 (mg v2) 0 (I v2)<|I v2)])] kr<|qM<|gk (jx (e:=3) Qg q m yC kr)<|gk (jx (e:=3) Qg r p yC kr) mu⟩))))))⟩))
end Go.Proofs.Tryz
