/-
 Models of functions, their walks, and plain laws.
-/
import Derived.Test.YtjcfpjpdopfefaaGreatPmSx
import Derived.Test.YtjcfpjpdopfefaaGreatLay0
import Derived.Test.YtjcfpjpdopfefaaGreatRows
import Derived.WalkKit
import Derived.WalkSpells
import Derived.Test.YtjcfpjpdopfefaaGreatPmFx
import Derived.Test.YtjcfpjpdopfefaaGreatLay1
import Derived.Test.YtjcfpjpdopfefaaGreatProg
import Derived.Test.YtjcfpjpdopfefaaGreatPmMap
import Derived.Test.YtjcfpjpdopfefaaGreatPmPk
namespace Go.Proofs.Tryz
open Go Go.Pm
set_option linter.all false
set_option maxRecDepth 2000
def Sm(n:Nat):Prop:=n<=9223372036854775807
theorem jf{n m:Nat}(h:n<=m)(hm:m<=9223372036854775807:=by decide):Sm n:=jW h hm
theorem oP{α:Type}{l:List α}{j:Nat}(h:j<l.length):idx l (j:Int)=some l[j]:=by simp[idx,h]
theorem Ic{α:Type}{b:Nat}{l es:List α}(h:(l.length+es.length)*b<=gO):app b l es=some (l++es):=ai h
theorem lg{n:Int}(c:-9223372036854775808<=n)(d:n<9223372036854775808):W n=n:=by
 simp only[W,IntKind.wrap,IntKind.bits,IntKind.signed];simp;split <;>omega
theorem NR{j:Nat}(h:j<9223372036854775807):W ((j:Int)+1)=((j+1:Nat):Int):=by rw[lg y8 y8];omega
section
variable{α:Type}{p s:List α}{x:α}
theorem Q4:((p.length:Int)<((p++x::s).length:Int)):=by simp;omega
theorem Za:¬((p.length:Int)<((p++([]:List α)).length:Int)):=by simp
theorem Qy:idx (p++x::s) (p.length:Int)=some x:=by simp[idx]
theorem Qv:p++x::s=(p++[x])++s:=by simp
theorem lk(c:Sm (p++x::s).length):W ((p.length:Int)+1)=((p++[x]).length:Int):=by
 unfold Sm at c;rw[lg y8 (by simp at c;omega)];simp
end
theorem Qc{α c:Type}(a:α)(f:α->Option c):(some a>>=f)=f a:=rfl
open Go Go.RowKit Go.Sort
def iG:fj->fj->Int
 |[],[]=>0
 |[],_::_=>-1
 |_::_,[]=>1
 |x::a,y::b=>if x<y then -1 else if y<x then 1 else iG a b
theorem HO{j n:Nat}(h:j<n)(hn:n<=1000000):wrap64 ((j:Int)+1)=((j+1:Nat):Int):=by
 unfold wrap64;omega
def KC(x y:Int):Int:=if x<y then -1 else if y<x then 1 else 0
set_option maxHeartbeats 1600000 in
set_option maxRecDepth 1000000 in
theorem MP(x y:Int)(w:fk):Calls prog 133 #[.int .i64 x,.int .i64 y] w λe w'=>e=.returned (.int .i64 (KC x y))/\w'=w:=by
 go_enter func133,ntmps133
 go_wp2
 all_goals (go_ret;exact⟨by rw[KC];first|rw[ai y8];rfl|rw[af y8,ai y8];rfl|rw[af y8,af y8];rfl,rfl⟩)
theorem LY(a b:fj):∀i (d:i<a.length) (e:i<b.length),iG (a.drop i) (b.drop i)=if KC a[i] b[i]=0 then iG (a.drop (i+1)) (b.drop (i+1))else KC a[i] b[i]:=λi d e=>by
 rw[aU d,aU e,iG];unfold KC;by_cases c:a[i]<b[i]
 .simp[c]
 .by_cases f:b[i]<a[i]
  .simp[c,f]
  .simp[c,f]
def my(w:fk)(v:fu)(a:fj):Prop:=(a=[]/\∃ad c,v=.slice ad 0 c)\/∃b off c,v=.slice (some ⟨b,off,none⟩) a.length c/\∀j (h:j<a.length),w.cell? ⟨b,off+j,none⟩=some (.int .i64 a[j])
theorem my.sl{w:fk}{v:fu}{a:fj}(h:my w v a):∃ad c,v=.slice ad a.length c/\∀j (h:j<a.length),∃b off,ad=some ⟨b,off,none⟩/\w.cell? ⟨b,off+j,none⟩=some (.int .i64 a[j]):=by
 rcases h with⟨rfl,ad,c,rfl⟩|⟨b,off,c,rfl,h⟩
 .exact⟨ad,c,rfl,λj h=>absurd h (bL _)⟩
 .exact⟨_,c,rfl,λj d=>⟨b,off,rfl,h j d⟩⟩
set_option maxHeartbeats 1600000 in
set_option maxRecDepth 1000000 in
theorem Hv(a b:fj)(u v:fu)(w:fk)(r:my w u a)(s:my w v b)(hl:a.length<=1000000):Calls prog 98 #[u,v] w λe w'=>e=.returned (.int .i64 (iG a b))/\w'=w:=by
 obtain⟨B,I,rfl,t⟩:=r.sl;obtain⟨C,J,rfl,z⟩:=s.sl;have k:=λx y=>MP x y w
 have D:Hid (∀j (h:j<a.length),∃b off,B=some ⟨b,off,none⟩/\w.cell? ⟨b,off+j,none⟩=some (.int .i64 a[j])):=t;have E:Hid (∀j (h:j<b.length),∃A off,C=some ⟨A,off,none⟩/\w.cell? ⟨A,off+j,none⟩=some (.int .i64 b[j])):=z;have F:Hid (a.length<=1000000):=hl;clear t z r s hl
 go_enter func98,ntmps98
 go_wp2_with fail
 go_loopw [11] (λi G=>∃j:Nat,j<=a.length/\j<=b.length/\i=.int .i64 j/\G=w/\iG (a.drop j) (b.drop j)=iG a b) (λi _=>a.length - (Lib.intOf i).toNat)
 case atStart=>exact⟨0,zP _,zP _,rfl,rfl,rfl⟩
 case round=>
  obtain⟨j,K,H,rfl,rfl,l⟩:=hrel;have g:Hid (iG (a.drop j) (b.drop j)=iG a b):=l;clear l;by_cases d:j<a.length
  .obtain⟨L,M,rfl,N⟩:=D.out j d;by_cases c:j<b.length
   .obtain⟨O,P,rfl,Q⟩:=E.out j c;have m:¬b.length<=j:=by omega
    have f:=LY a b j d c;rw[g.out]at f;have f:=@id (Hid _) f;generalize a[j]=x at *;generalize b[j]=y at *
    go_wp2_with (go_at_call 133;refine(k _ _).mono ?_;rintro e w' ⟨rfl,rfl⟩)
    .rename_i n
     go_ret
     exact⟨by rw[f.out,af (by simpa using n)];rfl,rfl⟩
    .rename_i p;have hw:=HO d F.out;have hm:a.length - (j+1)<a.length - j:=Nat.sub_lt_sub_left d (cZ j);refine⟨⟨j+1,d,c,by rw[hw],trivial,?_⟩,by rw[hw];exact hm⟩;rw[f.out,ai (by simpa using p)]
   .have m:b.length<=j:=by omega
    go_wp2_with fail
    go_ret
    refine⟨?_,rfl⟩;rw[<-g.out,aU d,cF m];rfl
  .have q:j=a.length:=by omega
   subst q;by_cases c:a.length<b.length
   .go_wp2_with fail
    go_ret
    refine⟨?_,rfl⟩;rw[<-g.out,cF (j7 _),aU c];rfl
   .go_wp2_with fail
    go_ret
    refine⟨?_,rfl⟩;rw[<-g.out,cF (j7 _),cF y8];rfl
open Go Go.RowKit Go.Sort Go.Proofs
theorem my.alloc{w:fk}{v:fu}{a:fj}(h:my w v a)(o:Obj):my (w.alloc o) v a:=by
 rcases h with⟨rfl,ad,c,rfl⟩|⟨b,off,c,rfl,h⟩
 .exact .inl ⟨rfl,ad,c,rfl⟩
 .exact .inr ⟨b,off,c,rfl,λj d=>Lib.cell?_alloc_some _ (h j d)⟩
set_option maxHeartbeats 1600000 in
set_option maxRecDepth 1000000 in
theorem GV(A B:fj)(d k l m n p s t u f b1 b2 v x y z C D:fu)(w:fk)(g:my w d A)(hB:my w f B)(hl:A.length<=1000000):
  Calls prog 51 #[.agg #[d,k,l,m,n,p,s,t,u],.agg #[f,b1,b2,v,x,y,z,C,D]] w λe w'=>e=.returned (.int .i64 (iG A B))/\∃q j,w'=grow (w.drewN q) j:=by
 have c:=λo o'=>Hv A B d f ((w.alloc o).alloc o') ((g.alloc _).alloc _) ((hB.alloc _).alloc _) hl
 obtain⟨E,F,rfl,_⟩:=g.sl;obtain⟨ba,G,rfl,_⟩:=hB.sl;clear g hB hl;generalize iG A B=r at c |-
 go_enter func51,ntmps51
 go_wp2_with (go_at_call 98;refine(c _ _).mono ?_;rintro e w' ⟨rfl,rfl⟩)
 go_ret
 exact⟨rfl,0,_,by rw[alloc_eq_grow,alloc_eq_grow,grow_grow];rfl⟩
open Go Go.RowKit Go.Sort Go.Proofs Go.Pm
theorem qF:∀a:fj,iG a a=0
 |[]=>rfl
 |x::a=>by rw[iG,af y8,af y8,qF a]
theorem oU:∀{a b c:fj},iG a b<0->iG b c<0->iG a c<0
 |a,b,[],e,d=>by cases b<;>simp[iG]at d
 |[],b,z::c,e,d=>by simp[iG]
 |x::a,[],z::c,e,d=>by simp[iG]at e
 |x::a,y::b,z::c,e,d=>by
  simp only[iG]at e d |-;split at e
  .split at d
   .rw[ai y8];decide
   .split at d
    .omega
    .rw[ai y8];decide
  .split at e
   .omega
   .split at d
    .rw[ai y8];decide
    .split at d
     .omega
     .rw[af y8,af y8];exact oU e d
theorem tR:∀{a b c:fj},¬iG a b<0->¬iG b c<0->¬iG a c<0
 |[],b,[],e,d=>by simp[iG]
 |x::a,b,[],e,d=>by simp[iG]
 |[],[],z::c,e,d=>by simp[iG]at d
 |[],y::b,z::c,e,d=>by simp[iG]at e
 |x::a,[],z::c,e,d=>by simp[iG]at d
 |x::a,y::b,z::c,e,d=>by
  simp only[iG]at e d |-;split at e
  .exact absurd (show(-1:Int)<0 by decide) e
  .split at d
   .exact absurd (show(-1:Int)<0 by decide) d
   .rw[af y8];split at e
    .rw[ai y8];decide
    .split at d
     .rw[ai y8];decide
     .rw[af y8];exact tR e d
def tx:fy->Int
 | .raw (.int .i64 n)=>n
 |_=>0
def OM:fy->Bool
 | .raw (.int .i64 _)=>true
 |_=>false
def qe:fy->fj
 | .agg (.lst es::_)=>es.map tx
 |_=>[]
def Ov:fy->Bool
 | .agg (.lst es::r)=>decide (es.length<=1000000) &&es.all OM &&fy.fits 9 (.agg (.lst es::r))
 |_=>false
def Ez(x:fy):List fy->List fy
 |[]=>[x]
 |y::l=>if iG (qe y) (qe x)<0 then y::Ez x l else x::y::l
def pw(l:List fy):List fy:=l.foldr Ez []
def nk:List fy->Bool
 |a::b::l=>decide (iG (qe a) (qe b)<0) &&nk (b::l)
 |_=>true
theorem yi(x:fy):∀l,(Ez x l).Perm (x::l)
 |[]=>.refl _
 |y::l=>by
  rw[Ez];split
  .exact((yi x l).cons y).trans (.swap x y l)
  .exact .refl _
theorem oS:∀l,(pw l).Perm l
 |[]=>.refl _
 |x::l=>(yi x (pw l)).trans ((oS l).cons x)
theorem tM:∀{l:List fy},nk l=true->l.Pairwise λa b=>iG (qe a) (qe b)<0
 |[],_=>.nil
 |[a],_=>by simp
 |a::b::l,h=>by
  simp only[nk,jE,zD]at h;have d:=tM h.2;refine aT.2 ⟨λc hc=>?_,d⟩;rcases aq.1 hc with rfl|hc
  .exact h.1
  .exact oU h.1 ((aT.1 d).1 c hc)
theorem tH{α:Type}(lt:α->α->Prop)(g:∀a,¬lt a a):∀{l m:List α},l.Perm m->l.Pairwise lt->m.Pairwise (λa b=>¬lt b a)->l=m
 |[],m,c,_,_=>c.nil_eq
 |a::l,[],c,_,_=>(List.cons_ne_nil _ _ (List.perm_nil.1 c)).elim
 |a::l,b::m,c,hl,hm=>by
  have d:=aT.1 hl;have f:=aT.1 hm
  have e:a=b:=by
   rcases aq.1 (c.mem_iff.1 (jM ..))with e|j
   .exact e
   .rcases aq.1 (c.mem_iff.2 (jM ..))with e|k
    .exact e.symm
    .exact absurd (d.1 b k) (f.1 a j)
  subst e;rw[tH lt g c.cons_inv d.2 f.2]
open Go Go.RowKit Go.Sort Go.Proofs Go.Pm Go.Shelf
set_option maxHeartbeats 1600000 in
set_option maxRecDepth 1000000 in
theorem GJ(ad:Option Addr)(c:Nat)(f:fu)(w:fk):Calls prog 213 #[.slice ad 0 c,.int .i64 0,.int .i64 0,f] w λe w'=>e=.returned (.tuple #[])/\w'=w:=by
 go_enter func213,ntmps213
 go_wp2_with fail
 go_loopw [8] (λi d=>i=.int .i64 1/\d=w) (λ_ _=>0)
 case atStart=>exact⟨rfl,rfl⟩
 case round=>
  obtain⟨rfl,rfl⟩:=hrel
  go_wp2_with fail
  go_end0
  exact⟨rfl,rfl⟩
set_option maxHeartbeats 1600000 in
set_option maxRecDepth 1000000 in
theorem DN(ad:Option Addr)(c:Nat)(w:fk):Calls prog 153 #[.slice ad 0 c,.func (.func 51) #[] #[]] w λe w'=>e=.returned (.tuple #[])/\w'=w:=by
 have hl:Calls prog 147 #[.int .u64 0] w λe w'=>e=.returned (.int .i64 0)/\w'=w:=
  Any.bits_Len (SlLaysF0.n15.bits (P:=prog) (ρ:=sortP_ren) {Tryz.sortP with}) 0 w y8 y8
 have hi:=λf=>GJ ad c f w
 have d:∀f,Calls prog 191 #[.slice ad 0 c,.int .i64 0,.int .i64 0,.int .i64 0,f] w λe w'=>e=.returned (.tuple #[])/\w'=w:=λf=>by
  clear hl
  go_enter func191,ntmps191
  go_wp2_with fail
  go_loopw [1,2,3] (λa b l g=>a=.int .i64 0/\b=.int .i64 0/\g=w) (λ_ _ _ _=>0)
  case atStart=>exact⟨rfl,rfl,rfl⟩
  case round=>
   obtain⟨rfl,rfl,rfl⟩:=hrel
   go_wp2_with (go_at_call 213;refine(hi _).mono ?_;rintro e w' ⟨rfl,rfl⟩)
   refine bodyPost_ret (results_none rfl _ _ _) rfl ?_;exact⟨rfl,rfl⟩
 clear hi
 go_enter func153,ntmps153
 go_wp2_with (first|(go_at_call 147;refine hl.mono ?_;rintro e w' ⟨rfl,rfl⟩)|(go_at_call 191;refine(d _).mono ?_;rintro e w' ⟨rfl,rfl⟩))
 go_end0
 exact⟨rfl,rfl⟩
theorem Hg{P:fm}{B0:Nat}{w0:fk}{S0:Nat->Nat->Prop}{H H':List fB}{g g':Gh}{w c d:fk}{p:PV}{v:fu}(h:Pm.Good P B0 w0 S0 H g w p H' v g' c)(q:d.os=c.os)(r:d.tape=c.tape)(s:d.output=c.output)(e:c.heap.size<=d.heap.size)(f:∀b,b<c.heap.size->d.heap[b]?=c.heap[b]?):Pm.Good P B0 w0 S0 H g w p H' v g' d:=by
 have j:∀N,Ext N g' c g' d:=λN=>⟨λ_ _ h=>h,λb o e=>World.cell?_of_block (w:=c) (f b (h.inv.lt b o e)),λ_ _ h=>⟨rfl,h⟩,λ_ _ v n h=>⟨v,n,h,j7 _,λ_=>rfl⟩⟩
 exact⟨h.ext.trans (j H.length) (j7 _),h.len,h.rep.ext (j _) (j7 _),h.heap.keep (j _) (j7 _) (j7 _) (λi b hi=>f b (h.heap.occ_lt hi).2.1) (λ_ _ _ _ h=>h) (λ_ _=>rfl),
  ⟨h.inv.below.trans ⟨q,r,s,e,λk t=>f k (jP t h.inv.size)⟩,jW h.inv.size e,h.inv.old,λb o l=>jP (h.inv.lt b o l) e⟩,
  h.fr.trans ⟨e,λb m _=>f b m,λi b hi _=>⟨i,hi⟩,λ_ _ h=>.inl h⟩⟩
theorem EY{w:fk}{g:Nat}{cur:Array Value}{e:fq}(h:w.heap[g]?=some (.cells cur e (0,0)))(j:Nat):w.cell? ⟨g,j,none⟩=cur[j]?/\w.frozen? ⟨g,j,none⟩=false:=by
 constructor
 .simp[World.cell?,h]
 .simp[World.frozen?,h]
def kg(cur:Array Value)(n i j:Nat):Value:=cur[(if i<n then i else 0)*9+j]!
def tF(cur:Array Value)(n i:Nat):List Value:=[kg cur n i 0,kg cur n i 1,kg cur n i 2,kg cur n i 3,kg cur n i 4,kg cur n i 5,kg cur n i 6,kg cur n i 7,kg cur n i 8]
theorem Db(cur:Array Value)(n i:Nat):∀j,j<9->(tF cur n i)[j]! =kg cur n i j
 |0,_=>rfl|1,_=>rfl|2,_=>rfl|3,_=>rfl|4,_=>rfl|5,_=>rfl|6,_=>rfl|7,_=>rfl|8,_=>rfl
 |j+9,h=>by omega
theorem Lt{cur:Array Value}{n i:Nat}{v:fu}(h:v∈tF cur n i):∃j,j<9/\v=kg cur n i j:=by
 simp only[tF,aq,bV,or_false]at h;rcases h with h|h|h|h|h|h|h|h|h
 .exact⟨0,by decide,h⟩
 .exact⟨1,by decide,h⟩
 .exact⟨2,by decide,h⟩
 .exact⟨3,by decide,h⟩
 .exact⟨4,by decide,h⟩
 .exact⟨5,by decide,h⟩
 .exact⟨6,by decide,h⟩
 .exact⟨7,by decide,h⟩
 .exact⟨8,by decide,h⟩
theorem D9{cur:Array Value}{n i j:Nat}(hi:i<n)(c:j<9)(hn:n*9<=cur.size):cur[i*9+j]?=some (kg cur n i j):=by
 have:i*9+j<cur.size:=by omega
 rw[kg,ai hi,getElem!_pos cur _ this,jA this]
theorem Hy{n i:Nat}(h:i<n):(Array.range n)[i]! =i:=by
 rw[getElem!_pos _ _ (by simpa using h)];simp
theorem OT{w:fk}{b n:Nat}{cur:Array Value}(c:w.heap[b]?=some (.cells cur 62 (0,0)))(hn:n*9<=cur.size):HoldsK (tF cur n) 9 w b 0 (Array.range n):=by
 intro t d;simp only[size_flatK,cN]at d;have e:t/9<n:=by omega
 have f:t%9<9:=bd _ yC;have g:=get_flatK (tF cur n) 9 (Array.range n) t (by simpa using d);rw[Hy e,Db cur n _ _ f]at g;rw[zY,g];refine⟨?_,(EY c t).2⟩;rw[(EY c t).1,show t=t/9*9+t%9 by omega,D9 e f hn];congr 2<;>omega
theorem Tx(K:Nat->fj):SWO (ltOf λx y=>iG (K x) (K y)):=by
 refine⟨λx=>by simp[ltOf,qF],λx y z c d=>?_,λx y z c d=>?_⟩
 .simp only[ltOf,zD]at *;exact oU c d
 .simp only[ltOf,decide_eq_false_iff_not]at *;exact tR c d
theorem FO{w:fk}{S:Nat->Nat->Prop}{v x:fu}(h:fY w S v (.raw x)):v=x:=by cases h;rfl
theorem OE{d:fy}(h:OM d=true):d=.raw (.int .i64 (tx d)):=by
 unfold OM at h;split at h
 .rfl
 .cases h
theorem Kg{w:fk}{S:Nat->Nat->Prop}{v:fu}{es:List fy}(h:fY w S v (.lst es))(f:es.all OM=true):my w v (es.map tx):=by
 cases h with
 |nil=>exact .inl ⟨rfl,_,_,rfl⟩
 |empty a cap=>exact .inl ⟨rfl,_,_,rfl⟩
 |lst b off len cap k es c g l m n p=>
  refine .inr ⟨b,off,cap,by rw[g,jY],λj d=>?_⟩;simp only[jY]at d;have e:=OE (an.1 f es[j] (zC d));have q:k=1:=by rw[<-m es[j] (zC d),e];rfl
  subst q;rw[(n j y8).1];have:=p j 0 es[j] (.raw (.int .i64 (tx es[j]))) (jC d) (by rw[e];rfl);rw[aK,zX]at this;rw[FO this];simp
theorem map_set{w:fk}{b:Nat}{cur:Array Value}{c:fq}{d:Nat×Nat}(e:w.heap[b]?=some (.cells cur c d))(f:Array Value->Array Value):mapBlock w b f=w.setRow b (f cur):=by
 unfold mapBlock World.setRow;congr 1;apply Array.ext_getElem?;intro i;simp only[eK];by_cases h:b=i
 .subst h;rw[ai rfl,ai rfl,e];rfl
 .rw[af h,af h]
def dO:fy:=.raw undef
theorem pH{d:fy}(h:Ov d=true):∃es r,d=.agg (.lst es::r)/\es.length<=1000000/\es.all OM=true/\fy.fits 9 d=true:=by
 unfold Ov at h;split at h
 .simp only[jE,zD]at h;exact⟨_,_,rfl,h.1.1,h.1.2,h.2⟩
 .cases h
theorem yb{n:Nat}{c:Array Nat}(h:PermIn 0 n (Array.range n) c):c.toList.Perm (List.range n):=by
 obtain⟨d,_,e⟩:=h;simp only[cN]at d;have f:c.extract 0 n=c:=by rw[<-d];simp
 have g:(Array.range n).extract 0 n=Array.range n:=by
  simp
 rw[f,g,Array.toList_range]at e;exact e
theorem B4{n:Nat}{d:Array Nat}{ds:List fy}(hn:n=ds.length)(k:PermIn 0 n (Array.range n) d)(l:SortedIn (ltOf λx y=>iG (qe (ds.getD (if x<n then x else 0) dO)) (qe (ds.getD (if y<n then y else 0) dO))) 0 n d)(hst:nk (pw ds)=true):
  d.toList.map (λx=>ds.getD x dO)=pw ds:=by
 have hl:=yb k
 have e:(List.range n).map (λx=>ds.getD x dO)=ds:=by
  subst hn;apply bW
  .simp
  .intro i r m;simp[jB,m]
 have p:d.size=n:=by have:=k.1;simpa using this
 have c:∀x∈d.toList,x<n:=λx q=>by simpa using hl.mem_iff.1 q
 refine(tH (λa b=>iG (qe a) (qe b)<0) (λa=>by simp[qF]) ((oS ds).trans ?_) (tM hst) ?_).symm
 .have:=(hl.map λx=>ds.getD x dO).symm
  rwa [e]at this
 .rw[dN,cV];intro i j hi f g;simp only[aP]at hi f;have:=l i j (zP _) g y8;rw[getElem!_pos d j f,getElem!_pos d i hi]at this;simp only[ltOf,decide_eq_false_iff_not]at this;rw[ai (c _ (cX f)),ai (c _ (cX hi))]at this
  simpa using this
theorem HY{w:fk}{S:Nat->Nat->Prop}{b n cap:Nat}{cur:Array Value}{ds:List fy}(G:w.heap[b]?=some (.cells cur 62 (0,0)))(hn:n=ds.length)(z:n*9<=cur.size)(h0:0<n)(hm:n<=1000000)(H:ds.all Ov=true)(W:∀q o,S q o->q≠b/\q<w.heap.size)(X:Mq w S 9 ds cur)(hst:nk (pw ds)=true):
  Calls prog 153 #[.slice (some ⟨b,0,none⟩) n cap,.func (.func 51) #[] #[]] w λe w'=>e=.returned (.tuple #[])/\∃new m os,new.size=cur.size/\w'=grow (Sort.ahead (w.setRow b new) m) os/\Mq w S 9 (pw ds) new:=by
 have Y:∀args w,(callFunc 51 args).run prog w=.ok (.enter 51 args) w:=enters_of func51 (by kernel_rfl) rfl;have A:b<w.heap.size:=(ay.1 G).1;have R:∀x,(if x<n then x else 0)<ds.length:=λx=>by split <;>omega
 have B:∀x,ds[if x<n then x else 0]?=some (ds.getD (if x<n then x else 0) dO):=λx=>by
  rw[jB,jC (R x)];rfl
 have f:∀x,Ov (ds.getD (if x<n then x else 0) dO)=true:=λx=>an.1 H _ (jF (B x))
 have c:∀x j u,(ds.getD (if x<n then x else 0) dO).cells[j]?=some u->j<9->fY w S (kg cur n x j) u:=λx j u I s=>by
  have l:(if x<n then x else 0)*9+j<cur.size:=by have:=R x;omega
  refine X _ j _ u _ (B x) I ?_;rw[kg,getElem!_pos cur _ l,jA l]
 have Z:∀x,∀v∈tF cur n x,v.oneCell'=true:=λx v J=>by
  obtain⟨j,s,rfl⟩:=Lt J;obtain⟨es,r,F,_,_,t⟩:=pH (f x);simp only[fy.fits,jE,bo]at t;have p:j<(ds.getD (if x<n then x else 0) dO).cells.length:=by rw[<-fy.num_eq,t.1];exact s
  have I:=jC p;have hc:=an.1 t.2 _ (zC p);have K:=c x j _ I s
  exact kA (g:=⟨λ_=>0,λ_=>False,λ_=>none,S⟩) (N:=0) (.dat _ _ K) (by
   generalize (ds.getD (if x<n then x else 0) dO).cells[j]=u at hc;cases u<;>first|rfl|(simp[fy.isCell]at hc))
 have C:CmpLays prog 51 #[] (tF cur n) 9 (λx y=>iG (qe (ds.getD (if x<n then x else 0) dO)) (qe (ds.getD (if y<n then y else 0) dO))) b 0 n w:=λm os T hdk x y=>by
  have key:∀x,my (sortWorldK (tF cur n) 9 w b 0 m T os) (kg cur n x 0) (qe (ds.getD (if x<n then x else 0) dO))/\(qe (ds.getD (if x<n then x else 0) dO)).length<=1000000:=λx=>by
   obtain⟨es,r,F,hl,hi,_⟩:=pH (f x);have K:=c x 0 (.lst es) (by rw[F];rfl) yC
   have L:fY (sortWorldK (tF cur n) 9 w b 0 m T os) S (kg cur n x 0) (.lst es):=K.mono (λ_ _ h=>h) λq o M=>by
    obtain⟨s1,s2⟩:=W q o M;unfold sortWorldK;rw[cell?_grow _ _ _ (by show q<(putRow _ _ _ _ _).heap.size;rw[size_putRow];exact s2),cell?_putRowK_other _ _ _ _ _ _ _ s1];rfl
   have:=Kg L hi;have hk:qe (ds.getD (if x<n then x else 0) dO)=es.map tx:=by rw[F];rfl
   rw[hk];exact⟨this,by simpa using hl⟩
  exact GV _ _ _ _ _ _ _ _ _ _ _ _ _ _ _ _ _ _ _ _ _ (key x).1 (key y).1 (key x).2
 have k:=AnyQ.slices_SortFunc Tryz.sortP 9 isAgg62 sizeOf62 (tF cur n) yB Z _ (Tx λx=>qe (ds.getD (if x<n then x else 0) dO)) 51 #[] b 0 cap (Array.range n) w Y (by rw[cN];exact C) (OT G z) A (by rw[cN];omega);rw[cN]at k
 change Calls prog 153 _ _ _ at k
 refine k.mono ?_
 rintro e w' ⟨rfl,d',m,os,hp,M,rfl⟩
 have hL:=B4 hn hp M hst;have hsz:d'.size=n:=by have:=hp.1;simpa using this
 refine⟨rfl,putCells id 0 (flatK (tF cur n) 9 d') cur,m,os,by simp[putCells],?_,?_⟩
 .unfold sortWorldK putRowK;rw[putRow_ahead,putRow,map_set G]
 .intro i j d u v U V O;rw[<-hL,jD,j5]at U;obtain⟨x,P,rfl⟩:=U;have D:x<n:=by simpa using(yb hp).mem_iff.1 (jF P)
  have hi:i<n:=by have:=(ae.1 P).1;simp at this;omega
  have Q:d'[i]! =x:=by
   have:=(ae.1 P).2;rw[getElem!_pos d' i y8];simpa using this
  have E:=f x;rw[ai D]at E;obtain⟨es,r,F,_,_,t⟩:=pH E;simp only[fy.fits,jE,bo]at t;have s:j<9:=by rw[<-t.1,fy.num_eq];exact(ae.1 V).1
  have ht:i*9+j<(flatK (tF cur n) 9 d').size:=by rw[size_flatK];omega
  have l:i*9+j<cur.size:=by omega
  have J:v=kg cur n x j:=by
   simp only[putCells,Array.getElem?_mapIdx,jA l,jN,j9]at O;rw[ai ⟨zP _,by omega⟩,Nat.sub_zero,get_flatK _ _ _ _ (by rw[<-size_flatK (tF cur n) 9 d'];exact ht),show(i*9+j)/9=i by omega,show(i*9+j)%9=j by omega,Q,Db _ _ _ _ s]at O;exact O.symm
  rw[J];have:=c x j u;rw[ai D]at this;exact this V s
def Ft(args:List PV)(H:List fB):Option (PV×List fB):=
 match args,H with
 |[.ms 0 gg 0 len _,.dat (.raw (.func (.func 51) c d))],[.mt e g' cs]=>match gQ cs with
  |some ds=>if(c.size=0/\d.size=0/\g'=gg/\e=62)/\len=ds.length/\len<=1000000/\ds.all Ov=true/\nk (pw ds)=true then some (.tup [],[.mt e gg ((pw ds).map .dat)])else none
  |none=>none
 |_,_=>none
theorem Il:fJ prog 62=some 9:=by kernel_rfl
theorem E1:∀{a b:List fy},a.map PV.dat=b.map PV.dat->a=b
 |[],[],_=>rfl
 |[],_::_,h=>by simp at h
 |_::_,[],h=>by simp at h
 |x::a,y::b,h=>by
  simp only[zU,List.cons.injEq,PV.dat.injEq]at h;rw[h.1,E1 h.2]
theorem Ig{w:fk}{os:Array Obj}{b:Nat}(h:b<w.heap.size):(grow w os).heap[b]?=w.heap[b]?:=by
 show(w.heap++os)[b]?=_
 rw[Array.getElem?_append_left h]
theorem GA(args:List PV)(H:List fB)(p:PV)(H':List fB)(h:Ft args H=some (p,H')):wK prog 153 args H p H':=by
 unfold Ft at h;split at h
 .rename_i gg len cp N O e g' cs;split at h
  .rename_i ds y;split at h
   .rename_i hc;cases h;obtain⟨⟨Q,c0,rfl,rfl⟩,hl,hm,k,hst⟩:=hc;have z:=kq _ _ y;subst z;have A:N=#[]:=dj Q;have B:O=#[]:=dj c0;subst A;subst B;intro B0 w0 S0 g w vals hn I C hi hG;obtain⟨l⟩:=vals
    match l,hn with
    |[v0,J],_=>
    have R:J=.func (.func 51) #[] #[]:=FO (I 1 J _ rfl rfl).datInv;subst R;have h0:=I 0 v0 _ rfl rfl;obtain⟨u0,D,T⟩:=C.mt 0 _ _ _ rfl
    have q:(pw ds).all (fy.fits 9)=true:=an.2 λd U=>by
     obtain⟨_,_,_,_,_,V⟩:=pH (an.1 k d ((oS ds).mem_iff.1 U));exact V
    cases h0 with
    |ms _ _ _ _ _ _ u1 n k1 k2 k3 W X=>
     have t:=k2;rw[k2]at D;simp only[j9,jI]at D;obtain⟨rfl,rfl⟩:=D;obtain⟨Y,_⟩:=W rfl;by_cases x:ds=[]
     .subst x;have E:len=0:=by simpa using hl
      subst E;obtain⟨ad,c,rfl,_⟩:=X;refine(DN ad c w).mono ?_
      rintro e w' ⟨rfl,rfl⟩
      exact⟨_,g,rfl,.same C hi (.tup _ _ rfl λj v c h=>by simp at h)⟩
     .have Z:0<ds.length:=eY.2 x;rcases T with⟨u,_⟩|⟨b,K,f,cur,_,_,_,_,_,⟨_,s⟩,_⟩|⟨b,K,f,cur,size,ds',rfl,q0,q1,q2,q3,q3',q4,q5,F,q6,q7,L,q9⟩
      .exact absurd (by simpa using u) x
      .exfalso
       obtain⟨d,r,rfl⟩:=List.exists_cons_of_ne_nil x;obtain⟨es,r',rfl,_⟩:=pH (an.1 k d yA);simp[PV.flat]at s
      .have:=E1 q4;subst this;rw[Il]at q3;cases q3;have G:v0=.slice (some ⟨b,0,none⟩) len f:=by rw[Y];simp[gP,Addr.add]
       subst G;refine(HY (S:=g.S) (n:=len) (cap:=f) q2 hl (by rw[q7];exact au _ y8) y8 hm k (λb' o M=>⟨λe=>by subst e;exact L o M,hi.lt b' o M⟩) q9 hst).mono ?_
       rintro e w' ⟨rfl,new,m,os,hnew,rfl,hrow⟩
       have hg:=AW (P:=prog) (S0:=S0) (w0:=w0) (gg':=n) (l1:=K) (v:=.tuple #[]) (p:=.tup []) (ds':=pw ds) (new:=new) (H:=[.mt 62 n (ds.map .dat)]) (tt:=0) rfl t q0 q1 q2 Il yC q6 q7 L q (by rw[(oS ds).length_eq];exact F) hnew hrow (.inl ⟨rfl,rfl⟩) C hi
        (.tup _ _ rfl λj v c h=>by simp at h)
       exact⟨_,_,rfl,Hg hg rfl rfl rfl (by simp[grow,Sort.ahead]) λb hb=>by
        rw[Ig (by exact hb)];rfl⟩
   .cases h
  .cases h
 .cases h
open Go Go.RowKit Go.Proofs Go.Pm Go.Shelf
def Bs:List (Value×PV)->Option fj
 |[]=>some []
 |(.int .i64 n,.dat (.raw (.bool true)))::l=>if -9223372036854775808<=n/\n<=9223372036854775807 then(Bs l).map (n::·)else none
 |_::_=>none
def G4(x:Int):fj->fj
 |[]=>[x]
 |y::l=>if x<=y then x::y::l else y::G4 x l
def ud(l:fj):fj:=l.foldr G4 []
def Mp:fj->Bool
 |[]=>true
 |x::l=>!(l.contains x) &&Mp l
def Av(args:List PV)(H:List fB):Option (PV×List fB):=
 match args with
 |[.fn 108 [.ptr b 0]]=>match H[b]? with
  |some (.box [.mapv m])=>match mapOf H m with
   |some es=>match Bs es with
    |some c=>if Mp c=true/\c.length<=1000000 then some (.dat (.lst ((ud c).map λn=>.raw (.int .i64 n))),H)else none
    |none=>none
   |none=>none
  |_=>none
 |_=>none
theorem tr(x:Int):∀l,(G4 x l).Perm (x::l)
 |[]=>.refl _
 |y::l=>by
  rw[G4];split
  .exact .refl _
  .exact((tr x l).cons y).trans (.swap x y l)
theorem rD:∀l,(ud l).Perm l
 |[]=>.refl _
 |x::l=>(tr x (ud l)).trans ((rD l).cons x)
theorem FL(x:Int):∀l:fj,l.Pairwise (·<=·)->(G4 x l).Pairwise (·<=·)
 |[],_=>List.pairwise_singleton _ _
 |y::l,h=>by
  obtain⟨e,f⟩:=aT.1 h;rw[G4];split
  .rename_i c;refine aT.2 ⟨λz d=>?_,h⟩;rcases aq.1 d with rfl|d
   .exact c
   .exact e8 c (e z d)
  .rename_i c;refine aT.2 ⟨λz d=>?_,FL x l f⟩;rcases aq.1 ((tr x l).mem_iff.1 d)with rfl|d
   .omega
   .exact e z d
theorem By:∀l:fj,(ud l).Pairwise (·<=·)
 |[]=>.nil
 |x::l=>FL x _ (By l)
theorem u9:∀{l:fj},Mp l=true->l.Nodup
 |[],_=>.nil
 |x::l,h=>by
  simp only[Mp,jE,cm,List.contains_eq_mem,decide_eq_false_iff_not]at h;exact ea.2 ⟨h.1,u9 h.2⟩
theorem tJ:∀{l m:fj},l.Perm m->l.Pairwise (·<=·)->m.Pairwise (·<=·)->l=m
 |[],m,c,_,_=>c.nil_eq
 |a::l,[],c,_,_=>(List.cons_ne_nil _ _ (List.perm_nil.1 c)).elim
 |a::l,b::m,c,hl,hm=>by
  have d:=aT.1 hl;have f:=aT.1 hm
  have e:a=b:=by
   rcases aq.1 (c.mem_iff.1 (jM ..))with e|g
   .exact e
   .rcases aq.1 (c.mem_iff.2 (jM ..))with e|j
    .exact e.symm
    .have:=d.1 b j;have:=f.1 a g;omega
  subst e;rw[tJ (c.cons_inv) d.2 f.2]
theorem Kh(d:fj):(d.mergeSort λx y=>decide (x<=y)).Pairwise (·<=·):=by
 have:=List.pairwise_mergeSort (le:=λx y:Int=>decide (x<=y)) (λa b c e f=>by simp at e f |-;omega) (λa b=>by simp;omega) d;exact this.imp λh=>by simpa using h
theorem KP{P:fm}{B0:Nat}{w0:fk}{S0:Nat->Nat->Prop}{g:Gh}{H:List fB}{w w':fk}{v:fu}{d:fy}(f:Qm P g B0 H.length H w)(hi:Pm.Inv B0 w0 S0 g w)(e:Below w.heap.size w w')(k:fY w' (λb o=>g.S b o\/(w.heap.size<=b/\b<w'.heap.size)) v d):∃g',Pm.Good P B0 w0 S0 H g w (.dat d) H v g' w':=by
 have j:Ext H.length g w {g with S:=λb o=>g.S b o\/(w.heap.size<=b/\b<w'.heap.size)} w':=
  ⟨λ_ _ h=>.inl h,λb o c=>e.cell (p:=⟨b,o,none⟩) (hi.lt b o c),λ_ _ h=>⟨rfl,h⟩,λ_ _ v n h=>⟨v,n,h,j7 _,λ_=>rfl⟩⟩
 refine⟨_,j,j7 _,.dat _ _ k,f.keep j (j7 _) (j7 _) (λi b h=>e.block b (f.occ_lt h).2.1) (λi b h o c=>?_) (λ_ _=>rfl),⟨hi.below.trans (e.mono hi.size),jW hi.size e.size,λb o c=>?_,λb o c=>?_⟩,Fr.old e.size (λb h=>e.block b h) (λi b h _=>⟨i,gD (g:=g) h (λ_ _=>rfl) (λ_ _=>rfl)⟩) (λb o h=>h.imp id λh=>.inl h.1)⟩
 .rcases c with c|⟨c,_⟩
  .exact c
  .exact absurd (f.occ_lt h).2.1 y8
 .rcases c with c|⟨c,_⟩
  .exact hi.old b o c
  .exact .inr (jW hi.size c)
 .rcases c with c|⟨_,c⟩
  .exact jP (hi.lt b o c) e.size
  .exact c
theorem yI:∀{es:List (Value×PV)} {c:fj},Bs es=some c->es.map (·.1)=c.map (λn=>Value.int .i64 n)/\∀n∈c,-9223372036854775808<=n/\n<=9223372036854775807
 |[],c,h=>by
  simp only[Bs,j9]at h;subst h;exact⟨rfl,λn hn=>by simp at hn⟩
 |e::es,c,h=>by
  unfold Bs at h;split at h
  .rename_i h0;cases h0
  .rename_i n l h0;cases h0;split at h
   .rename_i d;simp only[j5]at h;obtain⟨f,g,rfl⟩:=h;obtain⟨k1,k2⟩:=yI g;refine⟨by simp[k1],λm hm=>?_⟩;rcases aq.1 hm with rfl|hm
    .exact d
    .exact k2 m hm
   .cases h
  .cases h
abbrev RB:fu->Option (DataW Unit×List MemPlace):=λ_=>some (.lit (.bool true),[])
theorem Pz{n:Int}(h:-9223372036854775808<=n/\n<=9223372036854775807):(Lit.int .i64 n).wf=true:=by
 have c:IntKind.i64.min=-9223372036854775808:=by decide
 have d:IntKind.i64.max=9223372036854775807:=by decide
 simp only[Lit.wf,c,d,h.1,h.2,decide_true,Bool.and_self]
theorem OX(m:Nat):AnyZI.SortsIn Tryz.prog Tryz.sortedA_ren Fence.wide m:=
 ⟨λblk off cap e W f c d=>callsIn_wide.2 (AnyM.slices_Sort_int Tryz.sortA blk off cap e W f c d),
  λp cap W=>callsIn_wide.2 (AnyM.slices_Sort_int_none Tryz.sortA p cap W)⟩
theorem Bj{g b:Nat}{d:DataW Unit}{q:Nat}{w:fk}(k:w.ownsMap Tryz.prog 3 RB b q d)(p:g<w.heap.size)(f:w.cell? ⟨g,0,none⟩=some (.map (some b)))(l:Maps.size d<=maxLen)(c:Maps.size d*8<=140737488355328):
  Calls Tryz.prog 57 #[.func (.func 108) #[] #[.pointer (some ⟨g,0,none⟩)]] w λe w'=>∃(v:fu) (j:fj),e=.returned v/\j.Perm (intKeys d)/\
   w'.ownsRow w.heap.size 3 1 v j.length ((j.mergeSort (λx y=>decide (x<=y))).map encZ)/\(v=.slice none 0 0↔j=[])/\Below w.heap.size w w':=by
 refine(callsIn_wide (n:=5)).1 ?_
 have m:SeqGives Fence.wide 2 Tryz.prog 108 #[.pointer (some ⟨g,0,none⟩)] encZ (λj=>j.Perm (intKeys d)) (Maps.size d) w:=
  AnyZI.keys_gives (ρ:=Tryz.keysA_ren) {Tryz.keysA with} Fence.wide _ trivial rfl y8 g b q d _ p f k
 have r:=AnyZI.sorted_in Tryz.sortedA Fence.wide 5 trivial trivial trivial trivial rfl y8 (OX _) (enters_of Tryz.func107 (by kernel_rfl) rfl) 108 #[.pointer (some ⟨g,0,none⟩)] trivial (enters_of Tryz.func108 (by kernel_rfl) rfl) _ _ l c _ m
 change CallsIn _ _ Tryz.prog 57 _ _ _ at r
 exact r
theorem Lr{l:List (Lit×DataW Unit)}:Maps.size (.map l)=l.length:=rfl
theorem MT{w:fk}{b:Nat}{arr:Array MapEntry}{clock:Nat}{c:fj}(u:w.heap[b]?=some (.map arr clock))(t:pd arr clock)(j:arr.toList.map (·.key)=c.map (λn=>Value.int .i64 n))(hn:c.Nodup)(v:∀n∈c,-9223372036854775808<=n/\n<=9223372036854775807)(hl:c.length<=1000000):
  ∃r:DataW Unit,w.ownsMap Tryz.prog 3 RB b c.length r/\Maps.size r=c.length/\(intKeys r).Perm c:=by
 have d:arr.size=c.length:=by have:=bI List.length j;simpa using this
 have f:∀x∈arr.toList,∃n∈c,x.key=.int .i64 n/\Go.WideElems.rd Tryz.prog 3 RB x=some (.int .i64 n,.lit (.bool true)):=λx s=>by
  have:x.key∈c.map (λn=>Value.int .i64 n):=by rw[<-j];exact ar.2 ⟨x,s,rfl⟩
  obtain⟨n,m,q⟩:=ar.1 this;refine⟨n,m,q.symm,?_⟩;have:=Go.WideElems.rd_mk (P:=Tryz.prog) (k:=3) (R:=RB) (key:=x.key) (val:=x.val) (born:=x.born) (kl:=.int .i64 n) (yv:=(.lit (.bool true),[])) (by rw[<-q];exact Go.Maps.keyOf_int_mk Tryz.underlying3 (Pz (v n m))) rfl;exact this
 have g:arr.toList.map (Go.WideElems.rg Tryz.prog 3 RB)=c.map λn=>((.int .i64 n:Lit),(.lit (.bool true):DataW Unit)):=by
  refine bW (by simp[d]) λi m q=>?_
  simp only[dT];have hi:i<arr.toList.length:=by simpa using m
  obtain⟨n,_,k1,k2⟩:=f _ (zC hi);rw[Go.WideElems.rg_of k2];have e:=bI (λl=>l[i]?) j;simp only[jD]at e;rw[jC hi,jC (by simpa using q)]at e;simp only[jN,j9,k1,Value.int.injEq,true_and]at e;rw[e]
 refine⟨.map ((arr.toList.map (Go.WideElems.rg Tryz.prog 3 RB)).foldr DataW.insert []),⟨arr,clock,u,⟨by rw[d];exact jW hl yC,⟨t.1,t.2,?_⟩,λx s=>?_⟩,by omega,rfl⟩,?_,?_⟩
 .rw[j];exact List.Pairwise.map _ (λa b h=>λe=>h (by simpa using e)) hn
 .obtain⟨n,_,_,k2⟩:=f x s;exact⟨_,k2⟩
 .rw[Lr,length_sorted,g];simp
 .have:=(Go.WideShapes.sorted_perm (arr.toList.map (Go.WideElems.rg Tryz.prog 3 RB))).map λp=>Go.intOf p.1
  rw[g]at this |-;simp only[intKeys];refine this.trans ?_;rw[zF]
  have e:(λp:Lit×DataW Unit=>Go.intOf p.1)∘ (λn:Int=>((.int .i64 n:Lit),(.lit (.bool true):DataW Unit)))=id:=by
   funext n;rfl
  rw[e,cR]
theorem BB(args:List PV)(H:List fB)(p:PV)(H':List fB)(h:Av args H=some (p,H')):wK prog 57 args H p H':=by
 unfold Av at h;split at h
 case h_2=>cases h
 rename_i b;split at h
 case h_2=>cases h
 rename_i m Q;split at h
 case h_2=>cases h
 rename_i es hm;split at h
 case h_2=>cases h
 rename_i k G;split at h
 case isFalse=>cases h
 rename_i hc;cases h;intro B0 w0 S0 g w vals hn R I hi hG;obtain⟨l⟩:=vals
 match l,hn with
 |[v0],_=>
 have h0:=R 0 v0 _ rfl rfl;cases h0 with
 |fn f vs cs q1 q2=>
  obtain⟨T⟩:=vs
  match T,q1 with
  |[u],_=>
  have U:=q2 0 u _ rfl rfl;cases U with
  |ptr i o V=>
   obtain⟨_,⟨W,X,c1,c2,Y⟩,_⟩:=I.box b _ Q;obtain⟨Z⟩:=W
   match Z,c2 with
   |[z],_=>
   have M:=Y 0 z _ rfl rfl;cases M with
   |mapv i C=>
    obtain⟨_,⟨arr,o1,⟨m1,m2⟩,m3,m4⟩,_⟩:=I.map m es (jz hm);obtain⟨clock,rfl,_,hst⟩:=pS m2 m3 (λj x c r D=>(m4 j x c r D).1) (kx hm);obtain⟨k1,k2⟩:=yI G
    have hk:arr.toList.map (·.key)=k.map (λn=>Value.int .i64 n):=by
     rw[<-k1];refine bW (by simpa using m3) λi h1 h2=>?_
     simp only[dT];have J:i<arr.size:=by simpa using h1
     have C:i<es.length:=by simpa using h2
     have:=(m4 i arr[i] es[i] (jA J) (jC C)).1
     simpa using this
    obtain⟨D0,d1,N,d3⟩:=MT m1 hst hk (u9 hc.1) k2 hc.2;have K:g.blk b<w.heap.size:=(ay.1 c1).1
    have s:w.cell? ⟨g.blk b,0,none⟩=some (.map (some (g.blk m))):=by
     rw[cell_of_row _ _ _ _ X (0,0) c1];rfl
    refine(Bj d1 K s (by rw[N];exact jW hc.2 yC) (by rw[N];have:=hc.2;omega)).mono ?_
    rintro e w' ⟨v,B,rfl,hp,hrow,hnil,hbw⟩
    have E:=hp.trans d3;have t:B.mergeSort (λx y=>decide (x<=y))=ud k:=tJ ((List.mergeSort_perm B _).trans (E.trans (rD k).symm)) (Kh B) (By k);rw[t]at hrow;have q:B.length=(ud k).length:=by rw[E.length_eq,(rD k).length_eq]
    have hv:fY w' (λb o=>g.S b o\/(w.heap.size<=b/\b<w'.heap.size)) v (.lst ((ud k).map λn=>.raw (.int .i64 n))):=by
     rcases hrow.2 with⟨rfl,M⟩|⟨gb,cap,cur,rfl,A,F,r1,r2,r3,O⟩
     .have:ud k=[]:=aw y8
      rw[this];exact .nil
     .rw[aK]at r3 O;refine .lst gb 0 B.length cap 1 _ (λj=>cur.getD j undef) (by simp[q]) r1 (λd hd=>?_) (λi hi=>⟨?_,.inr ⟨A,(ay.1 F).1⟩⟩) (λi j d u r D=>?_)
      .obtain⟨n,_,rfl⟩:=ar.1 hd;rfl
      .rw[cell_of_row _ _ _ cur 3 (0,0) F]
       have:i<cur.size:=by omega
       simp[jH,this]
      .rw[jD,j5]at r;obtain⟨n,r,rfl⟩:=r
       have hj:j=0/\u=.raw (.int .i64 n):=by
        cases j with
        |zero=>simp[fy.cells]at D;exact⟨rfl,D.symm⟩
        |succ j=>simp[fy.cells]at D
       obtain⟨rfl,rfl⟩:=hj;have L:i<B.length:=by rw[q];exact(ae.1 r).1
       have P:=bI (λl=>l[i]?) O;simp only[jR,jD,r,jN,L,ak]at P;have e5:cur[i]?=some (encZ n):=by simpa using P
       rw[aK,zX,jH,e5];exact .raw _ rfl
    obtain⟨g',hg⟩:=KP I hi hbw hv;exact⟨v,g',rfl,hg⟩
set_option maxHeartbeats 2000000
def Ot:fo->Pm.Hint
 |3=>{own:=[],keep:=[(10,[7,8,9])]}
 |4=>{own:=[],keep:=[(8,[1,5,6,7,8,9])]}
 |9=>{own:=[((0,0),[(9000,3)]),((4,2),[(12500,0)])],keep:=[]}
 |10=>{own:=[((1,14),[(7,33)]),((1,15),[(7,33)])],keep:=[(3,[1,2,3,4])]}
 |12=>{own:=[],keep:=[(4,[0,1,5])]}
 |13=>{own:=[((1,0),[(0,83)])],keep:=[(3,[0,3,4])]}
 |14=>{own:=[((1,0),[(0,80)])],keep:=[(3,[0,1,5,6])]}
 |15=>{own:=[((1,0),[(0,60)])],keep:=[(3,[0,1,5,8,9,10])]}
 |16=>{own:=[((1,0),[(0,45)])],keep:=[(4,[1,5,6,7])]}
 |17=>{own:=[((1,0),[(0,45)])],keep:=[(4,[1,3,4,5])]}
 |18=>{own:=[((1,0),[(0,62)])],keep:=[(3,[0,3,4])]}
 |19=>{own:=[],keep:=[(3,[3,7,8,9])]}
 |20=>{own:=[],keep:=[(2,[0,1,5])]}
 |21=>{own:=[],keep:=[(3,[2,3,6,7,8])]}
 |22=>{own:=[],keep:=[(3,[0,1,5,6])]}
 |23=>{own:=[],keep:=[(4,[1,3])]}
 |25=>{own:=[],keep:=[(4,[1,3])]}
 |26=>{own:=[],keep:=[(7,[6,7,8])]}
 |27=>{own:=[],keep:=[(4,[0,1,5])]}
 |30=>{own:=[],keep:=[(4,[1,2,5])]}
 |32=>{own:=[((0,0),[(9000,3)]),((1,0),[(0,29)]),((5,3),[(12500,0)])],keep:=[(3,[1,2,3,5,9,10,11])]}
 |34=>{own:=[((6,0),[(0,3),(1,3)]),((6,1),[(0,3),(1,3)]),((14,0),[(0,3),(1,3)]),((14,1),[(0,3),(1,3)])],keep:=[(3,[0,1,2,3,9,10]),(8,[0,1,2,3,9,10,11,12,13]),(16,[1,2,3,9,14,15]),(22,[9,16,17])]}
 |35=>{own:=[],keep:=[(3,[0,1,2,7,8])]}
 |36=>{own:=[],keep:=[(3,[0,1,2,3,9,10])]}
 |37=>{own:=[((5,0),[(0,3),(1,3)]),((5,1),[(0,3),(1,3)])],keep:=[(3,[0,1,2,7,8]),(7,[0,1,2,7,8,9,10]),(12,[0,1,2,7,8,9,10,11,12,13])]}
 |38=>{own:=[],keep:=[(3,[0,1,2,3,9,10]),(7,[1,2,3,9,11])]}
 |39=>{own:=[((0,0),[(1000,3)]),((14,0),[(1000,83)]),((25,4),[(1,3)]),((25,5),[(1,3)]),((30,0),[(3,3)]),((32,26),[(1000,3)]),((36,2),[(5000,3)])],keep:=[(18,[0,1,5,7,8,9,10]),(27,[0,1,5,7,8,9,10,11,12,14,15])],flat:=[(24,[(5,[1]),(6,[1])]),(25,[(4,[2,1,0,1])]),(36,[(4,[3]),(5,[4])]),(37,[(0,[5])])]}
 |40=>{own:=[((1,0),[(0,126)])],keep:=[(3,[0,3,4]),(5,[0,3,4,5])]}
 |43=>{own:=[],keep:=[(4,[1,3])]}
 |44=>{own:=[],keep:=[(2,[1,3])]}
 |46=>{own:=[],keep:=[(2,[0,1,5])]}
 |47=>{own:=[],keep:=[(2,[0,1,5]),(7,[0,1,5,6]),(13,[1,7,8]),(17,[1,7,8,9,10])]}
 |48=>{own:=[],keep:=[(4,[1,19,20,21])]}
 |50=>{own:=[((1,17),[(0,3)])],keep:=[]}
 |53=>{own:=[],keep:=[(3,[0,1,5,12,13,14]),(9,[0,1,5,7,12,13,14,29,30,31])]}
 |54=>{own:=[((5,0),[(0,22)]),((12,1),[(0,3)])],keep:=[(3,[0,3,4]),(7,[0,3,4,5,6]),(10,[0,3,4,5,6,7])]}
 |55=>{own:=[],keep:=[(2,[0,1,4,6])]}
 |59=>{own:=[],keep:=[(2,[0,3])]}
 |60=>{own:=[],keep:=[(3,[0,4,5]),(9,[0,4,6]),(17,[0,7,8])]}
 |61=>{own:=[],keep:=[(5,[1,2,5])]}
 |62=>{own:=[],keep:=[(3,[1,3,4])]}
 |63=>{own:=[],keep:=[(4,[1,2,5])]}
 |64=>{own:=[],keep:=[(5,[0,1,5,6])]}
 |66=>{own:=[((1,1),[(7000,3)])],keep:=[]}
 |68=>{own:=[((1,0),[(0,62)]),((13,2),[(8000,3)]),((14,1),[(7000,3)])],keep:=[(3,[1,2,3,9,18,19,20]),(7,[1,2,3,9,11,12,18,19,20,26,27,28]),(15,[9,63,64,65])]}
 |70=>{own:=[((0,0),[(9000,3)]),((1,0),[(0,62)])],keep:=[(3,[1,5,7,10,11,12])]}
 |72=>{own:=[((1,0),[(0,62)])],keep:=[(3,[1,2,3,9,12,13,14])]}
 |74=>{own:=[((1,0),[(0,62)]),((12,8),[(5000,3)])],keep:=[(3,[1,2,7,13,14,15]),(7,[1,2,7,9,10,13,14,15,21,22,23])]}
 |78=>{own:=[((1,1),[(0,62)]),((12,0),[(5000,62)])],keep:=[(3,[0,2,3,9,16,17,18]),(8,[2,9,33,34,35])]}
 |79=>{own:=[((6,0),[(0,83)])],keep:=[(4,[0,3,5])]}
 |83=>{own:=[((6,0),[(0,80)]),((13,0),[(0,3),(1,3)])],keep:=[(8,[2,5,7,8]),(11,[2,5,7,8,9]),(15,[2,5,7,8,9,10,11])]}
 |84=>{own:=[((0,0),[(9000,3)]),((1,0),[(1001,3)]),((1,4),[(1001,3)])],keep:=[]}
 |85=>{own:=[((0,0),[(9000,3)]),((3,0),[(1000,3)]),((5,9),[(5000,3)])],keep:=[]}
 |86=>{own:=[((3,0),[(0,3)])],keep:=[(5,[1,2,3,6,7,8]),(9,[1,2,3,6,7,8,9,10])]}
 |87=>{own:=[],keep:=[(3,[0,3,4])]}
 |88=>{own:=[((1,2),[(8000,3)])],keep:=[]}
 |89=>{own:=[((1,1),[(0,3)])],keep:=[(3,[1,5,6])]}
 |90=>{own:=[],keep:=[(2,[0,1,5])]}
 |91=>{own:=[],keep:=[(2,[0,3])]}
 |92=>{own:=[],keep:=[(2,[1,2,5])]}
 |93=>{own:=[],keep:=[(4,[1,2,5])]}
 |94=>{own:=[],keep:=[(3,[0,1,5,9,10]),(9,[0,1,5,24,25])]}
 |97=>{own:=[((0,0),[(9000,3)]),((0,1),[(9000,3)])],keep:=[]}
 |98=>{own:=[],keep:=[(2,[0,1,9,10,11])]}
 |100=>{own:=[],keep:=[(4,[0,19,20,21])]}
 |104=>{own:=[],keep:=[(5,[0,1,5,6])]}
 |105=>{own:=[((3,0),[(1000,3)]),((18,0),[(0,3)])],keep:=[(8,[2,7,8,9]),(20,[1,2,7,8,10])]}
 |108=>{own:=[],keep:=[(1,[0,5])]}
 |109=>{own:=[],keep:=[(15,[2,6])]}
 |110=>{own:=[((1,1),[(0,62)])],keep:=[]}
 |111=>{own:=[((1,2),[(1000,3)]),((1,4),[(0,3)])],keep:=[]}
 |114=>{own:=[((1,0),[(0,3),(1,3)])],keep:=[(3,[0,1,2,8,9,13,14,15])]}
 |115=>{own:=[((3,2),[(7000,3)]),((3,5),[(7000,3)]),((3,7),[(1001,60)]),((4,0),[(0,60)]),((9,27),[(1001,60)])],keep:=[(7,[2,5,7,8,30,31])]}
 |116=>{own:=[((0,1),[(9000,3)]),((1,3),[(0,3)]),((1,7),[(0,3)]),((2,17),[(6000,3)]),((3,0),[(5000,3)])],keep:=[],late:=[(2,1),(2,4),(2,22),(2,24)]}
 |119=>{own:=[((0,1),[(9000,3)]),((0,2),[(9000,3)]),((0,3),[(9000,3)])],keep:=[]}
 |122=>{own:=[((5,1),[(7000,3)]),((10,0),[(0,62)])],keep:=[(12,[0,1,5,6,7,8,9])]}
 |123=>{own:=[((1,0),[(0,193)])],keep:=[(3,[0,3,4]),(5,[0,3,4,5])]}
 |124=>{own:=[((1,2),[(1000,198)])],keep:=[(3,[3,5,16,17,18])]}
 |125=>{own:=[((2,0),[(1000,62)]),((3,0),[(1000,62)])],keep:=[]}
 |126=>{own:=[((2,0),[(1000,3)]),((3,0),[(1000,3)])],keep:=[(5,[0,3,4]),(11,[0,3,4,5,6])]}
 |128=>{own:=[],keep:=[(2,[1,3])]}
 |129=>{own:=[((3,0),[(0,3),(1,3)])],keep:=[(5,[2,3,4,6,7])]}
 |131=>{own:=[],keep:=[(2,[0,1,7,8])]}
 |132=>{own:=[],keep:=[(4,[0,1,12,13])]}
 |139=>{own:=[((1,0),[(0,3)])],keep:=[(3,[1,2,7,10,11,12])]}
 |142=>{own:=[],keep:=[(3,[0,1,5,6])]}
 |143=>{own:=[],keep:=[(4,[0,1,5])]}
 |144=>{own:=[],keep:=[(3,[0,1,5,6])]}
 |146=>{own:=[],keep:=[(2,[0,1,2,3,8,9])]}
 |149=>{own:=[],keep:=[(5,[1,3,4]),(10,[1,3,5]),(14,[1,3,5,6,7])]}
 |150=>{own:=[],keep:=[(6,[1,3,4,5])]}
 |151=>{own:=[((1,0),[(1000,62)])],keep:=[(3,[1,5,8,9,10])]}
 |154=>{own:=[((2,0),[(1000,3)]),((3,0),[(1000,3)])],keep:=[]}
 |155=>{own:=[],keep:=[(8,[0,3,4,18,19])]}
 |160=>{own:=[((1,2),[(0,3)]),((1,5),[(0,3)])],keep:=[],late:=[(2,1),(2,4),(2,9),(2,11)]}
 |165=>{own:=[((0,1),[(1000,3)])],keep:=[(2,[0,6,11,12,13])]}
 |166=>{own:=[((1,1),[(7000,3)])],keep:=[]}
 |169=>{own:=[((1,0),[(0,62)]),((5,1),[(0,3)]),((5,3),[(0,3)]),((17,1),[(5000,62)])],keep:=[(2,[0,1,2,3,4,11]),(7,[0,1,2,3,4,11,12,13,15,16,44,45])]}
 |172=>{own:=[((1,1),[(7000,3)]),((1,3),[(7000,3)])],keep:=[]}
 |178=>{own:=[],keep:=[(2,[0,1,7,8])]}
 |179=>{own:=[],keep:=[(3,[2,8,13,14,15])]}
 |180=>{own:=[],keep:=[(1,[0,1,2,6]),(4,[0,1,2,6,7])]}
 |181=>{own:=[],keep:=[(4,[0,6,7,8,9]),(8,[0,6,7,10])]}
 |182=>{own:=[],keep:=[(5,[0,1,6,7,8,9])]}
 |184=>{own:=[],keep:=[(2,[0,6,7])]}
 |185=>{own:=[],keep:=[(3,[0,1,2,7,8]),(5,[0,1,2,7,8]),(14,[0,1,2,7,8,9]),(20,[0,1,2,7,8,10])]}
 |187=>{own:=[],keep:=[(3,[0,1,9,10]),(5,[0,1,9,10])]}
 |188=>{own:=[],keep:=[(3,[0,1,10,11]),(5,[0,1,10,11]),(13,[0,1,10,11]),(15,[0,1,10,11])]}
 |191=>{own:=[],keep:=[(2,[0,1,2,3,4,10,11])]}
 |192=>{own:=[((1,4),[(0,3)])],keep:=[]}
 |194=>{own:=[],keep:=[(5,[0,1,5,6])]}
 |196=>{own:=[],keep:=[(3,[3,6,7,8])]}
 |197=>{own:=[((1,0),[(0,3)])],keep:=[(3,[1,5,8,9,10])]}
 |199=>{own:=[],keep:=[(3,[1,5,13,14,15])]}
 |202=>{own:=[((0,1),[(0,3)]),((4,2),[(5000,3)])],keep:=[(2,[0,1,2,4,5])]}
 |203=>{own:=[],keep:=[(2,[0,1,2,7])]}
 |204=>{own:=[],keep:=[(4,[0,12,13,14])]}
 |208=>{own:=[],keep:=[(1,[0,2,3,8])]}
 |213=>{own:=[],keep:=[(1,[0,1,2,3,8]),(4,[0,1,2,3,8,9])]}
 |214=>{own:=[],keep:=[(4,[0,3,8,9,10,11]),(8,[0,3,8,9,12])]}
 |215=>{own:=[],keep:=[(5,[0,1,8,9,10,11])]}
 |217=>{own:=[],keep:=[(2,[0,8,9])]}
 |218=>{own:=[],keep:=[(3,[0,1,2,3,9,10]),(5,[0,1,2,3,9,10]),(14,[0,1,2,3,9,10,11]),(20,[0,1,2,3,9,10,12])]}
 |219=>{own:=[],keep:=[(3,[0,1,4,11,12]),(5,[0,1,4,11,12])]}
 |220=>{own:=[],keep:=[(3,[0,1,4,12,13]),(5,[0,1,4,12,13]),(13,[0,1,4,12,13]),(15,[0,1,4,12,13])]}
 |221=>{own:=[],keep:=[(2,[0,1,7,8])]}
 |222=>{own:=[],keep:=[(3,[0,1,2,8,9,10])]}
 |224=>{own:=[],keep:=[(3,[0,1,5,11,12])]}
 |226=>{own:=[],keep:=[(1,[0,2,3,4,10])]}
 |_=>{}
def env:Env where
 summ:=λf=>if f=153 then some (λ_=>none)else if f=57 then some (λ_=>none)else none
 hsum:=λf=>if f=153 then some Ft else if f=57 then some Av else none
 hint:=Ot
 pure:=λf=>f !=31 &&f !=32 &&f !=57 &&f !=58 &&f !=111 &&f !=116 &&f !=117 &&f !=125 &&f !=126 &&f !=151 &&f !=153 &&f !=154 &&f !=156 &&f !=157 &&f !=158 &&f !=159 &&f !=161 &&f !=162 &&f !=163 &&f !=164 &&f !=165 &&f !=168 &&f !=169 &&f !=191 &&f !=192 &&f !=193 &&f !=194 &&f !=199 &&f !=203 &&f !=213 &&f !=221
 split:=λf=>f==154||f==125
abbrev FQ:=FP prog env
abbrev LQ:=LP prog env
abbrev V6:=FF prog env
structure Qb where
 kind:Int
 shape:(fj)
 buffer:Int
 starts:(fj)
 axis:Int
 amount:Int
 perm:(fj)
 kids:(List Qb)
mutual
def Qb.toD:Qb->fy
 |⟨kind,shape,buffer,starts,axis,amount,perm,kids⟩=>.agg [(Qf kind),(.lst ((List.map Qf) shape)),(Qf buffer),(.lst ((List.map Qf) starts)),(Qf axis),(Qf amount),(.lst ((List.map Qf) perm)),(.lst (Qb.toDs kids))]
def Qb.toDs:List Qb->List fy
 |[]=>[]
 |k::ks=>Qb.toD k::Qb.toDs ks
end
theorem Qb.toDs_eq:∀l:List Qb,Qb.toDs l=l.map Qb.toD
 |[]=>rfl
 |k::ks=>by rw[Qb.toDs,Qb.toDs_eq ks];rfl
def Qb.ex(x:Qb):fy:=.agg [(Qf x.kind),(.lst ((List.map Qf) x.shape)),(Qf x.buffer),(.lst ((List.map Qf) x.starts)),(Qf x.axis),(Qf x.amount),(.lst ((List.map Qf) x.perm)),(.lst (Qb.toDs x.kids))]
theorem Qb.toD_eq(x:Qb):x.toD=x.ex:=by cases x;rfl
theorem Qb.fit(x:Qb):fy.fits 8 x.toD=true:=by cases x;rfl
structure Qj where
 kind:Int
 shape:(fj)
 buffer:Int
 starts:(fj)
 axis:Int
 amount:Int
 perm:(fj)
 kids:(List Qj)
mutual
def Qj.toD:Qj->fy
 |⟨kind,shape,buffer,starts,axis,amount,perm,kids⟩=>.agg [(Qf kind),(.lst ((List.map Qf) shape)),(Qf buffer),(.lst ((List.map Qf) starts)),(Qf axis),(Qf amount),(.lst ((List.map Qf) perm)),(.lst (Qj.toDs kids))]
def Qj.toDs:List Qj->List fy
 |[]=>[]
 |k::ks=>Qj.toD k::Qj.toDs ks
end
theorem Qj.toDs_eq:∀l:List Qj,Qj.toDs l=l.map Qj.toD
 |[]=>rfl
 |k::ks=>by rw[Qj.toDs,Qj.toDs_eq ks];rfl
def Qj.ex(x:Qj):fy:=.agg [(Qf x.kind),(.lst ((List.map Qf) x.shape)),(Qf x.buffer),(.lst ((List.map Qf) x.starts)),(Qf x.axis),(Qf x.amount),(.lst ((List.map Qf) x.perm)),(.lst (Qj.toDs x.kids))]
theorem Qj.toD_eq(x:Qj):x.toD=x.ex:=by cases x;rfl
theorem Qj.fit(x:Qj):fy.fits 8 x.toD=true:=by cases x;rfl
structure Ql where
 lo:(fj)
 hi:(fj)
def Ql.toD(x:Ql):fy:=.agg [(.lst ((List.map Qf) x.lo)),(.lst ((List.map Qf) x.hi))]
theorem Ql.fit(x:Ql):fy.fits 2 x.toD=true:=rfl
structure Qh where
 kind:Int
 buffer:Int
 base:Int
 strides:(fj)
 start:Int
 step:Int
 mod:Int
def Qh.toD(x:Qh):fy:=.agg [(Qf x.kind),(Qf x.buffer),(Qf x.base),(.lst ((List.map Qf) x.strides)),(Qf x.start),(Qf x.step),(Qf x.mod)]
theorem Qh.fit(x:Qh):fy.fits 7 x.toD=true:=rfl
structure Qa where
 box:Ql
 access:Qh
def Qa.toD(x:Qa):fy:=.agg [(.lst ((List.map Qf) x.box.lo)),(.lst ((List.map Qf) x.box.hi)),(Qf x.access.kind),(Qf x.access.buffer),(Qf x.access.base),(.lst ((List.map Qf) x.access.strides)),(Qf x.access.start),(Qf x.access.step),(Qf x.access.mod)]
theorem Qa.fit(x:Qa):fy.fits 9 x.toD=true:=rfl
structure Qw where
 fill:Bool
 buffer:Int
 offset:Int
def Qw.toD(x:Qw):fy:=.agg [(PY x.fill),(Qf x.buffer),(Qf x.offset)]
theorem Qw.fit(x:Qw):fy.fits 3 x.toD=true:=rfl
structure XJ where
 strides:(fj)
 dims:(fj)
def XJ.toD(x:XJ):fy:=.agg [(.lst ((List.map Qf) x.strides)),(.lst ((List.map Qf) x.dims))]
theorem XJ.fit(x:XJ):fy.fits 2 x.toD=true:=rfl
structure Xt where
 first:Int
 strides:(fj)
def Xt.toD(x:Xt):fy:=.agg [(Qf x.first),(.lst ((List.map Qf) x.strides))]
theorem Xt.fit(x:Xt):fy.fits 2 x.toD=true:=rfl
structure Qs where
 at0_:Int
 len:Int
 fill:Bool
 buffer:Int
 offset:Int
 step:Int
def Qs.toD(x:Qs):fy:=.agg [(Qf x.at0_),(Qf x.len),(PY x.fill),(Qf x.buffer),(Qf x.offset),(Qf x.step)]
theorem Qs.fit(x:Qs):fy.fits 6 x.toD=true:=rfl
structure RV where
 c0:Int
 c1:Int
 c2:Int
def RV.toD(x:RV):fy:=.agg [(Qf x.c0),(Qf x.c1),(Qf x.c2)]
theorem RV.fit(x:RV):fy.fits 3 x.toD=true:=rfl
structure Qx where
 lo:(fj)
 hi:(fj)
def Qx.toD(x:Qx):fy:=.agg [(.lst ((List.map Qf) x.lo)),(.lst ((List.map Qf) x.hi))]
theorem Qx.fit(x:Qx):fy.fits 2 x.toD=true:=rfl
structure QD where
 kind:Int
 buffer:Int
 base:Int
 strides:(fj)
 start:Int
 step:Int
 mod:Int
def QD.toD(x:QD):fy:=.agg [(Qf x.kind),(Qf x.buffer),(Qf x.base),(.lst ((List.map Qf) x.strides)),(Qf x.start),(Qf x.step),(Qf x.mod)]
theorem QD.fit(x:QD):fy.fits 7 x.toD=true:=rfl
structure Qk where
 box:Qx
 access:QD
def Qk.toD(x:Qk):fy:=.agg [(.lst ((List.map Qf) x.box.lo)),(.lst ((List.map Qf) x.box.hi)),(Qf x.access.kind),(Qf x.access.buffer),(Qf x.access.base),(.lst ((List.map Qf) x.access.strides)),(Qf x.access.start),(Qf x.access.step),(Qf x.access.mod)]
theorem Qk.fit(x:Qk):fy.fits 9 x.toD=true:=rfl
structure Qi where
 fill:Bool
 buffer:Int
 offset:Int
def Qi.toD(x:Qi):fy:=.agg [(PY x.fill),(Qf x.buffer),(Qf x.offset)]
theorem Qi.fit(x:Qi):fy.fits 3 x.toD=true:=rfl
structure Qq where
 at0_:Int
 len:Int
 fill:Bool
 buffer:Int
 offset:Int
 step:Int
def Qq.toD(x:Qq):fy:=.agg [(Qf x.at0_),(Qf x.len),(PY x.fill),(Qf x.buffer),(Qf x.offset),(Qf x.step)]
theorem Qq.fit(x:Qq):fy.fits 6 x.toD=true:=rfl
abbrev QC:=λc d=>((.box [(La c),(La d)]):fB)
abbrev QG:=λc=>((.mt 3 1 (cellsOf Qf c)):fB)
abbrev LC:=λc d=>((.mt 3 c (cellsOf Qf d)):fB)
abbrev Ub:=λc=>((.vec 2 ((List.map Qf) c)):PV)
abbrev Pv:=λc=>((.vec 0 ((List.map Qf) c)):PV)
abbrev Od:=((.mt 3 2 (cellsOf Qf ([]:fj))):fB)
abbrev PH:=λc=>((.vec 0 ((List.map Qs.toD) c)):PV)
abbrev PB:=λc=>((.vec 0 ((List.map Qx.toD) c)):PV)
abbrev Xw:=λc=>((.vec 0 ((List.map Qa.toD) c)):PV)
abbrev PN:=λc=>((.vec 1 ((List.map Qa.toD) c)):PV)
abbrev Pj:=λc=>((.vec 3 ((List.map Qa.toD) c)):PV)
abbrev JY:=λc d=>((.mt 62 c (cellsOf Qa.toD d)):fB)
abbrev Nu:=λc=>((.dat (.lst ((List.map Qw.toD) c))):PV)
abbrev Xg:=λc=>((.dat (.lst ((List.map Qs.toD) c))):PV)
abbrev PE:=((.mt 3 (1+1) (cellsOf Qf ([]:fj))):fB)
abbrev Nw:=λc=>((.dat (.lst ((List.map Qx.toD) c))):PV)
abbrev Vu:=λc d e f=>((.box [(La c),(La d),(La e),(La f)]):fB)
abbrev TC:=λc=>((.dat (.lst ((List.map Qi.toD) c))):PV)
abbrev QX:=λc=>((.dat (.lst ((List.map Qa.toD) c))):PV)
abbrev NX:=λc=>((.dat (.lst ((List.map Qk.toD) c))):PV)
abbrev Pe:=λc d=>((.box [(.ms 4 1 0 c c),(.ms 5 1 0 d d)]):fB)
abbrev U9:=λc d=>((.box [(.ms 3 1 0 c c),(.ms 4 1 0 d d)]):fB)
abbrev PD:=λc d=>((.box [(.ms 5 1 0 c c),(.ms 6 1 0 d d)]):fB)
abbrev RU:=λc d=>((.mt 62 (c+1) (cellsOf Qa.toD d)):fB)
abbrev Vq:=λe c d=>((.box [(.ms 1 e 0 c c),(.ms 2 1 0 d d)]):fB)
abbrev Ma:=λe c d=>((.box [(.ms 3 e 0 c c),(.ms 4 1 0 d d)]):fB)
abbrev RE:=λc=>((.vec 0 ((List.map (λl=>fy.lst ((List.map Qf) l))) c)):PV)
abbrev ZI:=λc=>((.dat (.lst ((List.map (λl=>fy.lst ((List.map Qf) l))) c))):PV)
abbrev Zc:=((.box [(Qd 0),(Qd 0),(Qd 0),Ea,(Qd 0),(Qd 0),(Qd 0)]):fB)
abbrev PL:=((.box [(Qd 0),(Qd 0),(Qp false),(Qd 0),(Qd 0),(Qd 0)]):fB)
abbrev SV:=λc d e f=>((.box [(Qd c),(Qd 1),(Qp d),(Qd e),(Qd f),(Qd 0)]):fB)
abbrev NK:=((.box [Ea,Ea,(Qd 0),(Qd 0),(Qd 0),Ea,(Qd 0),(Qd 0),(Qd 0)]):fB)
abbrev LD:=λc d e f g j=>((.box [(Qd c),(Qd d),(Qp e),(Qd f),(Qd g),(Qd j)]):fB)
abbrev QA:=λc d e f g j k=>((.box [(Qd c),(Qd d),(Qd e),(La f),(Qd g),(Qd j),(Qd k)]):fB)
abbrev JX:=λc d e f g j k=>((.dat (.agg [(Qf c),(Qf d),(Qf e),(Lb f),(Qf g),(Qf j),(Qf k)])):PV)
abbrev Lz:=λd e f c g j k=>((.box [(Qd d),(Qd e),(Qd f),(.ms 7 1 0 c c),(Qd g),(Qd j),(Qd k)]):fB)
abbrev P3:=λd e f g c j k l=>((.box [(Qd d),(Qd e),(Qd f),(.ms 9 g 0 c c),(Qd j),(Qd k),(Qd l)]):fB)
abbrev Zv:=λc d e f g j k l m=>((.box [(La c),(La d),(Qd e),(Qd f),(Qd g),(La j),(Qd k),(Qd l),(Qd m)]):fB)
abbrev OP:=λc d e f g j k l m=>((.dat (.agg [(Lb c),(Lb d),(Qf e),(Qf f),(Qf g),(Lb j),(Qf k),(Qf l),(Qf m)])):PV)
abbrev Sw:=λc d e f g j k l=>((.box [(Qd c),(La d),(Qd e),(La f),(Qd g),(Qd j),(La k),(.dat (.lst (Qj.toDs l)))]):fB)
abbrev Pr:=λc d e f g j k l=>((.box [(Qd c),(La d),(Qd e),(La f),(Qd g),(Qd j),(La k),(.dat (.lst (Qb.toDs l)))]):fB)
abbrev LF:=λd c e f g j k l m=>((.box [(Qd d),(.ms 7 1 0 c c),(Qd e),(Qd f),(Qd g),(La j),(Qd k),(Qd l),(Qd m)]):fB)
abbrev S8:=λd e c f g j k l m n=>((.box [(Qd d),(.ms 9 e 0 c c),(Qd f),(Qd g),(Qd j),(La k),(Qd l),(Qd m),(Qd n)]):fB)
abbrev QJ:=λc d e f g j k l=>([(Pr c d e f g j k l)]:List fB)
abbrev P6:=λc d e f g=>([(Vq c d e),(LC c f),(QG g)]:List fB)
abbrev Oy:=λc d e f=>([(.tok 62 c),(QC d e),(.box (cellsOf Qf f))]:List fB)
abbrev R1:=λc d e f g=>([(.tok 62 c),(QC d e),(.box (cellsOf Qf f)),(.tok 62 g)]:List fB)
abbrev LA:=λc d e f g j k l=>([(QC c d),(QC e f),(QC g j),(QC k l)]:List fB)
abbrev RD:=λe f g j k l m n p q c d=>([(.tok 62 e),(.tok 62 f),(LD g j k l m n),(QG p),(QG q),(U9 c d)]:List fB)
abbrev XW:=λf g j k l m n p q r c d e=>([(QC f g),(QC j k),(QC l m),(.tok 60 n),(QC p q),(Vu r c d e)]:List fB)
abbrev TJ:=λc d e f g j k l m=>([(QA c d e f g j k),(.box [(Qd l)]),(.box [(Qd m)]),Zc,(QA c d e f g j k),(QA c d e f g j k)]:List fB)
abbrev Tu:=λc d e f g j k n p q l m=>([(QA c d e f g j k),(.box [(La n)]),(.box [(Qd p)]),Zc,(QA c d e f g j k),Zc,(QA c d e f g j k),(QG q),(LF l m c d e f g j k)]:List fB)
abbrev Jb:=λc d e f g j k n p q l m=>([(QA c d e f g j k),(.box [(Qd n)]),(.box [(Qd p)]),Zc,(QA c d e f g j k),Zc,(QA c d e f g j k),(QG q),(LF l m c d e f g j k)]:List fB)
abbrev SD:=λd e f g j k l q r s m c n p=>([(QA d e f g j k l),(.box [(La q)]),(.box [(Qd r)]),Zc,(QA d e f g j k l),Zc,(QA d e f g j k l),(QG s),(S8 m c n d e f g j k l),(LC c p)]:List fB)
def xq(x:Qa):List Qa->List Qa
 |[]=>[x]
 |y::l=>if iG y.box.lo x.box.lo<0 then y::xq x l else x::y::l
def iC(l:List Qa):List Qa:=l.foldr xq []
def ja:List Qa->Bool
 |a::b::l=>decide (iG a.box.lo b.box.lo<0) &&ja (b::l)
 |_=>true
def Br(l:List Qa):Option (List Qa):=if l.length<=1000000/\(l.all λp=>decide (p.box.lo.length<=1000000))=true/\ja (iC l)=true then some (iC l)else none
theorem vT(p:Qa):qe p.toD=p.box.lo:=by
 show(p.box.lo.map Qf).map tx=p.box.lo
 rw[zF];exact List.map_id' _
theorem CO(x:Qa):∀l:List Qa,Ez x.toD (l.map Qa.toD)=(xq x l).map Qa.toD
 |[]=>rfl
 |y::l=>by
  rw[zU,Ez,xq,vT,vT];split
  .rw[zU,CO x l]
  .rfl
theorem sT:∀l:List Qa,pw (l.map Qa.toD)=(iC l).map Qa.toD
 |[]=>rfl
 |x::l=>by
  show Ez x.toD (pw (l.map Qa.toD))=_
  rw[sT l,CO];rfl
theorem tW:∀l:List Qa,nk (l.map Qa.toD)=ja l
 |[]=>rfl
 |[_]=>rfl
 |a::b::l=>by
  have:=tW (b::l);simp only[zU]at this;simp only[zU,nk,ja,vT,this]
theorem MK(l:fj):(l.map Qf).all OM=true:=by
 rw[j8];intro d c;obtain⟨n,_,rfl⟩:=ar.1 c;rfl
theorem Mu(p:Qa)(h:p.box.lo.length<=1000000):Ov p.toD=true:=by
 show(decide ((p.box.lo.map Qf).length<=1000000) &&(p.box.lo.map Qf).all OM &&fy.fits 9 p.toD)=true
 rw[MK,Qa.fit,jY];simp[h]
theorem yy(x:Qa):∀l,(xq x l).Perm (x::l)
 |[]=>.refl _
 |y::l=>by
  rw[xq];split
  .exact((yy x l).cons y).trans (.swap x y l)
  .exact .refl _
theorem lR:∀l,(iC l).Perm l
 |[]=>.refl _
 |x::l=>(yy x (iC l)).trans ((lR l).cons x)
theorem Gy{l r:List Qa}(h:Br l=some r):(l.length<=1000000/\(l.all λp=>decide (p.box.lo.length<=1000000))=true/\ja (iC l)=true)/\r=iC l:=by
 unfold Br at h;split at h
 .exact⟨by assumption,(jS h).symm⟩
 .cases h
theorem MV{P:fm}{E:Env}{f:fo}{F:List fy->Option PV}{G:List PV->List fB->Option (PV×List fB)}{args:List PV}{H H':List fB}{p:PV}(c:mO P f=true)(d:E.summ f=some F)(e:E.hsum f=some G)(h:G args H=some (p,H')):PC P E f args H p H':=
 ⟨1,λk g=>by
  obtain⟨n,rfl⟩:∃n,k=n+1:=⟨k - 1,by omega⟩;simp[jq,c,d,e,h]⟩
theorem VY{l r:List Qa}{g cap:Nat}(h:Br l=some r):
  PC prog env 153 [.ms 0 g 0 l.length cap,.dat (.raw (.func (.func 51) #[] #[]))] [.mt 62 g (cellsOf Qa.toD l)] (.tup []) [.mt 62 g (cellsOf Qa.toD r)]:=by
 obtain⟨⟨e,f,j⟩,rfl⟩:=Gy h;refine MV (by kernel_rfl) rfl rfl ?_;have k:gQ (cellsOf Qa.toD l)=some (l.map Qa.toD):=lA _ _
 have c:(l.map Qa.toD).all Ov=true:=by
  rw[j8];intro d m;obtain⟨p,n,rfl⟩:=ar.1 m;exact Mu p (of_decide_eq_true (an.1 f p n))
 simp only[Ft,k];rw[ai ⟨by simp,by simp,e,c,by rw[sT,tW];exact j⟩,sT];simp only[cellsOf,zF];rfl
theorem N1{P:fm}{E:Env}{g:List (Nat×Nat)}{o:Oper}{ρ:ft->PV}{H:List fB}{f:PV->List fB->Prop}{t kt e:fq}{m k:ft}{i j:Nat}{es:List (Value×PV)}{n K:Int}{ik:IntKind}{v:PV}(hc:n=K)(l:P.underlying t=some (.map kt e))(c:P.underlying kt=some (.int ik))(p:o.op=.lookup t m k false)(hm:ρ m=.mapv i)(q:mapOf H i=some es)(hn:ρ k=.dat (.raw (.int ik n)))(r:ye (.int ik) (.int ik K) es 0=some (some (j,v)))(s:f v H):iV P E g o ρ H f:=by
 subst hc;have u:(ρ k).toVal=some (.int ik n):=by rw[hn];rfl
 have d:mM P ρ k t es=some (.int ik n,e,some (j,v)):=by simp only[mM,l,u,c,xe,ak,r,jN]
 exact WG p hm q d s
theorem kc{n K:Int}{α:Type}{e f:Option α}{c:α}{d:Prop}(hm:(if n=K then e else f)=some c)(g:n=K->e=some c->d)(j:f=some c->d):d:=by
 by_cases h:n=K
 .rw[ai h]at hm;exact g h hm
 .rw[af h]at hm;exact j hm
theorem V7{P:fm}{E:Env}{d:List (Nat×Nat)}{o:Oper}{ρ:ft->PV}{H:List fB}{K:PV->List fB->Prop}{t e:fq}{x y:ft}{tt g len cap h:Nat}(f:h<=len)(j:fA P t=some e)(k:(fJ P e).isSome=true)(l:o.op=.slice t x none (some y) none)(m:ρ x=.ms tt g 0 len cap)(n:ρ y=Qd (h:Int))(p:K (.ms tt g 0 h (max len cap)) H):iV P E d o ρ H K:=by
 have c:iD ρ len (some y)=some h:=by simp[iD,pV,n,Qd]
 have hc:sn ρ none (some y) tt g 0 len cap=some (.ms tt g 0 h (max len cap)):=by
  simp only[sn,iD]at c |-;rw[c];simp[jW f (Nat.le_max_left _ _)]
 exact iw (λcall=>by simp only[gq,l,m,j,k,Option.isNone_none,and_self,or_true,ak,hc,jN]) p
theorem TA{P:fm}{E:Env}{d:List (Nat×Nat)}{o:Oper}{ρ:ft->PV}{H:List fB}{K:PV->List fB->Prop}{t e:fq}{x c:ft}{tt g len cap size:Nat}{n:Int}(hn:0<=n/\n.toNat<len)(f:fA P t=some e)(j:fJ P e=some size)(k:o.op=.indexAddr t x c)(hi:ρ c=Qd n)(l:ρ x=.ms tt g 0 len cap)(m:K (.mp tt g (0+pR size n.toNat)) H):iV P E d o ρ H K:=
 iw (λcall=>by simp[gq,k,hi,Qd,f,j,hn.1,l,hn.2]) m
theorem yD{size j:Nat}(h:1<size):(0+pR size j)%size=0/\(0+pR size j)/size=j:=by
 rw[zY,pR,af y8];exact⟨Nat.mul_mod_left _ _,Nat.mul_div_cancel _ y8⟩
theorem UM{P:fm}{E:Env}{d:List (Nat×Nat)}{o:Oper}{ρ:ft->PV}{H:List fB}{K:PV->List fB->Prop}{α:Type}(f:α->fy){l:List α}{n:Int}{y:α}{t e:fq}{x:ft}{tt g size:Nat}(k:idx l n=some y)(m:∀a,(f a).fits size=true)(c:decide (1<size)=true)(p:pF P t=some true)(hn:fJ P t=some size)(q:o.op=.load t x)(hw:d=[])(r:ρ x=.mp tt g (0+pR size n.toNat))(s:H[tt]?=some (.mt e g (cellsOf f l)))(u:K (.dat (f y)) H):iV P E d o ρ H K:=by
 have c:=of_decide_eq_true c;obtain⟨q1,q2⟩:=yD (j:=n.toNat) c;have hc:(cellsOf f l)[n.toNat]?=some (.dat (f y)):=by have:=gK f k;rwa [zY]at this
 exact iw (λcall=>by simp only[gq,jy,hw,q,r,p,hn,ZN s];rw[af (λh=>by omega),ai ⟨trivial,c,trivial,q1,by rw[q2,hc];simp[PV.numOf,gC (m y)]⟩,q2,hc];rfl) u
theorem Uk{P:fm}{E:Env}{d:List (Nat×Nat)}{o:Oper}{ρ:ft->PV}{H:List fB}{K:PV->List fB->Prop}{α:Type}(f:α->fy){l l2:List α}{n:Int}{y z:α}{t e:fq}{x w:ft}{tt g size:Nat}(p:iL l n y=some l2)(q:idx l n=some z)(k:∀a,(f a).fits size=true)(c:decide (1<size)=true)(hn:fJ P t=some size)(r:o.op=.store t x w)(hw:d=[])(s:ρ x=.mp tt g (0+pR size n.toNat))(u:H[tt]?=some (.mt e g (cellsOf f l)))(v:ρ w=.dat (f y))(m:K (.tup []) (H.set tt (.mt e g (cellsOf f l2)))):iV P E d o ρ H K:=by
 have c:=of_decide_eq_true c;obtain⟨q1,q2⟩:=yD (j:=n.toNat) c;obtain⟨q3,rfl⟩:=wM p;have hc:(cellsOf f l)[n.toNat]?=some (.dat (f z)):=by have:=gK f q;rwa [zY]at this
 rw[<-pQ]at m;exact iw (λcall=>by simp only[gq,r,hw,s,v,iP,hn,ZN u];rw[af (λh=>by omega),ai ⟨trivial,c,k y,q1,by rw[q2,hc];simp[PV.numOf,gC (k z)]⟩,q2]) m
theorem NZ{H:List fB}:ga H []=some ([],H):=rfl
theorem rG{H H2:List fB}{d:fy}{cs:List PV}{ds:List fy}(h:ga H cs=some (ds,H2)):ga H (.dat d::cs)=some (d::ds,H2):=by
 simp only[ga,gY,h]
theorem NH{H H2:List fB}{α:Type}(f:α->fy)(l:List α){t g m cap e:Nat}{cs:List PV}{ds:List fy}(hl:l.length=m)(d:∀a,(f a).isCell=true)(c:H[t]?=some (.mt e g (cellsOf f l)))(h:ga (H.set t (.mt e (g+1) (cellsOf f ([]:List α)))) cs=some (ds,H2)):ga H (.ms t g 0 m cap::cs)=some (.lst (l.map f)::ds,H2):=by
 have j:ga (H.set t (.mt e (g+1) [])) cs=some (ds,H2):=h;simp only[ga,gY,kG f l hl d c,ZN c,j]
theorem V0{P:fm}{E:Env}{c:List (Nat×Nat)}{o:Oper}{ρ:ft->PV}{H:List fB}{K:PV->List fB->Prop}{α:Type}(f:α->fy){l:List α}{x:ft}{tt e g m cap:Nat}(hl:l.length=m)(j:∀a,(f a).isCell=false)(k:o.op=.move x)(n:ρ x=.ms tt g 0 m cap)(d:H[tt]?=some (.mt e g (cellsOf f l)))(p:jh c=true)(q:K (.dat (.lst (l.map f))) (H.set tt (.mt e (g+1) (cellsOf f ([]:List α))))):iV P E c o ρ H K:=iw (λcall=>by
 simp only[gq,k,p,ak,n,gY,IG f l hl j d,ZN d,jN];rfl) q
theorem Ve{P:fm}{E:Env}{d:List (Nat×Nat)}{o:Oper}{ρ:ft->PV}{H H2:List fB}{K:PV->List fB->Prop}{t:fq}{c:Array (Nat×Operand)}{cs:List PV}{ds:List fy}(e:o.op=.build t c)(f:jh d=true)(g:kO P [] ρ t c H=some (.agg cs,H))(hc:ga H cs=some (ds,H2))(j:K (.dat (.agg ds)) H2):iV P E d o ρ H K:=
 iw (λcall=>by simp only[gq,e,f,ak,g,hc]) j
def yk{α c:Type}(f:α->c->Option c):List α->c->Option c
 |[],b=>some b
 |a::l,b=>f a b>>=yk f l
theorem CQ{α d:Type}{Y:Nat->Nat->List fy->yX->Option (Bool×yX)}(g:α->fy)(Hp:d->List fB){f:α->d->Option d}(e:∀a b c,f a b=some c->YE Y [g a] ⟨Hp b,none⟩ true ⟨Hp c,none⟩):∀(l:List α) (b b1:d),yk f l b=some b1->Ni Y ⟨Hp b1,none⟩ (l.map g) ⟨Hp b,none⟩
 |[],b,b1,h=>by cases h;exact .done
 |a::l,b,b1,h=>by
  obtain⟨c,j,k⟩:=Z9 h;exact .go (e a b c j) (CQ g Hp e l c b1 k)
theorem VU{P:fm}{E:Env}{hint:Pm.Hint}{f:ft}{m:Array Tmp}{assign body:Code}{st:St}{K:Ex->St->Prop}{gf:fo}{caps:List PV}{fn:Func}{c:Code}{α j:Type}(g:α->fy)(Hp:j->List fB){step:α->j->Option j}{l:List α}{n b1:j}(u:yk step l n=some b1)(v:ev st.slots f= .fn gf caps)(w:P.funcs[gf]?=some fn)(p:(fn.name== "runtime.NumGoroutine")=false)(x:fn.body=some c)(hst:(caps.all PV.still &&fn.results.isEmpty)=true)(h0:st.heap=Hp n)(q:∀(Y:Nat->Nat->List fy->yX->Option (Bool×yX)) (fin s:yX),Ni Y fin (l.map g) s->IR P E Y (E.hint gf) c ⟨⟨.undef::caps++List.replicate (fn.ntmps - (caps.length+1)) (.tup []),[]⟩,[0],s⟩ λe is=>(match e with|.exit _=>False|_=>True)/\is.out=fin)(y:∀a b k,step a b=some k->R P E hint false assign ⟨(sC st.slots m.toList [g a]).getD [],Hp b⟩ λe s=>e=.normal/\R P E hint false body s λr t=>r=.normal/\(iU st.heap.length (some []) t).heap=Hp k)(z:K .normal ⟨st.slots,Hp b1⟩)(d:∀a,(sC st.slots m.toList [g a]).isSome=true:=by intro a;kernel_rfl):R P E hint true (.rangeFunc f m assign body) st K:=by
 refine V9 v w p x hst ?_;rw[h0];refine(q _ _ _ (CQ g Hp (λa b k h=>?_) l n b1 u)).mono λe is h=>⟨h.1,by rw[h.2];exact z⟩
 obtain⟨sl,e⟩:=aA.1 (d a);have:=y a b k h;rw[e,h0]at this;refine Lv e ?_;obtain⟨D,F,A,rfl,r,t,B,rfl,C⟩:=this;exact⟨_,_,A,rfl,_,_,B,⟨rfl,by rw[C]⟩⟩
theorem HT{h0:Nat}{st:St}{sl:List PV}{H:List fB}(h:iU h0 (some []) st=⟨sl,H⟩):(iU h0 (some []) st).heap=H:=by rw[h]
theorem Wi(N:Nat){P:fm}{E:Env}{p:List (Nat×Nat)}{o:Oper}{ρ:ft->PV}{H:List fB}{K:PV->List fB->Prop}{α:Type}(f:α->fy){z:α}{l:List α}{n:Int}{t e:fq}{os:List (Nat×TypeId)}{g j:ft}{bytes size:Nat}(d:jb bytes n z=some l)(q:fA P t=some e)(r:fL P e=some (f z))(s:fJ P e=some size)(u:bytesOf P e=some bytes)(v:decide (1<size)=true)(w:(f z).fits size=true)(h0:decide (0<bytes)=true)(x:o.op=.makeSlice t g j)(hl:ρ g=Qd n)(hc:ρ j=Qd n)(hw:p=(1000,e)::os)(y:K (.ms N (mg l) 0 l.length l.length) (H++[.mt e (mg l) (cellsOf f l)]))(A:H.length=N:=by kernel_rfl):iV P E p o ρ H K:=by
 subst A;unfold jb at d;split at d
 .rename_i k;cases d;have m:ρ g=.dat (.raw (.int .i64 n)):=hl;have c:ρ j=.dat (.raw (.int .i64 n)):=hc;refine iw (λcall=>?_) y;simp only[gq,x,hw,show¬8000<=1000 by omega,aj,ak,q,r,s,u,m,c,and_self,oJ];rw[ai ⟨k.1,k.2.1,k.2.2,of_decide_eq_true h0,.inr ⟨of_decide_eq_true v,w⟩⟩];by_cases hn:n=0
  .subst hn;simp[mg,cellsOf]
  .have:n.toNat≠0:=by omega
   have B:mg (List.replicate n.toNat z)=1:=by simp[mg,this]
   have C:cellsOf f (List.replicate n.toNat z)=List.replicate n.toNat (.dat (f z)):=by simp[cellsOf]
   rw[af hn,B,C,zJ]
 .cases d
def RW(x:Unit):Option Bool:=some true
def Ww:Unit->Bool->Prop:=λx r=>∀H,PC prog env 7 ([].map .dat) H (Qp r) H
theorem TO:∀x r,RW x=some r->Ww x r:=by
 intro x r hm;cases hm;intro H;exact IS (n:=200) (by kernel_rfl)
mutual
def Yh (x:(Qb×Int×Int)):Option (Int):=
 match x with
 |(p0,c,d)=>
 (if d<(p0.kids.length:Int)then
  some (decide (c>=0))
 else
 some false
 )>>=λ(e:Bool)=>
 if e=true then
  idx p0.kids d>>=λf=>
  Jx (f,c)>>=λg=>
  Yh (p0,g,(W (d+1)))
 else
 some c
 partial_fixpoint
def Jx (x:(Qb×Int)):Option Int:=
 match x with
 |(p0,p1)=>
 ((if(p0.shape.length:Int)>40 then
  some true
 else
 some (decide ((p0.starts.length:Int)>40))
 )>>=λ(v2:Bool)=>
 if v2=true then
  some true
 else
 some (decide ((p0.perm.length:Int)>40))
 )>>=λ(k:Bool)=>
 if k=true then
  some (-1)
 else
 Yh (p0,(W (p1 - 1)),0)>>=λj=>
 some j
 partial_fixpoint
end
def Rl:(Qb×Int×Int)->(Int)->Prop:=λx r=>match x with
 |(p0,c,e)=>LQ f61 61 [1,1,1,0,1,0,0] 1 ⟨kp 43 [(1,(Qd c)),(2,(.ptr 0 0)),(5,(Qd e))],(QJ p0.kind p0.shape p0.buffer p0.starts p0.axis p0.amount p0.perm p0.kids)⟩ (P1 (.exit 0) (λf d=>⟨sl d 43 [(1,(Qd f))],(QJ p0.kind p0.shape p0.buffer p0.starts p0.axis p0.amount p0.perm p0.kids)⟩) r)
def R4:(Qb×Int)->Int->Prop:=λx r=>match x,r with
 |(p0,p1),c=>∀H,PC prog env 61 ([(Qb.ex p0),(Qf p1)].map .dat) H (Qd c) H
theorem pA:(∀x r,Yh x=some r->Rl x r)/\(∀x r,Jx x=some r->R4 x r):=by
 refine Yh.mutual_partial_correctness Rl R4 ?_ ?_
 .intro Yh Jx R2 SE x r hm;unfold Rl;obtain⟨p0,f,e⟩:=x;exact lp (Qg (Qg (bi hm λg k hm=>Xe (λd=>⟨sl d 43 [(1,(Qd f)),(2,(.ptr 0 0)),(5,(Qd e)),(32,(Qp g))],(QJ p0.kind p0.shape p0.buffer p0.starts p0.axis p0.amount p0.perm p0.kids)⟩) (have hm:=k;gd (Qe 3 (G3 Qb.toD p0.kids (es:=Qb.toDs p0.kids) (Qb.toDs_eq _) (Qe 2 (gs 29 hm (λhm=>re 3 zf) (λhm=>re 3 zf)))))) (λd=>mr hm (λhm=>Qr (Qg (Qo (gd (Qe 3 (bi hm λc l hm=>Ji 8 Qb.toD p0.kids e c (es:=Qb.toDs p0.kids) (d:=(Qb.ex c)) (Qb.toDs_eq _) l (Qb.toD_eq c) rfl (Qe 2 (bi hm λm l hm=>Y3 (SE _ _ l []) (re 1 (gd (re 3 (R2 _ _ hm _ kr)))))))))))) (λhm=>QO zf)))))
 .intro Yh R2 x q hm;unfold R4;obtain⟨p0,p1⟩:=x;intro H;refine sA (ds:=[(Qb.ex p0),(Qf p1)]) (fn:=f61) rfl ?_;exact ge 2 (ge 3 (Qg (Qg (bi hm λp k hm=>Xe (λd=>⟨sl d 43 [(1,(Qd (W (p1 - 1)))),(2,(.ptr 0 0)),(23,(Qp p))],(QJ p0.kind p0.shape p0.buffer p0.starts p0.axis p0.amount p0.perm p0.kids)⟩) (have hm:=k;HE (Qe 2 (QZ Qf p0.shape (Qe 2 (bi hm λv2 k hm=>Yy (j:=10) (λd=>⟨sl d 43 [(1,(Qd (W (p1 - 1)))),(2,(.ptr 0 0)),(17,(Qp v2))],(QJ p0.kind p0.shape p0.buffer p0.starts p0.axis p0.amount p0.perm p0.kids)⟩) (λd=>Qe 1 (mU 18 hm (λhm=>re 5 ⟨kr,zf⟩) (λhm=>Qe 2 (QZ Qf p0.perm (re 2 ⟨kr,zf⟩))))) (λhJ=>gs 12 k (λhm=>Qe 5 zf) (λhm=>Qe 2 (QZ Qf p0.starts (Qe 2 zf))))))))) (λd=>mr hm (λhm=>ge 1 (Qn zf)) (λhm=>Qr (Qg (ge 1 (Qo (nA hm (R2 _) λn d hm=>ge 2 (Qn zf)))))))))))
theorem R2:∀x r,Yh x=some r->Rl x r:=pA.1
theorem SE:∀x r,Jx x=some r->R4 x r:=pA.2
def PF(x:(Qb×Int)):Option Bool:=
 match x with
 |(p0,p1)=>
 Jx (p0,p1)>>=λc=>
 some (decide (c>=0))
theorem UU{p0 p1 r0}(hm:PF (p0,p1)=some r0):FQ 28 [(Qb.ex p0),(Qf p1)] (Qp r0):=by
 unfold PF at hm;exact fp (fn:=f28) rfl (ge 2 (gr 2 (bi hm λd c hm=>Y3 (SE _ _ c []) (re 2 (Qn zf)))))
mutual
def ZU (x:(Qb×Int×Int)):Option (Int):=
 match x with
 |(p0,c,d)=>
 if d<(p0.kids.length:Int)then
  idx p0.kids d>>=λf=>
  X2 f>>=λe=>
  ZU (p0,(if c<e then e else c),(W (d+1)))
 else
 some c
 partial_fixpoint
def X2 (x:Qb):Option Int:=
 match x with
 |p0=>
 ZU (p0,0,0)>>=λg=>
 some (W (g+1))
 partial_fixpoint
end
def Rx:(Qb×Int×Int)->(Int)->Prop:=λx r=>match x with
 |(p0,c,e)=>LQ f62 62 [1,1,0,1,0,0] 1 ⟨kp 22 [(1,(.ptr 0 0)),(3,(Qd c)),(4,(Qd e))],(QJ p0.kind p0.shape p0.buffer p0.starts p0.axis p0.amount p0.perm p0.kids)⟩ (P1 (.exit 0) (λf d=>⟨sl d 22 [(3,(Qd f))],(QJ p0.kind p0.shape p0.buffer p0.starts p0.axis p0.amount p0.perm p0.kids)⟩) r)
def Rp:Qb->Int->Prop:=λx r=>match x,r with
 |p0,c=>∀H,PC prog env 62 ([(Qb.ex p0)].map .dat) H (Qd c) H
theorem nO:(∀x r,ZU x=some r->Rx x r)/\(∀x r,X2 x=some r->Rp x r):=by
 refine ZU.mutual_partial_correctness Rx Rp ?_ ?_
 .intro ZU X2 RS SJ x r hm;unfold Rx;obtain⟨p0,e,f⟩:=x;exact lp (Qg (gr 3 (G3 Qb.toD p0.kids (es:=Qb.toDs p0.kids) (Qb.toDs_eq _) (re 1 (ri hm (λhm=>Qr (Qg (Qo (gd (Qe 4 (bi hm λc j hm=>Ji 8 Qb.toD p0.kids f c (es:=Qb.toDs p0.kids) (d:=(Qb.ex c)) (Qb.toDs_eq _) j (Qb.toD_eq c) rfl (Qe 1 (bi hm λg j hm=>Y3 (SJ _ _ j []) (QB rfl (λ_=>NB (k:=.i64) (m:=e) (n:=g) rfl kr kr) (re 1 (gd (re 3 (RS _ _ hm _ kr))))))))))))) (λhm=>QO zf))))))
 .intro ZU RS p0 p hm;unfold Rp;intro H;refine sA (ds:=[(Qb.ex p0)]) (fn:=f62) rfl ?_;exact ge 2 (ge 1 (Qg (ge 1 (Qo (nA hm (RS _) λl d hm=>ge 3 (Qn zf))))))
theorem RS:∀x r,ZU x=some r->Rx x r:=nO.1
theorem SJ:∀x r,X2 x=some r->Rp x r:=nO.2
def Zr(x:((fj)×Bool×Int)):Option (Unit⊕ Bool):=
 match x with
 |(p0,d,c)=>
 if c<(p0.length:Int)then
  idx p0 c>>=λe=>
  if e<0 then
   some (Sum.inl ())
  else
  if d=true then
   Zr (p0,true,(W (c+1)))
  else
  idx p0 c>>=λf=>
  Zr (p0,(f==0),(W (c+1)))
 else
 some (Sum.inr d)
 partial_fixpoint
theorem JA:∀x r,Zr x=some r->match x with|(p0,c,e)=>LQ f60 60 [1,1,0,1,0,0] 0 ⟨kp 55 [(0,(La p0)),(4,(Qp c)),(5,(Qd e))],[]⟩ (P2 .ret (λ_ d=>⟨sl d 55 [(2,(Qd 0)),(3,(Qd 6))],[]⟩) (.exit 0) (λf d=>⟨sl d 55 [(0,(La p0)),(4,(Qp f))],[]⟩) r):=by
 refine Zr.partial_correctness _ (λZr JA x r hm=>?_);obtain⟨p0,c,e⟩:=x;exact lp (Qg (gr 2 (QZ Qf p0 (re 1 (ri hm (λhm=>Qr (Qg (Qo (Qg (gr 2 (QY 1 Qf hm λg hm=>re 2 (ri hm (λhm=>ge 2 (Qn zf)) (λhm=>Qr (gd (Qe 2 (mU 21 hm (λhm=>re 7 (gd (re 3 (JA _ _ hm _ kr)))) (λhm=>Qe 2 (QY 1 Qf hm λj hm=>re 4 (gd (re 3 (JA _ _ hm _ kr)))))))))))))))) (λhm=>QO zf))))))
def ZB(x:((fj)×Bool×Int)):Option (Unit⊕ Unit):=
 match x with
 |(p0,e,c)=>
 if c<(p0.length:Int)then
  idx p0 c>>=λd=>
  if d>65536 then
   some (Sum.inl ())
  else
  ZB (p0,e,(W (c+1)))
 else
 some (Sum.inr ())
 partial_fixpoint
theorem Sv:∀x r,ZB x=some r->match x with|(p0,c,e)=>LQ f60 60 [1,1,1,0,1,0,0] 0 ⟨kp 55 [(0,(La p0)),(4,(Qp c)),(6,(Qd e))],[]⟩ (P2 .ret (λ_ d=>⟨sl d 55 [(2,(Qd 0)),(3,(Qd 7))],[]⟩) (.exit 2) (λ_ d=>⟨sl d 55 [(0,(La p0)),(4,(Qp c))],[]⟩) r):=by
 refine ZB.partial_correctness _ (λZB Sv x r hm=>?_);obtain⟨p0,c,e⟩:=x;exact lp (Qg (gr 2 (QZ Qf p0 (re 1 (ri hm (λhm=>Qr (Qg (Qo (gr 2 (QY 1 Qf hm λf hm=>re 2 (ri hm (λhm=>ge 2 (Qn zf)) (λhm=>Qr (gd (re 3 (Sv _ _ hm _ kr)))))))))) (λhm=>QO zf))))))
def ZC(x:((fj)×Int×Int)):Option (Unit⊕ Int):=
 match x with
 |(p0,c,d)=>
 if d<(p0.length:Int)then
  idx p0 d>>=λe=>
  if(W (c*e))>65536 then
   some (Sum.inl ())
  else
  ZC (p0,(W (c*e)),(W (d+1)))
 else
 some (Sum.inr c)
 partial_fixpoint
theorem Sh:∀x r,ZC x=some r->match x with|(p0,c,e)=>LQ f60 60 [1,1,1,1,1,1,0,1,0,0] 0 ⟨kp 55 [(0,(La p0)),(7,(Qd c)),(8,(Qd e))],[]⟩ (P2 .ret (λ_ d=>⟨sl d 55 [(2,(Qd 0)),(3,(Qd 7))],[]⟩) (.exit 4) (λf d=>⟨sl d 55 [(7,(Qd f))],[]⟩) r):=by
 refine ZC.partial_correctness _ (λZC Sh x r hm=>?_);obtain⟨p0,c,e⟩:=x;exact lp (Qg (gr 2 (QZ Qf p0 (re 1 (ri hm (λhm=>Qr (Qg (Qo (gr 3 (QY 1 Qf hm λg hm=>re 3 (ge 2 (ri hm (λhm=>ge 2 (Qn zf)) (λhm=>Qr (gd (re 3 (Sh _ _ hm _ kr))))))))))) (λhm=>QO zf))))))
def XT(x:(fj)):Option (Int×Int):=
 match x with
 |p0=>
 (
 Zr (p0,false,0)>>=λout=>
 match out with
 | .inl _=>
  some (0,6)
 | .inr (c)=>
  (
  ZB (p0,c,0)>>=λout=>
  match out with
  | .inl _=>
   some (0,7)
  | .inr (_)=>
   if c=true then
    some (0,0)
   else
   (
   ZC (p0,1,0)>>=λout=>
   match out with
   | .inl _=>
    some (0,7)
   | .inr (d)=>
    some (d,0)
   )
  )
 )
theorem T7{p0 r0 r1}(hm:XT p0=some (r0,r1)):FQ 60 [(Lb p0)] (.tup [(Qd r0),(Qd r1)]):=by
 unfold XT at hm;exact fp (fn:=f60) rfl (ge 2 (ge 1 (Qg (ge 1 (Qo (rN hm (JA _) (λ_ d hm=>zf) λe d hm=>Qg (ge 1 (Qo (rN hm (Sv _) (λ_ d hm=>zf) λ_ d hm=>Qg (ge 1 (mr hm (λhm=>ge 2 (Qn zf)) (λhm=>Qr (ge 1 (Qg (ge 1 (Qo (rN hm (Sh _) (λ_ d hm=>zf) λc d hm=>ge 3 (Qn zf))))))))))))))))))
def Yl(x:((fj)×Int)):Option (Unit⊕ Unit):=
 match x with
 |(p0,c)=>
 if c<(p0.length:Int)then
  idx p0 c>>=λd=>
  if d<0 then
   some (Sum.inl ())
  else
  Yl (p0,(W (c+1)))
 else
 some (Sum.inr ())
 partial_fixpoint
theorem Te:∀x r,Yl x=some r->match x with|(p0,c)=>LQ f59 59 [1,0,1,0,0] 0 ⟨kp 29 [(0,(La p0)),(3,(Qd c))],[]⟩ (P2 .ret (λ_ d=>⟨sl d 29 [(2,(Qd 6))],[]⟩) (.exit 0) (λ_ d=>⟨sl d 29 [(0,(La p0))],[]⟩) r):=by
 refine Yl.partial_correctness _ (λYl Te x r hm=>?_);obtain⟨p0,c⟩:=x;exact lp (Qg (gr 2 (QZ Qf p0 (re 1 (ri hm (λhm=>Qr (Qg (Qo (gr 2 (QY 1 Qf hm λe hm=>re 2 (ri hm (λhm=>ge 1 (Qn zf)) (λhm=>Qr (gd (re 3 (Te _ _ hm _ kr)))))))))) (λhm=>QO zf))))))
def XE(x:(fj)):Option Int:=
 match x with
 |p0=>
 (
 Yl (p0,0)>>=λout=>
 match out with
 | .inl _=>
  some 6
 | .inr (_)=>
  XT p0>>=λ(e,c)=>
  (if(p0.length:Int)>16 then
   some true
  else
  some (c !=0)
  )>>=λ(d:Bool)=>
  if d=true then
   some 7
  else
  some 0
 )
theorem Tw{p0 r0}(hm:XE p0=some r0):FQ 59 [(Lb p0)] (Qd r0):=by
 unfold XE at hm;exact fp (fn:=f59) rfl (ge 1 (Qg (ge 1 (Qo (rN hm (Te _) (λ_ d hm=>zf) λ_ d hm=>gr 1 (uy hm λe f g hm=>cp (T7 g) (re 5 (Qg (Qg (bi hm λc j hm=>Xe (λd=>⟨sl d 29 [(28,(Qp c))],[]⟩) (have hm:=j;gd (Qe 1 (QZ Qf p0 (Qe 2 (gs 25 hm (λhm=>re 3 zf) (λhm=>re 3 zf)))))) (λd=>mr hm (λhm=>ge 1 (Qn zf)) (λhm=>Qr (ge 1 (Qn zf))))))))))))))
def Ym(x:((fj)×(fj)×Int)):Option (Unit⊕ Unit):=
 match x with
 |(p0,p1,c)=>
 if c<(p0.length:Int)then
  idx p0 c>>=λd=>
  idx p1 c>>=λe=>
  if d≠e then
   some (Sum.inl ())
  else
  Ym (p0,p1,(W (c+1)))
 else
 some (Sum.inr ())
 partial_fixpoint
theorem SU:∀x r,Ym x=some r->match x with|(p0,p1,c)=>LQ f27 27 [1,1,0,1,0,0] 0 ⟨kp 26 [(0,(La p0)),(1,(La p1)),(5,(Qd c))],[]⟩ (P2 .ret (λ_ d=>⟨sl d 26 [(4,(Qp false))],[]⟩) (.exit 0) (λ_ d=>⟨sl d 26 [],[]⟩) r):=by
 refine Ym.partial_correctness _ (λYm SU x r hm=>?_);obtain⟨p0,p1,c⟩:=x;exact lp (Qg (gr 2 (QZ Qf p0 (re 1 (ri hm (λhm=>Qr (Qg (Qo (Qg (ZP (Qe 2 (QY 1 Qf hm λe hm=>Qe 3 (QY 1 Qf hm λf hm=>re 2 ⟨kr,Eo hm (λhm=>ge 1 (Qn zf)) (λhm=>Qr (gd (re 3 (SU _ _ hm _ kr))))⟩)))))))) (λhm=>QO zf))))))
def XF(x:((fj)×(fj))):Option Bool:=
 match x with
 |(p0,p1)=>
 if(p0.length:Int)≠(p1.length:Int)then
  some false
 else
 (
 Ym (p0,p1,0)>>=λout=>
 match out with
 | .inl _=>
  some false
 | .inr (_)=>
  some true
 )
theorem Ur{p0 p1 r0}(hm:XF (p0,p1)=some r0):FQ 27 [(Lb p0),(Lb p1)] (Qp r0):=by
 unfold XF at hm;exact fp (fn:=f27) rfl (ge 1 (Qg (gr 1 (QZ Qf p0 (Qe 1 (QZ Qf p1 (re 1 (Eo hm (λhm=>ge 1 (Qn zf)) (λhm=>Qr (Qg (ge 1 (Qo (rN hm (SU _) (λ_ d hm=>zf) λ_ d hm=>ge 1 (Qn zf))))))))))))))
def JK(x:Qb):Option Bool:=
 match x with
 |p0=>
 idx p0.kids 0>>=λc=>
 XF (c.shape,p0.shape)>>=λv2=>
 (if v2=true then
  some (decide (p0.axis>=0))
 else
 some false
 )>>=λ(d:Bool)=>
 if d=true then
  some (decide (p0.axis<(p0.shape.length:Int)))
 else
 some false
theorem T0{p0 r0}(hm:JK p0=some r0):FQ 148 [(Qb.ex p0)] (Qp r0):=by
 unfold JK at hm;exact fp (fn:=f148) rfl (ge 2 (Qg (Nx (Qe 2 (bi hm λc e hm=>Ji 8 Qb.toD p0.kids 0 c (es:=Qb.toDs p0.kids) (d:=(Qb.ex c)) (Qb.toDs_eq _) e (Qb.toD_eq c) rfl (Qe 4 (bi hm λv2 e hm=>cp (Ur e) (Qe 1 (bi hm λf g hm=>Yy (j:=13) (λd=>⟨sl d 24 [(1,(.ptr 0 0)),(2,(Qp false)),(15,(Qp f))],(QJ p0.kind p0.shape p0.buffer p0.starts p0.axis p0.amount p0.perm p0.kids)⟩) (λd=>Qe 1 (mU 16 hm (λhm=>Qe 4 (QZ Qf p0.shape (re 3 ⟨kr,Qn zf⟩))) (λhm=>re 8 ⟨kr,Qn zf⟩))) (λhJ=>mU 11 g (λhm=>Qe 4 zf) (λhm=>Qe 4 zf)))))))))))
def Zi(x:(Qb×Qb×Int)):Option (Unit⊕ Unit):=
 match x with
 |(g,p0,c)=>
 if c<(g.shape.length:Int)then
  (idx p0.perm c>>=λd=>
  if d<0 then
   some true
  else
  idx p0.perm c>>=λe=>
  some (decide (e>=(p0.shape.length:Int)))
  )>>=λ(f:Bool)=>
  if f=true then
   some (Sum.inl ())
  else
  Zi (g,p0,(W (c+1)))
 else
 some (Sum.inr ())
 partial_fixpoint
theorem JP:∀x r,Zi x=some r->match x with|(e,p0,c)=>LQ f149 149 [1,1,1,0,1,0,0] 1 ⟨kp 85 [(1,(.ptr 0 0)),(3,(La e.shape)),(4,(Qd c))],(QJ p0.kind p0.shape p0.buffer p0.starts p0.axis p0.amount p0.perm p0.kids)⟩ (P2 .ret (λ_ d=>⟨sl d 85 [(2,(Qp false))],(QJ p0.kind p0.shape p0.buffer p0.starts p0.axis p0.amount p0.perm p0.kids)⟩) (.exit 0) (λ_ d=>⟨sl d 85 [(1,(.ptr 0 0)),(3,(La e.shape))],(QJ p0.kind p0.shape p0.buffer p0.starts p0.axis p0.amount p0.perm p0.kids)⟩) r):=by
 refine Zi.partial_correctness _ (λZi JP x r hm=>?_);obtain⟨e,p0,c⟩:=x;exact lp (Qg (gr 2 (QZ Qf e.shape (re 1 (ri hm (λhm=>Qr (Qg (Qo (Qg (bi hm λf k hm=>Xe (λd=>⟨sl d 85 [(1,(.ptr 0 0)),(3,(La e.shape)),(4,(Qd c)),(41,(Qp f))],(QJ p0.kind p0.shape p0.buffer p0.starts p0.axis p0.amount p0.perm p0.kids)⟩) (have hm:=k;ZP (Qe 3 (QY 1 Qf hm λg hm=>Qe 3 (gs 31 hm (λhm=>re 10 ⟨kr,zf⟩) (λhm=>Qe 3 (QY 1 Qf hm λj hm=>Qe 3 (QZ Qf p0.shape (re 2 ⟨kr,zf⟩)))))))) (λd=>mr hm (λhm=>ge 1 (Qn zf)) (λhm=>Qr (gd (re 3 (JP _ _ hm _ kr)))))))))) (λhm=>QO zf))))))
def Q8(x:(Qb×Qb×Int×Int×Int)):Option (Int):=
 match x with
 |(l,p0,e,d,c)=>
 if c<(l.shape.length:Int)then
  (idx p0.perm c>>=λf=>
  if f=e then
   if d<0 then
    some true
   else
   idx l.shape c>>=λg=>
   some (decide (g<d))
  else
  some false
  )>>=λ(j:Bool)=>
  if j=true then
   idx l.shape c>>=λk=>
   Q8 (l,p0,e,k,(W (c+1)))
  else
  Q8 (l,p0,e,d,(W (c+1)))
 else
 some d
 partial_fixpoint
theorem XP:∀x r,Q8 x=some r->match x with|(k,p0,f,c,e)=>LQ f149 149 [1,1,1,1,0,1,0,0,1,0,0,1,0,1,0,0] 1 ⟨kp 85 [(1,(.ptr 0 0)),(3,(La k.shape)),(5,(Qd f)),(6,(Qd c)),(7,(Qd e))],(QJ p0.kind p0.shape p0.buffer p0.starts p0.axis p0.amount p0.perm p0.kids)⟩ (P1 (.exit 4) (λg d=>⟨sl d 85 [(1,(.ptr 0 0)),(3,(La k.shape)),(5,(Qd f)),(6,(Qd g))],(QJ p0.kind p0.shape p0.buffer p0.starts p0.axis p0.amount p0.perm p0.kids)⟩) r):=by
 refine Q8.partial_correctness _ (λQ8 XP x r hm=>?_);obtain⟨k,p0,f,c,e⟩:=x;exact lp (Qg (gr 2 (QZ Qf k.shape (re 1 (ri hm (λhm=>Qr (Qg (Qo (Qg (bi hm λj p hm=>Xe (λd=>⟨sl d 85 [(1,(.ptr 0 0)),(3,(La k.shape)),(5,(Qd f)),(6,(Qd c)),(7,(Qd e)),(73,(Qp j))],(QJ p0.kind p0.shape p0.buffer p0.starts p0.axis p0.amount p0.perm p0.kids)⟩) (have hm:=p;gd (Qe 3 (QY 1 Qf hm λl hm=>Qe 4 (HD 62 hm (λhm=>Qe 3 (gs 65 hm (λhm=>re 8 zf) (λhm=>Qe 2 (QY 1 Qf hm λm hm=>re 5 zf)))) (λhm=>re 11 zf))))) (λd=>mr hm (λhm=>gd (Qe 2 (QY 1 Qf hm λn hm=>re 2 (gd (re 3 (XP _ _ hm _ kr)))))) (λhm=>Qr (gd (re 3 (XP _ _ hm _ kr)))))))))) (λhm=>QO zf))))))
def Zj(x:(Qb×Qb×Int)):Option (Unit⊕ Unit):=
 match x with
 |(p0,f,c)=>
 if c<(p0.shape.length:Int)then
  Q8 (f,p0,c,(-1),0)>>=λd=>
  idx p0.shape c>>=λe=>
  if d≠e then
   some (Sum.inl ())
  else
  Zj (p0,f,(W (c+1)))
 else
 some (Sum.inr ())
 partial_fixpoint
theorem JQ:∀x r,Zj x=some r->match x with|(p0,g,c)=>LQ f149 149 [1,1,1,1,0,1,0,0] 1 ⟨kp 85 [(1,(.ptr 0 0)),(3,(La g.shape)),(5,(Qd c))],(QJ p0.kind p0.shape p0.buffer p0.starts p0.axis p0.amount p0.perm p0.kids)⟩ (P2 .ret (λ_ d=>⟨sl d 85 [(2,(Qp false))],(QJ p0.kind p0.shape p0.buffer p0.starts p0.axis p0.amount p0.perm p0.kids)⟩) (.exit 2) (λ_ d=>⟨sl d 85 [],(QJ p0.kind p0.shape p0.buffer p0.starts p0.axis p0.amount p0.perm p0.kids)⟩) r):=by
 refine Zj.partial_correctness _ (λZj JQ x r hm=>?_);obtain⟨p0,g,c⟩:=x;exact lp (Qg (gr 3 (QZ Qf p0.shape (re 1 (ri hm (λhm=>Qr (Qg (Qo (ge 1 (Qg (ge 1 (Qo (nA hm (XP _) λe d hm=>gr 4 (QY 1 Qf hm λf hm=>re 2 (Eo hm (λhm=>ge 1 (Qn zf)) (λhm=>Qr (gd (re 3 (JQ _ _ hm _ kr)))))))))))))) (λhm=>QO zf))))))
def Xa(x:Qb):Option Bool:=
 match x with
 |p0=>
 idx p0.kids 0>>=λc=>
 if(p0.perm.length:Int)≠(c.shape.length:Int)then
  some false
 else
 (
 Zi (c,p0,0)>>=λout=>
 match out with
 | .inl _=>
  some false
 | .inr (_)=>
  (
  Zj (p0,c,0)>>=λout=>
  match out with
  | .inl _=>
   some false
  | .inr (_)=>
   some true
  )
 )
theorem UO{p0 r0}(hm:Xa p0=some r0):FQ 149 [(Qb.ex p0)] (Qp r0):=by
 unfold Xa at hm;exact fp (fn:=f149) rfl (ge 2 (gr 2 (bi hm λc e hm=>Ji 8 Qb.toD p0.kids 0 c (es:=Qb.toDs p0.kids) (d:=(Qb.ex c)) (Qb.toDs_eq _) e (Qb.toD_eq c) rfl (re 3 (Qg (gr 2 (QZ Qf p0.perm (Qe 1 (QZ Qf c.shape (re 1 (Eo hm (λhm=>ge 1 (Qn zf)) (λhm=>Qr (Qg (ge 1 (Qo (rN hm (JP _) (λ_ d hm=>zf) λ_ d hm=>Qg (ge 1 (Qo (rN hm (JQ _) (λ_ d hm=>zf) λ_ d hm=>ge 1 (Qn zf))))))))))))))))))))
def Z7(x:(Qb×Qb×Qb×Int)):Option (Unit⊕ Unit):=
 match x with
 |(d,p0,v2,c)=>
 if c<(d.shape.length:Int)then
  ((if c=p0.axis then
   idx p0.shape c>>=λe=>
   idx d.shape c>>=λf=>
   idx v2.shape c>>=λg=>
   some (e !=(W (f+g)))
  else
  some false
  )>>=λ(j:Bool)=>
  if j=true then
   some true
  else
  if c≠p0.axis then
   idx d.shape c>>=λk=>
   idx v2.shape c>>=λl=>
   (if k≠l then
    some true
   else
   idx d.shape c>>=λm=>
   idx p0.shape c>>=λn=>
   some (m !=n)
   )>>=λ(p:Bool)=>
   some p
  else
  some false
  )>>=λ(q:Bool)=>
  if q=true then
   some (Sum.inl ())
  else
  Z7 (d,p0,v2,(W (c+1)))
 else
 some (Sum.inr ())
 partial_fixpoint
theorem S4:∀x r,Z7 x=some r->match x with|(e,p0,v2,c)=>LQ f150 150 [1,1,1,1,0,1,0,0] 1 ⟨kp 97 [(1,(.ptr 0 0)),(3,(La e.shape)),(4,(La v2.shape)),(5,(Qd c))],(QJ p0.kind p0.shape p0.buffer p0.starts p0.axis p0.amount p0.perm p0.kids)⟩ (P2 .ret (λ_ d=>⟨sl d 97 [(2,(Qp false))],(QJ p0.kind p0.shape p0.buffer p0.starts p0.axis p0.amount p0.perm p0.kids)⟩) (.exit 0) (λ_ d=>⟨sl d 97 [],(QJ p0.kind p0.shape p0.buffer p0.starts p0.axis p0.amount p0.perm p0.kids)⟩) r):=by
 refine Z7.partial_correctness _ (λZ7 S4 x r hm=>?_);obtain⟨e,p0,v2,c⟩:=x
 exact lp (Qg (gr 2 (QZ Qf e.shape (re 1 (ri hm (λhm=>Qr (Qg (Qo (Qg (bi hm λf g hm=>Xe (λd=>⟨sl d 97 [(1,(.ptr 0 0)),(3,(La e.shape)),(4,(La v2.shape)),(5,(Qd c)),(96,(Qp f))],(QJ p0.kind p0.shape p0.buffer p0.starts p0.axis p0.amount p0.perm p0.kids)⟩) (have hm:=g;Nx (Qe 5 (bi hm λk g hm=>Yy (j:=21) (λd=>⟨sl d 97 [(1,(.ptr 0 0)),(3,(La e.shape)),(4,(La v2.shape)),(5,(Qd c)),(67,(Qp k))],(QJ p0.kind p0.shape p0.buffer p0.starts p0.axis p0.amount p0.perm p0.kids)⟩) (λd=>Qe 1 (mU 68 hm (λhm=>re 28 ⟨kr,zf⟩) (λhm=>Qe 5 (LB 73 hm (λhm=>Qe 2 (QY 1 Qf hm λm hm=>Qe 3 (QY 1 Qf hm λn hm=>Qe 3 (bi hm λl g hm=>Yy (j:=48) (λd=>⟨sl d 97 [(1,(.ptr 0 0)),(3,(La e.shape)),(4,(La v2.shape)),(5,(Qd c)),(68,(Qp false)),(73,(Qp true)),(94,(Qp l))],(QJ p0.kind p0.shape p0.buffer p0.starts p0.axis p0.amount p0.perm p0.kids)⟩) (λd=>re 2 ⟨kr,zf⟩) (λhJ=>LB 83 g (λhm=>Qe 11 zf) (λhm=>Qe 2 (QY 1 Qf hm λp hm=>Qe 4 (QY 1 Qf hm λq hm=>Qe 3 zf)))))))) (λhm=>re 23 ⟨kr,zf⟩))))) (λhJ=>HD 51 g (λhm=>Qe 3 (QY 1 Qf hm λs hm=>Qe 3 (QY 1 Qf hm λt hm=>Qe 3 (QY 1 Qf hm λu hm=>Qe 4 zf)))) (λhm=>Qe 16 zf))))) (λd=>mr hm (λhm=>ge 1 (Qn zf)) (λhm=>Qr (gd (re 3 (S4 _ _ hm _ kr)))))))))) (λhm=>QO zf))))))
def J3(x:Qb):Option Bool:=
 match x with
 |p0=>
 idx p0.kids 0>>=λc=>
 idx p0.kids 1>>=λv2=>
 ((if(c.shape.length:Int)≠(v2.shape.length:Int)then
  some true
 else
 some ((c.shape.length:Int) !=(p0.shape.length:Int))
 )>>=λ(d:Bool)=>
 (if d=true then
  some true
 else
 some (decide (p0.axis<0))
 )>>=λ(e:Bool)=>
 if e=true then
  some true
 else
 some (decide (p0.axis>=(c.shape.length:Int)))
 )>>=λ(f:Bool)=>
 if f=true then
  some false
 else
 (
 Z7 (c,p0,v2,0)>>=λout=>
 match out with
 | .inl _=>
  some false
 | .inr (_)=>
  some true
 )
theorem V4{p0 r0}(hm:J3 p0=some r0):FQ 150 [(Qb.ex p0)] (Qp r0):=by
 unfold J3 at hm
 exact fp (fn:=f150) rfl (ge 2 (gr 2 (bi hm λc f hm=>Ji 8 Qb.toD p0.kids 0 c (es:=Qb.toDs p0.kids) (d:=(Qb.ex c)) (Qb.toDs_eq _) f (Qb.toD_eq c) rfl (re 3 (gr 2 (bi hm λv2 f hm=>Ji 8 Qb.toD p0.kids 1 v2 (es:=Qb.toDs p0.kids) (d:=(Qb.ex v2)) (Qb.toDs_eq _) f (Qb.toD_eq v2) rfl (re 3 (Qg (Qg (bi hm λg e hm=>Xe (λd=>⟨sl d 97 [(1,(.ptr 0 0)),(3,(La c.shape)),(4,(La v2.shape)),(40,(Qp g))],(QJ p0.kind p0.shape p0.buffer p0.starts p0.axis p0.amount p0.perm p0.kids)⟩) (have hm:=e;HE (Qe 1 (QZ Qf c.shape (Qe 1 (QZ Qf v2.shape (Qe 2 (bi hm λk e hm=>Yy (j:=13) (λd=>⟨sl d 97 [(1,(.ptr 0 0)),(3,(La c.shape)),(4,(La v2.shape)),(28,(Qp k))],(QJ p0.kind p0.shape p0.buffer p0.starts p0.axis p0.amount p0.perm p0.kids)⟩) (λd=>Qe 1 (bi hm λl e hm=>Yy (j:=18) (λd=>⟨sl d 97 [(1,(.ptr 0 0)),(3,(La c.shape)),(4,(La v2.shape)),(33,(Qp l))],(QJ p0.kind p0.shape p0.buffer p0.starts p0.axis p0.amount p0.perm p0.kids)⟩) (λd=>Qe 1 (mU 34 hm (λhm=>re 6 ⟨kr,zf⟩) (λhm=>Qe 3 (QZ Qf c.shape (re 2 ⟨kr,zf⟩))))) (λhJ=>mU 29 e (λhm=>Qe 4 zf) (λhm=>Qe 4 zf)))) (λhJ=>LB 21 e (λhm=>Qe 7 zf) (λhm=>Qe 1 (QZ Qf c.shape (Qe 2 (QZ Qf p0.shape (Qe 2 zf))))))))))))) (λd=>mr hm (λhm=>ge 1 (Qn zf)) (λhm=>Qr (Qg (ge 1 (Qo (rN hm (S4 _) (λ_ d hm=>zf) λ_ d hm=>ge 1 (Qn zf)))))))))))))))))
def YI(x:(Qb×Int)):Option (Unit⊕ Unit):=
 match x with
 |(p0,c)=>
 if c<(p0.starts.length:Int)then
  (idx p0.starts c>>=λd=>
  if d<(-65536)then
   some true
  else
  idx p0.starts c>>=λe=>
  some (decide (e>65536))
  )>>=λ(f:Bool)=>
  if f=true then
   some (Sum.inl ())
  else
  YI (p0,(W (c+1)))
 else
 some (Sum.inr ())
 partial_fixpoint
theorem S6:∀x r,YI x=some r->match x with|(p0,c)=>LQ f109 109 [1,1,1,1,1,1,0,1,0,1,1,1,0,0,1,0,0] 1 ⟨kp 197 [(2,(.ptr 0 0)),(6,(Qd c))],(QJ p0.kind p0.shape p0.buffer p0.starts p0.axis p0.amount p0.perm p0.kids)⟩ (P2 .ret (λ_ d=>⟨sl d 197 [(4,(Qp false))],(QJ p0.kind p0.shape p0.buffer p0.starts p0.axis p0.amount p0.perm p0.kids)⟩) (.exit 1) (λ_ d=>⟨sl d 197 [(2,(.ptr 0 0))],(QJ p0.kind p0.shape p0.buffer p0.starts p0.axis p0.amount p0.perm p0.kids)⟩) r):=by
 refine YI.partial_correctness _ (λYI S6 x r hm=>?_);obtain⟨p0,c⟩:=x;exact lp (Qg (gr 3 (QZ Qf p0.starts (re 1 (ri hm (λhm=>Qr (Qg (Qo (Qg (bi hm λe j hm=>Xe (λd=>⟨sl d 197 [(2,(.ptr 0 0)),(6,(Qd c)),(140,(Qp e))],(QJ p0.kind p0.shape p0.buffer p0.starts p0.axis p0.amount p0.perm p0.kids)⟩) (have hm:=j;gd (Qe 3 (QY 1 Qf hm λf hm=>Qe 3 (gs 133 hm (λhm=>re 7 zf) (λhm=>Qe 3 (QY 1 Qf hm λg hm=>re 3 zf)))))) (λd=>mr hm (λhm=>ge 1 (Qn zf)) (λhm=>Qr (gd (re 3 (S6 _ _ hm _ kr)))))))))) (λhm=>QO zf))))))
def Jy(x:(Qb×(List fj))):Option Bool:=
 match x with
 |(p0,p1)=>
 (if p0.kind=1 then
  some 0
 else
 some 1
 )>>=λ(s:Int)=>
 (if p0.kind=7 then
  some 2
 else
 some s
 )>>=λ(v2:Int)=>
 ((if p0.kind<1 then
  some true
 else
 some (decide (p0.kind>7))
 )>>=λ(t:Bool)=>
 (if t=true then
  some true
 else
 some ((p0.kids.length:Int) !=v2)
 )>>=λ(u:Bool)=>
 if u=true then
  some true
 else
 XE p0.shape>>=λv=>
 some (v !=0)
 )>>=λ(w:Bool)=>
 if w=true then
  some false
 else
 ((if p0.kind≠1 then
  some (p0.buffer !=0)
 else
 some false
 )>>=λ(y:Bool)=>
 (if y=true then
  some true
 else
 if p0.kind≠2 then
  some (decide ((p0.starts.length:Int)>0))
 else
 some false
 )>>=λ(z:Bool)=>
 (if z=true then
  some true
 else
 (if p0.kind≠3 then
  some (p0.kind !=4)
 else
 some false
 )>>=λ(k:Bool)=>
 (if k=true then
  some (p0.kind !=7)
 else
 some false
 )>>=λ(l:Bool)=>
 if l=true then
  some (p0.axis !=0)
 else
 some false
 )>>=λ(m:Bool)=>
 (if m=true then
  some true
 else
 if p0.kind≠4 then
  some (p0.amount !=0)
 else
 some false
 )>>=λ(n:Bool)=>
 if n=true then
  some true
 else
 if p0.kind≠5 then
  some (decide ((p0.perm.length:Int)>0))
 else
 some false
 )>>=λ(A:Bool)=>
 if A=true then
  some false
 else
 if p0.kind=1 then
  (if p0.buffer>=0 then
   some (decide (p0.buffer<(p1.length:Int)))
  else
  some false
  )>>=λ(p:Bool)=>
  if p=true then
   idx p1 p0.buffer>>=λq=>
   XF (q,p0.shape)>>=λr=>
   some r
  else
  some false
 else
 if p0.kind=2 then
  (
  YI (p0,0)>>=λout=>
  match out with
  | .inl _=>
   some false
  | .inr (_)=>
   if(p0.starts.length:Int)=(p0.shape.length:Int)then
    idx p0.kids 0>>=λc=>
    some ((c.shape.length:Int)==(p0.shape.length:Int))
   else
   some false
  )
 else
 if p0.kind=3 then
  JK p0>>=λd=>
  some d
 else
 if p0.kind=4 then
  JK p0>>=λe=>
  (if e=true then
   some (decide (p0.amount>=0))
  else
  some false
  )>>=λ(f:Bool)=>
  if f=true then
   if p0.amount=0 then
    some true
   else
   idx p0.shape p0.axis>>=λg=>
   some (decide (p0.amount<g))
  else
  some false
 else
 if p0.kind=5 then
  Xa p0>>=λj=>
  some j
 else
 if p0.kind=7 then
  J3 p0>>=λv626=>
  some v626
 else
 some true
theorem Vk{p0 p1 r0}(hm:Jy (p0,p1)=some r0):FQ 109 [(Qb.ex p0),(.lst ((List.map (λl=>fy.lst ((List.map Qf) l))) p1))] (Qp r0):=by
 unfold Jy at hm
 exact fp (fn:=f109) rfl (ge 2 (ge 1 (Qg (ge 3 (bi hm λw c hm=>Xe (λd=>⟨sl d 197 [(1,(ZI p1)),(2,(.ptr 0 0)),(5,(Qd w))],(QJ p0.kind p0.shape p0.buffer p0.starts p0.axis p0.amount p0.perm p0.kids)⟩) (have hm:=c;sQ hm (λhm=>gd (re 1 zf)) (λhm=>Qr zf)) (λd=>Qg (ge 3 (bi hm λv2 c hm=>Xe (λd=>⟨sl d 197 [(1,(ZI p1)),(2,(.ptr 0 0)),(5,(Qd v2))],(QJ p0.kind p0.shape p0.buffer p0.starts p0.axis p0.amount p0.perm p0.kids)⟩) (have hm:=c;sQ hm (λhm=>gd (re 1 zf)) (λhm=>Qr zf)) (λd=>Qg (Qg (bi hm λx c hm=>Xe (λd=>⟨sl d 197 [(1,(ZI p1)),(2,(.ptr 0 0)),(33,(Qp x))],(QJ p0.kind p0.shape p0.buffer p0.starts p0.axis p0.amount p0.perm p0.kids)⟩) (have hm:=c;HE (Qe 4 (bi hm λy c hm=>Yy (j:=8) (λd=>⟨sl d 197 [(1,(ZI p1)),(2,(.ptr 0 0)),(5,(Qd v2)),(20,(Qp y))],(QJ p0.kind p0.shape p0.buffer p0.starts p0.axis p0.amount p0.perm p0.kids)⟩) (λd=>Qe 1 (bi hm λz c hm=>Yy (j:=15) (λd=>⟨sl d 197 [(1,(ZI p1)),(2,(.ptr 0 0)),(27,(Qp z))],(QJ p0.kind p0.shape p0.buffer p0.starts p0.axis p0.amount p0.perm p0.kids)⟩) (λd=>Qe 1 (mU 28 hm (λhm=>re 5 ⟨kr,zf⟩) (λhm=>Qe 2 (bi hm λE e hm=>cp (Tw e) (re 2 ⟨kr,zf⟩))))) (λhJ=>mU 21 c (λhm=>Qe 6 zf) (λhm=>Qe 2 (G3 Qb.toD p0.kids (es:=Qb.toDs p0.kids) (Qb.toDs_eq _) (Qe 3 zf)))))) (λhJ=>gs 16 c (λhm=>Qe 4 zf) (λhm=>Qe 4 zf))))) (λd=>mr hm (λhm=>ge 1 (Qn zf)) (λhm=>Qr (Qg (Qg (bi hm λA c hm=>Xe (λd=>⟨sl d 197 [(1,(ZI p1)),(2,(.ptr 0 0)),(93,(Qp A))],(QJ p0.kind p0.shape p0.buffer p0.starts p0.axis p0.amount p0.perm p0.kids)⟩) (have hm:=c;HE (Qe 4 (bi hm λB c hm=>Yy (j:=8) (λd=>⟨sl d 197 [(1,(ZI p1)),(2,(.ptr 0 0)),(41,(Qp B))],(QJ p0.kind p0.shape p0.buffer p0.starts p0.axis p0.amount p0.perm p0.kids)⟩) (λd=>Qe 1 (bi hm λC c hm=>Yy (j:=19) (λd=>⟨sl d 197 [(1,(ZI p1)),(2,(.ptr 0 0)),(52,(Qp C))],(QJ p0.kind p0.shape p0.buffer p0.starts p0.axis p0.amount p0.perm p0.kids)⟩) (λd=>Qe 1 (bi hm λm c hm=>Yy (j:=39) (λd=>⟨sl d 197 [(1,(ZI p1)),(2,(.ptr 0 0)),(72,(Qp m))],(QJ p0.kind p0.shape p0.buffer p0.starts p0.axis p0.amount p0.perm p0.kids)⟩) (λd=>Qe 1 (bi hm λn c hm=>Yy (j:=49) (λd=>⟨sl d 197 [(1,(ZI p1)),(2,(.ptr 0 0)),(82,(Qp n))],(QJ p0.kind p0.shape p0.buffer p0.starts p0.axis p0.amount p0.perm p0.kids)⟩) (λd=>Qe 1 (mU 83 hm (λhm=>re 10 ⟨kr,zf⟩) (λhm=>Qe 4 (LB 87 hm (λhm=>Qe 2 (QZ Qf p0.perm (re 3 ⟨kr,zf⟩))) (λhm=>re 6 ⟨kr,zf⟩))))) (λhJ=>mU 73 c (λhm=>Qe 9 zf) (λhm=>Qe 4 (LB 77 hm (λhm=>Qe 5 zf) (λhm=>Qe 5 zf)))))) (λhJ=>mU 53 c (λhm=>Qe 19 zf) (λhm=>Qe 4 (bi hm λp c hm=>Yy (j:=28) (λd=>⟨sl d 197 [(1,(ZI p1)),(2,(.ptr 0 0)),(53,(Qp false)),(61,(Qp p))],(QJ p0.kind p0.shape p0.buffer p0.starts p0.axis p0.amount p0.perm p0.kids)⟩) (λd=>Qe 1 (bi hm λq c hm=>Yy (j:=33) (λd=>⟨sl d 197 [(1,(ZI p1)),(2,(.ptr 0 0)),(53,(Qp false)),(66,(Qp q))],(QJ p0.kind p0.shape p0.buffer p0.starts p0.axis p0.amount p0.perm p0.kids)⟩) (λd=>Qe 1 (mU 67 hm (λhm=>Qe 5 zf) (λhm=>Qe 5 zf))) (λhJ=>mU 62 c (λhm=>Qe 4 zf) (λhm=>Qe 4 zf)))) (λhJ=>LB 57 c (λhm=>Qe 4 zf) (λhm=>Qe 4 zf))))))) (λhJ=>mU 42 c (λhm=>Qe 10 zf) (λhm=>Qe 4 (LB 46 hm (λhm=>Qe 2 (QZ Qf p0.starts (Qe 3 zf))) (λhm=>Qe 6 zf)))))) (λhJ=>LB 37 c (λhm=>Qe 4 zf) (λhm=>Qe 4 zf))))) (λd=>mr hm (λhm=>ge 1 (Qn zf)) (λhm=>Qr (Qg (ge 2 (Qo (ge 2 (sQ hm (λhm=>Qg (Nx (Qe 4 (bi hm λr c hm=>Yy (j:=10) (λd=>⟨sl d 197 [(1,(ZI p1)),(2,(.ptr 0 0)),(107,(Qp r))],(QJ p0.kind p0.shape p0.buffer p0.starts p0.axis p0.amount p0.perm p0.kids)⟩) (λd=>Qe 1 (mU 108 hm (λhm=>Qe 3 (bi hm λg e hm=>Ji 1 (λl=>fy.lst ((List.map Qf) l)) p1 p0.buffer g (es:=(List.map (λl=>fy.lst ((List.map Qf) l))) p1) (d:=(Lb g)) rfl e rfl rfl (Qe 3 (bi hm λD e hm=>cp (Ur e) (re 2 ⟨kr,Qn zf⟩))))) (λhm=>re 10 ⟨kr,Qn zf⟩))) (λhJ=>gs 101 c (λhm=>Qe 3 (G3 (λl=>fy.lst ((List.map Qf) l)) p1 (es:=(List.map (λl=>fy.lst ((List.map Qf) l))) p1) rfl (Qe 2 zf))) (λhm=>Qe 6 zf)))))) (λhm=>ge 2 (sQ hm (λhm=>Qg (ge 1 (Qo (rN hm (S6 _) (λ_ d hm=>zf) λ_ d hm=>Qg (ZP (Qe 2 (QZ Qf p0.starts (Qe 2 (QZ Qf p0.shape (Qe 2 (HD 148 hm (λhm=>Qe 2 (bi hm λf e hm=>Ji 8 Qb.toD p0.kids 0 f (es:=Qb.toDs p0.kids) (d:=(Qb.ex f)) (Qb.toDs_eq _) e (Qb.toD_eq f) rfl (Qe 2 (QZ Qf f.shape (Qe 2 (QZ Qf p0.shape (re 3 ⟨kr,Qn zf⟩))))))) (λhm=>re 12 ⟨kr,Qn zf⟩)))))))))))) (λhm=>ge 2 (sQ hm (λhm=>gr 1 (bi hm λs e hm=>cp (T0 e) (re 1 (Qn zf)))) (λhm=>ge 2 (sQ hm (λhm=>Qg (Nx (Qe 1 (bi hm λt e hm=>cp (T0 e) (Qe 1 (bi hm λk c hm=>Yy (j:=7) (λd=>⟨sl d 197 [(2,(.ptr 0 0)),(172,(Qp k))],(QJ p0.kind p0.shape p0.buffer p0.starts p0.axis p0.amount p0.perm p0.kids)⟩) (λd=>Qe 1 (mU 173 hm (λhm=>Qe 4 (HD 177 hm (λhm=>re 12 ⟨kr,Qn zf⟩) (λhm=>Qe 6 (QY 1 Qf hm λu hm=>re 5 ⟨kr,Qn zf⟩)))) (λhm=>re 16 ⟨kr,Qn zf⟩))) (λhJ=>mU 168 c (λhm=>Qe 4 zf) (λhm=>Qe 4 zf)))))))) (λhm=>ge 2 (sQ hm (λhm=>gr 1 (bi hm λv e hm=>cp (UO e) (re 1 (Qn zf)))) (λhm=>ge 2 (sQ hm (λhm=>gr 1 (bi hm λv626 e hm=>cp (V4 e) (re 1 (Qn zf)))) (λhm=>Qr (ge 1 (Qn zf))))))))))))))))))))))))))))))))))))
mutual
def ZW (x:(Qb×(List fj)×Int)):Option (Unit⊕ Unit):=
 match x with
 |(p0,p1,c)=>
 if c<(p0.kids.length:Int)then
  idx p0.kids c>>=λd=>
  X4 (d,p1)>>=λe=>
  if e=false then
   some (Sum.inl ())
  else
  ZW (p0,p1,(W (c+1)))
 else
 some (Sum.inr ())
 partial_fixpoint
def X4 (x:(Qb×(List fj))):Option Bool:=
 match x with
 |(p0,p1)=>
 Jy (p0,p1)>>=λf=>
 if f=false then
  some false
 else
 (
 ZW (p0,p1,0)>>=λout=>
 match out with
 | .inl _=>
  some false
 | .inr (_)=>
  some true
 )
 partial_fixpoint
end
def RJ:(Qb×(List fj)×Int)->(Unit⊕ Unit)->Prop:=λx r=>match x with
 |(p0,p1,c)=>LQ f63 63 [1,1,0,1,0,0] 1 ⟨kp 25 [(1,(ZI p1)),(2,(.ptr 0 0)),(5,(Qd c))],(QJ p0.kind p0.shape p0.buffer p0.starts p0.axis p0.amount p0.perm p0.kids)⟩ (P2 .ret (λ_ d=>⟨sl d 25 [(4,(Qp false))],(QJ p0.kind p0.shape p0.buffer p0.starts p0.axis p0.amount p0.perm p0.kids)⟩) (.exit 0) (λ_ d=>⟨sl d 25 [],(QJ p0.kind p0.shape p0.buffer p0.starts p0.axis p0.amount p0.perm p0.kids)⟩) r)
def Rw:(Qb×(List fj))->Bool->Prop:=λx r=>match x,r with
 |(p0,p1),c=>∀H,PC prog env 63 ([(Qb.ex p0),(.lst ((List.map (λl=>fy.lst ((List.map Qf) l))) p1))].map .dat) H (Qp c) H
theorem ot:(∀x r,ZW x=some r->RJ x r)/\(∀x r,X4 x=some r->Rw x r):=by
 refine ZW.mutual_partial_correctness RJ Rw ?_ ?_
 .intro ZW X4 RH Sl x r hm;unfold RJ;obtain⟨p0,p1,e⟩:=x;exact lp (Qg (gr 3 (G3 Qb.toD p0.kids (es:=Qb.toDs p0.kids) (Qb.toDs_eq _) (re 1 (ri hm (λhm=>Qr (Qg (Qo (gr 3 (bi hm λc f hm=>Ji 8 Qb.toD p0.kids e c (es:=Qb.toDs p0.kids) (d:=(Qb.ex c)) (Qb.toDs_eq _) f (Qb.toD_eq c) rfl (Qe 2 (bi hm λg f hm=>Y3 (Sl _ _ f []) (re 1 (HF hm (λhm=>ge 1 (Qn zf)) (λhm=>Qr (gd (re 3 (RH _ _ hm _ kr))))))))))))) (λhm=>QO zf))))))
 .intro ZW RH x j hm;unfold Rw;obtain⟨p0,p1⟩:=x;intro H;refine sA (ds:=[(Qb.ex p0),(.lst ((List.map (λl=>fy.lst ((List.map Qf) l))) p1))]) (fn:=f63) rfl ?_;exact ge 2 (Qg (gr 2 (bi hm λk f hm=>cp (Vk f) (re 1 (HF hm (λhm=>ge 1 (Qn zf)) (λhm=>Qr (Qg (ge 1 (Qo (rN hm (RH _) (λ_ d hm=>zf) λ_ d hm=>ge 1 (Qn zf)))))))))))
theorem RH:∀x r,ZW x=some r->RJ x r:=ot.1
theorem Sl:∀x r,X4 x=some r->Rw x r:=ot.2
def R3(x:(Qb×(List fj))):Option Bool:=
 match x with
 |(p0,p1)=>
 X2 p0>>=λc=>
 if c<=300 then
  X4 (p0,p1)>>=λv2=>
  some v2
 else
 some false
theorem Wm{p0 p1 r0}(hm:R3 (p0,p1)=some r0):FQ 29 [(Qb.ex p0),(.lst ((List.map (λl=>fy.lst ((List.map Qf) l))) p1))] (Qp r0):=by
 unfold R3 at hm;exact fp (fn:=f29) rfl (ge 2 (gr 1 (bi hm λd c hm=>Y3 (SJ _ _ c []) (Qe 2 (gs 8 hm (λhm=>Qe 2 (bi hm λv2 c hm=>Y3 (Sl _ _ c []) (re 2 (Qn zf)))) (λhm=>re 5 (Qn zf)))))))
def YC(x:(fj)):Option Int:=
 match x with
 |p0=>
 XE p0>>=λc=>
 if c≠0 then
  some 0
 else
 XT p0>>=λ(v2,d)=>
 some v2
theorem Ue{p0 r0}(hm:YC p0=some r0):FQ 24 [(Lb p0)] (Qd r0):=by
 unfold YC at hm;exact fp (fn:=f24) rfl (ge 1 (Qg (gr 1 (bi hm λd c hm=>cp (Tw c) (re 1 (Eo hm (λhm=>ge 1 (Qn zf)) (λhm=>Qr (gr 1 (uy hm λv2 e c hm=>cp (T7 c) (re 5 (ge 2 (Qn zf))))))))))))
def Yn(x:((fj)×Int×Int×Int)):Option (Unit⊕ Unit):=
 match x with
 |(p0,p1,e,d)=>
 if d<(p0.length:Int)then
  idx p0 d>>=λc=>
  if(W (e*(if c<1 then 1 else c)))>(W (100*p1))then
   some (Sum.inl ())
  else
  Yn (p0,p1,(W (e*(if c<1 then 1 else c))),(W (d+1)))
 else
 some (Sum.inr ())
 partial_fixpoint
theorem SL:∀x r,Yn x=some r->match x with|(p0,p1,c,e)=>LQ f64 64 [1,1,1,0,1,0,0] 0 ⟨kp 38 [(0,(La p0)),(1,(Qd p1)),(5,(Qd c)),(6,(Qd e))],[]⟩ (P2 .ret (λ_ d=>⟨sl d 38 [(4,(Qp false))],[]⟩) (.exit 0) (λ_ d=>⟨sl d 38 [],[]⟩) r):=by
 refine Yn.partial_correctness _ (λYn SL x r hm=>?_);obtain⟨p0,p1,c,e⟩:=x;exact lp (Qg (gr 2 (QZ Qf p0 (re 1 (ri hm (λhm=>Qr (Qg (Qo (gr 3 (QY 1 Qf hm λf hm=>Qe 1 (QB rfl (λ_=>NB (k:=.i64) (m:=f) (n:=1) rfl kr kr) (re 2 (ge 4 (ri hm (λhm=>ge 1 (Qn zf)) (λhm=>Qr (gd (re 3 (SL _ _ hm _ kr))))))))))))) (λhm=>QO zf))))))
def P5(x:((fj)×Int)):Option Bool:=
 match x with
 |(p0,p1)=>
 ((if(p0.length:Int)>6 then
  some true
 else
 XE p0>>=λc=>
 some (c !=0)
 )>>=λ(v2:Bool)=>
 if v2=true then
  some true
 else
 YC p0>>=λd=>
 some (decide (d>p1))
 )>>=λ(e:Bool)=>
 if e=true then
  some false
 else
 (
 Yn (p0,p1,1,0)>>=λout=>
 match out with
 | .inl _=>
  some false
 | .inr (_)=>
  some true
 )
theorem UC{p0 p1 r0}(hm:P5 (p0,p1)=some r0):FQ 64 [(Lb p0),(Qf p1)] (Qp r0):=by
 unfold P5 at hm;exact fp (fn:=f64) rfl (ge 1 (Qg (Qg (bi hm λf c hm=>Xe (λd=>⟨sl d 38 [(0,(La p0)),(1,(Qd p1)),(20,(Qp f))],[]⟩) (have hm:=c;HE (Qe 1 (QZ Qf p0 (Qe 2 (bi hm λv2 c hm=>Yy (j:=8) (λd=>⟨sl d 38 [(0,(La p0)),(1,(Qd p1)),(14,(Qp v2))],[]⟩) (λd=>Qe 1 (mU 15 hm (λhm=>re 5 ⟨kr,zf⟩) (λhm=>Qe 1 (bi hm λg e hm=>cp (Ue e) (re 3 ⟨kr,zf⟩))))) (λhJ=>gs 10 c (λhm=>Qe 4 zf) (λhm=>Qe 1 (bi hm λk e hm=>cp (Tw e) (Qe 2 zf))))))))) (λd=>mr hm (λhm=>ge 1 (Qn zf)) (λhm=>Qr (ge 1 (Qg (ge 1 (Qo (rN hm (SL _) (λ_ d hm=>zf) λ_ d hm=>ge 1 (Qn zf))))))))))))
mutual
def ZV (x:(Qb×Int×Int)):Option (Unit⊕ Unit):=
 match x with
 |(p0,p1,c)=>
 if c<(p0.kids.length:Int)then
  idx p0.kids c>>=λd=>
  X3 (d,p1)>>=λe=>
  if e=false then
   some (Sum.inl ())
  else
  ZV (p0,p1,(W (c+1)))
 else
 some (Sum.inr ())
 partial_fixpoint
def X3 (x:(Qb×Int)):Option Bool:=
 match x with
 |(p0,p1)=>
 P5 (p0.shape,p1)>>=λf=>
 if f=false then
  some false
 else
 (
 ZV (p0,p1,0)>>=λout=>
 match out with
 | .inl _=>
  some false
 | .inr (_)=>
  some true
 )
 partial_fixpoint
end
def RX:(Qb×Int×Int)->(Unit⊕ Unit)->Prop:=λx r=>match x with
 |(p0,p1,c)=>LQ f30 30 [1,1,0,1,0,0] 1 ⟨kp 26 [(1,(Qd p1)),(2,(.ptr 0 0)),(5,(Qd c))],(QJ p0.kind p0.shape p0.buffer p0.starts p0.axis p0.amount p0.perm p0.kids)⟩ (P2 .ret (λ_ d=>⟨sl d 26 [(4,(Qp false))],(QJ p0.kind p0.shape p0.buffer p0.starts p0.axis p0.amount p0.perm p0.kids)⟩) (.exit 0) (λ_ d=>⟨sl d 26 [],(QJ p0.kind p0.shape p0.buffer p0.starts p0.axis p0.amount p0.perm p0.kids)⟩) r)
def RZ:(Qb×Int)->Bool->Prop:=λx r=>match x,r with
 |(p0,p1),c=>∀H,PC prog env 30 ([(Qb.ex p0),(Qf p1)].map .dat) H (Qp c) H
theorem ov:(∀x r,ZV x=some r->RX x r)/\(∀x r,X3 x=some r->RZ x r):=by
 refine ZV.mutual_partial_correctness RX RZ ?_ ?_
 .intro ZV X3 RG Sx x r hm;unfold RX;obtain⟨p0,p1,e⟩:=x;exact lp (Qg (gr 3 (G3 Qb.toD p0.kids (es:=Qb.toDs p0.kids) (Qb.toDs_eq _) (re 1 (ri hm (λhm=>Qr (Qg (Qo (gr 3 (bi hm λc f hm=>Ji 8 Qb.toD p0.kids e c (es:=Qb.toDs p0.kids) (d:=(Qb.ex c)) (Qb.toDs_eq _) f (Qb.toD_eq c) rfl (Qe 2 (bi hm λg f hm=>Y3 (Sx _ _ f []) (re 1 (HF hm (λhm=>ge 1 (Qn zf)) (λhm=>Qr (gd (re 3 (RG _ _ hm _ kr))))))))))))) (λhm=>QO zf))))))
 .intro ZV RG x j hm;unfold RZ;obtain⟨p0,p1⟩:=x;intro H;refine sA (ds:=[(Qb.ex p0),(Qf p1)]) (fn:=f30) rfl ?_;exact ge 2 (Qg (gr 3 (bi hm λk f hm=>cp (UC f) (re 1 (HF hm (λhm=>ge 1 (Qn zf)) (λhm=>Qr (Qg (ge 1 (Qo (rN hm (RG _) (λ_ d hm=>zf) λ_ d hm=>ge 1 (Qn zf)))))))))))
theorem RG:∀x r,ZV x=some r->RX x r:=ov.1
theorem Sx:∀x r,X3 x=some r->RZ x r:=ov.2
def PZ(x:(Qb×(List fj)×Int)):Option Bool:=
 match x with
 |(p0,p1,c)=>
 (if(p1.length:Int)<=20 then
  PF (p0,60)>>=λv2=>
  some v2
 else
 some false
 )>>=λ(d:Bool)=>
 (if d=true then
  R3 (p0,p1)>>=λe=>
  some e
 else
 some false
 )>>=λ(f:Bool)=>
 if f=true then
  X3 ((⟨p0.kind,p0.shape,p0.buffer,p0.starts,p0.axis,p0.amount,p0.perm,p0.kids⟩:Qb),c)>>=λg=>
  some g
 else
 some false
theorem VT{p0 p1 p2 r0}(hm:PZ (p0,p1,p2)=some r0):FQ 8 [(Qb.ex p0),(.lst ((List.map (λl=>fy.lst ((List.map Qf) l))) p1)),(Qf p2)] (Qp r0):=by
 unfold PZ at hm;exact fp (fn:=f8) rfl (ge 2 (Qg (HE (Qe 1 (G3 (λl=>fy.lst ((List.map Qf) l)) p1 (es:=(List.map (λl=>fy.lst ((List.map Qf) l))) p1) rfl (Qe 2 (bi hm λf e hm=>Yy (j:=7) (λd=>⟨sl d 24 [(1,(ZI p1)),(2,(Qd p2)),(3,(.ptr 0 0)),(6,(Qp false)),(13,(Qp f))],(QJ p0.kind p0.shape p0.buffer p0.starts p0.axis p0.amount p0.perm p0.kids)⟩) (λd=>Qe 1 (bi hm λg e hm=>Yy (j:=12) (λd=>⟨sl d 24 [(2,(Qd p2)),(3,(.ptr 0 0)),(6,(Qp false)),(18,(Qp g))],(QJ p0.kind p0.shape p0.buffer p0.starts p0.axis p0.amount p0.perm p0.kids)⟩) (λd=>Qe 1 (mU 19 hm (λhm=>Qe 2 (bi hm λk c hm=>Y3 (Sx _ _ c []) (re 2 ⟨kr,Qn zf⟩))) (λhm=>re 5 ⟨kr,Qn zf⟩))) (λhJ=>mU 14 e (λhm=>Qe 2 (bi hm λm c hm=>cp (Wm c) (Qe 1 zf))) (λhm=>Qe 4 zf)))) (λhJ=>gs 10 e (λhm=>Qe 1 (bi hm λv2 c hm=>cp (UU c) (Qe 1 zf))) (λhm=>Qe 3 zf)))))))))
mutual
def Yg (x:(Qb×(List Qj)×Int)):Option ((List Qj)):=
 match x with
 |(p0,d,c)=>
 if c<(p0.kids.length:Int)then
  idx p0.kids c>>=λe=>
  Jv e>>=λf=>
  app 128 d ([f]:List Qj)>>=λg=>
  Yg (p0,g,(W (c+1)))
 else
 some d
 partial_fixpoint
def Jv (x:Qb):Option Qj:=
 match x with
 |p0=>
 Yg (p0,([]:List Qj),0)>>=λj=>
 some (⟨p0.kind,p0.shape,p0.buffer,p0.starts,p0.axis,p0.amount,p0.perm,j⟩:Qj)
 partial_fixpoint
end
def Rj:(Qb×(List Qj)×Int)->((List Qj))->Prop:=λx r=>match x with
 |(p0,c,f)=>LQ f10 10 [1,1,0,1,0,0] 5 ⟨kp 39 [(1,(.ptr 0 0)),(2,(.ptr 1 0)),(3,(.ptr 3 0)),(4,(Qd f))],[(Pr p0.kind p0.shape p0.buffer p0.starts p0.axis p0.amount p0.perm p0.kids),(.box [(Qd 0),Ea,(Qd 0),Ea,(Qd 0),(Qd 0),Ea,(.dat (.lst (Qj.toDs [])))]),(.tok 33 c.length),(.box [(Qd p0.kind),(La p0.shape),(Qd p0.buffer),(La p0.starts),(Qd p0.axis),(Qd p0.amount),(La p0.perm),(.vec 2 (Qj.toDs c))]),(.tok 33 (([]:List Qj).length))]⟩ (P1 (.exit 0) (λe d=>⟨sl d 39 [(2,(.ptr 1 0)),(3,(.ptr 3 0))],[(Pr p0.kind p0.shape p0.buffer p0.starts p0.axis p0.amount p0.perm p0.kids),(.box [(Qd 0),Ea,(Qd 0),Ea,(Qd 0),(Qd 0),Ea,(.dat (.lst (Qj.toDs [])))]),(.tok 33 e.length),(.box [(Qd p0.kind),(La p0.shape),(Qd p0.buffer),(La p0.starts),(Qd p0.axis),(Qd p0.amount),(La p0.perm),(.vec 2 (Qj.toDs e))]),(.tok 33 (([]:List Qj).length))]⟩) r)
def Rr:Qb->Qj->Prop:=λx r=>match x,r with
 |p0,c=>∀H,PC prog env 10 ([(Qb.ex p0)].map .dat) H (.dat (Qj.ex c)) H
theorem pr:(∀x r,Yg x=some r->Rj x r)/\(∀x r,Jv x=some r->Rr x r):=by
 refine Yg.mutual_partial_correctness Rj Rr ?_ ?_
 .intro Yg Jv RQ Sa x r hm;unfold Rj;obtain⟨p0,e,g⟩:=x;exact lp (Qg (gr 3 (G3 Qb.toD p0.kids (es:=Qb.toDs p0.kids) (Qb.toDs_eq _) (re 1 (ri hm (λhm=>Qr (Qg (Qo (ZP (Qe 5 (bi hm λc j hm=>Ji 8 Qb.toD p0.kids g c (es:=Qb.toDs p0.kids) (d:=(Qb.ex c)) (Qb.toDs_eq _) j (Qb.toD_eq c) rfl (Qe 1 (bi hm λf j hm=>Y3 (Sa _ _ j []) (Qe 1 (bi hm λk j hm=>Jh 33 8 128 2 Qj.toD e ([f]:List Qj) k (xs:=Qj.toDs e) (es:=[(Qj.ex f)]) (L:=Qj.toDs) Qj.toDs_eq rfl (by simp only[Qj.toDs,Qj.toD_eq]) Qj.fit j (re 2 ⟨kr,gd (re 3 (RQ _ _ hm _ kr))⟩))))))))))) (λhm=>QO zf))))))
 .intro Yg RQ p0 m hm;unfold Rr;intro H;refine sA (ds:=[(Qb.ex p0)]) (fn:=f10) rfl ?_;exact ge 2 (ge 17 (Qg (ge 1 (Qo (nA hm (RQ _) λl d hm=>ge 2 (Qn zf))))))
theorem RQ:∀x r,Yg x=some r->Rj x r:=pr.1
theorem Sa:∀x r,Jv x=some r->Rr x r:=pr.2
def Xz(x:Unit):Option (Unit):=
 match x with
 |_=>
 some ()
theorem WD(hm:Xz ()=some ()):PC prog env 31 [] [] (.mapv 0) [(.map [(.int .i64 1,(.dat (.raw (.func (.func 65) #[] #[])))),(.int .i64 2,(.dat (.raw (.func (.func 67) #[] #[])))),(.int .i64 3,(.dat (.raw (.func (.func 69) #[] #[])))),(.int .i64 4,(.dat (.raw (.func (.func 71) #[] #[])))),(.int .i64 5,(.dat (.raw (.func (.func 73) #[] #[])))),(.int .i64 6,(.dat (.raw (.func (.func 75) #[] #[])))),(.int .i64 7,(.dat (.raw (.func (.func 77) #[] #[]))))])]:=by
 unfold Xz at hm;exact gB (fn:=f31) rfl (ge 1 (gr 1 (Qe 1 (Qe 1 (Qe 1 (Qe 1 (Qe 1 (Qe 1 (Qe 1 (re 2 (Qn zf)))))))))))
def Qu(x:fj):Option fj:=app 8 [] x
def kM(l:fj):Nat:=match l with|[]=>0|_=>1
theorem Qz{x r}(hm:Qu x=some r):PC prog env 154 ([.lst ((List.map Qf) x)].map .dat) [] (.ms 0 (kM r) 0 r.length r.length) [.mt 3 (kM r) (cellsOf Qf r)]:=by
 obtain⟨c,d⟩:=p7 hm;have d:r=x:=d;subst d;cases r with
 |nil=>exact IS (n:=20) (by kernel_rfl)
 |cons a l=>
  exact gB (fn:=f154) rfl (ge 1 (Qg (gr 1 (QB rfl (λ_=>TR (p:=.dat (Lb (a::l))) (b:=false) rfl kr kr kr) (Q6 (He kr (Qr (gr 2 (Zz (v:=.ms 0 1 0 (a::l).length (a::l).length) (λH=>H.set 0 (.mt 3 1 (cellsOf Qf (a::l)))) rfl kr (λ_ f=>WE Qf (l:=[]) (es:=a::l) (bytes:=8) (e:=3) (tt:=0) (g:=0) (m:=0) hm yB kr kr kr kr rfl rfl kr rfl kr (Ew yB) f) (re 1 (Qn zf)))))))))))
def Yu(x:(fj)):Option ((Nat×(fj)×(fj))):=
 match x with
 |q0=>
 jb 8 (q0.length:Int) 0>>=λc=>
 Qu q0>>=λv2=>
 some ((mg c),c,v2)
theorem JT{q0 v5001 v5002 v5003}(hm:Yu q0=some (v5001,v5002,v5003)):PC prog env 111 [(La q0)] [] (.agg [(.ms 1 v5001 0 v5002.length v5002.length),(.ms 2 1 0 v5003.length v5003.length)]) (P6 v5001 v5002.length v5003.length v5002 v5003):=by
 unfold Yu at hm;exact gB (fn:=f111) rfl (ge 1 (Qg (ZP (Qe 1 (QZ Qf q0 (bi hm λc d hm=>Zz (v:=.ms 1 (mg c) 0 c.length c.length) (λH=>H++[.mt 3 (mg c) (cellsOf Qf c)]) rfl kr (by intro K f;exact SS 1 Qf (z:=0) (n:=(q0.length:Int)) (bytes:=8) (e:=3) (os:=[]) d kr kr kr kr rfl rfl rfl kr kr kr f) (Qe 1 (bi hm λv2 d hm=>go 2 3 Qf (Qz d) (re 2 ⟨kr,Qn zf⟩)))))))))
def Rn(x:Int):Option Bool:=
 match x with
 |p0=>
 some (decide (p0<0))
theorem VE{p0 r0}(hm:Rn p0=some r0):FQ 176 [(Qf p0)] (Qp r0):=by
 unfold Rn at hm;exact fp (fn:=f176) rfl (ge 1 (ge 3 (Qn zf)))
def QE(x:((fj)×Int)):Option (Int⊕ Unit):=
 match x with
 |(p0,c)=>
 if c<(p0.length:Int)then
  idx p0 c>>=λd=>
  Rn d>>=λe=>
  if e=true then
   some (Sum.inl c)
  else
  QE (p0,(W (c+1)))
 else
 some (Sum.inr ())
 partial_fixpoint
theorem ZG:∀x r,QE x=some r->match x with|(p0,c)=>LQ f131 131 [1,0,1,0,0] 0 ⟨kp 19 [(0,(La p0)),(1,(.dat (.raw (.func (.func 176) #[] #[])))),(7,(Qd (p0.length:Int))),(8,(Qd c))],[]⟩ (P2 .ret (λe d=>⟨sl d 19 [(4,(Qd e))],[]⟩) (.exit 0) (λ_ d=>⟨sl d 19 [],[]⟩) r):=by
 refine QE.partial_correctness _ (λQE ZG x r hm=>?_);obtain⟨p0,c⟩:=x;exact lp (ge 1 (Qg (ri hm (λhm=>Qr (Qg (Qo (ge 2 (gr 3 (QY 1 Qf hm λf hm=>Qe 1 (bi hm λg j hm=>cp (VE j) (Q6 (mr hm (λhm=>ge 2 (Qn zf)) (λhm=>Qr (gd (re 2 (ZG _ _ hm _ kr))))))))))))) (λhm=>QO zf))))
def Zm(x:(fj)):Option Int:=
 match x with
 |p0=>
 (
 QE (p0,0)>>=λout=>
 match out with
 | .inl c=>
  some c
 | .inr (_)=>
  some (-1)
 )
theorem JU{p0 r0}(hm:Zm p0=some r0):FQ 131 [(Lb p0),(.raw (.func (.func 176) #[] #[]))] (Qd r0):=by
 unfold Zm at hm;exact fp (fn:=f131) rfl (ge 1 (Qg (gr 1 (QZ Qf p0 (re 1 (Qo (rN hm (ZG _) (λc d hm=>zf) λ_ d hm=>ge 1 (Qn zf))))))))
def Q2(x:(fj)):Option Bool:=
 match x with
 |p0=>
 Zm p0>>=λc=>
 some (decide (c>=0))
theorem JB{p0 r0}(hm:Q2 p0=some r0):FQ 95 [(Lb p0),(.raw (.func (.func 176) #[] #[]))] (Qp r0):=by
 unfold Q2 at hm;exact fp (fn:=f95) rfl (ge 1 (gr 2 (bi hm λd c hm=>cp (JU c) (re 2 (Qn zf)))))
def RO(x:Int):Option Bool:=
 match x with
 |p0=>
 some (decide (p0>65536))
theorem Wb{p0 r0}(hm:RO p0=some r0):FQ 177 [(Qf p0)] (Qp r0):=by
 unfold RO at hm;exact fp (fn:=f177) rfl (ge 1 (ge 3 (Qn zf)))
def QF(x:((fj)×Int)):Option (Int⊕ Unit):=
 match x with
 |(p0,c)=>
 if c<(p0.length:Int)then
  idx p0 c>>=λd=>
  RO d>>=λe=>
  if e=true then
   some (Sum.inl c)
  else
  QF (p0,(W (c+1)))
 else
 some (Sum.inr ())
 partial_fixpoint
theorem ZH:∀x r,QF x=some r->match x with|(p0,c)=>LQ f131 131 [1,0,1,0,0] 0 ⟨kp 19 [(0,(La p0)),(1,(.dat (.raw (.func (.func 177) #[] #[])))),(7,(Qd (p0.length:Int))),(8,(Qd c))],[]⟩ (P2 .ret (λe d=>⟨sl d 19 [(4,(Qd e))],[]⟩) (.exit 0) (λ_ d=>⟨sl d 19 [],[]⟩) r):=by
 refine QF.partial_correctness _ (λQF ZH x r hm=>?_);obtain⟨p0,c⟩:=x;exact lp (ge 1 (Qg (ri hm (λhm=>Qr (Qg (Qo (ge 2 (gr 3 (QY 1 Qf hm λf hm=>Qe 1 (bi hm λg j hm=>cp (Wb j) (Q6 (mr hm (λhm=>ge 2 (Qn zf)) (λhm=>Qr (gd (re 2 (ZH _ _ hm _ kr))))))))))))) (λhm=>QO zf))))
def Zn(x:(fj)):Option Int:=
 match x with
 |p0=>
 (
 QF (p0,0)>>=λout=>
 match out with
 | .inl c=>
  some c
 | .inr (_)=>
  some (-1)
 )
theorem JV{p0 r0}(hm:Zn p0=some r0):FQ 131 [(Lb p0),(.raw (.func (.func 177) #[] #[]))] (Qd r0):=by
 unfold Zn at hm;exact fp (fn:=f131) rfl (ge 1 (Qg (gr 1 (QZ Qf p0 (re 1 (Qo (rN hm (ZH _) (λc d hm=>zf) λ_ d hm=>ge 1 (Qn zf))))))))
def Q3(x:(fj)):Option Bool:=
 match x with
 |p0=>
 Zn p0>>=λc=>
 some (decide (c>=0))
theorem JC{p0 r0}(hm:Q3 p0=some r0):FQ 95 [(Lb p0),(.raw (.func (.func 177) #[] #[]))] (Qp r0):=by
 unfold Q3 at hm;exact fp (fn:=f95) rfl (ge 1 (gr 2 (bi hm λd c hm=>cp (JV c) (re 2 (Qn zf)))))
def Pp(x:(fj)):Option Int:=
 match x with
 |p0=>
 Q2 p0>>=λc=>
 if c=true then
  some 6
 else
 Q3 p0>>=λv2=>
 if v2=true then
  some 7
 else
 some 0
theorem Uu{p0 r0}(hm:Pp p0=some r0):FQ 134 [(Lb p0)] (Qd r0):=by
 unfold Pp at hm;exact fp (fn:=f134) rfl (ge 1 (Qg (Qo (gr 1 (bi hm λd c hm=>cp (JB c) (re 1 (mr hm (λhm=>ge 1 (Qn zf)) (λhm=>gr 1 (bi hm λv2 c hm=>cp (JC c) (re 1 (mr hm (λhm=>ge 1 (Qn zf)) (λhm=>Qr (ge 1 (Qn zf))))))))))))))
def Q7(x:((fj)×Int×Int)):Option (Int⊕ Unit):=
 match x with
 |(p0,p1,c)=>
 if c<(p0.length:Int)then
  idx p0 c>>=λd=>
  if p1=d then
   some (Sum.inl c)
  else
  Q7 (p0,p1,(W (c+1)))
 else
 some (Sum.inr ())
 partial_fixpoint
theorem XR:∀x r,Q7 x=some r->match x with|(p0,p1,c)=>LQ f178 178 [1,0,1,0,0] 0 ⟨kp 19 [(0,(La p0)),(1,(Qd p1)),(7,(Qd (p0.length:Int))),(8,(Qd c))],[]⟩ (P2 .ret (λe d=>⟨sl d 19 [(4,(Qd e))],[]⟩) (.exit 0) (λ_ d=>⟨sl d 19 [],[]⟩) r):=by
 refine Q7.partial_correctness _ (λQ7 XR x r hm=>?_);obtain⟨p0,p1,c⟩:=x;exact lp (ge 1 (Qg (ri hm (λhm=>Qr (Qg (Qo (ge 2 (gr 3 (QY 1 Qf hm λf hm=>re 2 (sQ hm (λhm=>ge 2 (Qn zf)) (λhm=>Qr (gd (re 2 (XR _ _ hm _ kr))))))))))) (λhm=>QO zf))))
def XC(x:((fj)×Int)):Option Int:=
 match x with
 |(p0,p1)=>
 (
 Q7 (p0,p1,0)>>=λout=>
 match out with
 | .inl c=>
  some c
 | .inr (_)=>
  some (-1)
 )
theorem VI{p0 p1 r0}(hm:XC (p0,p1)=some r0):FQ 178 [(Lb p0),(Qf p1)] (Qd r0):=by
 unfold XC at hm;exact fp (fn:=f178) rfl (ge 1 (Qg (gr 1 (QZ Qf p0 (re 1 (Qo (rN hm (XR _) (λc d hm=>zf) λ_ d hm=>ge 1 (Qn zf))))))))
def Ys(x:((fj)×Int)):Option Bool:=
 match x with
 |(p0,p1)=>
 XC (p0,p1)>>=λc=>
 some (decide (c>=0))
theorem WQ{p0 p1 r0}(hm:Ys (p0,p1)=some r0):FQ 135 [(Lb p0),(Qf p1)] (Qp r0):=by
 unfold Ys at hm;exact fp (fn:=f135) rfl (ge 1 (gr 2 (bi hm λd c hm=>cp (VI c) (re 2 (Qn zf)))))
def Ra(x:(Int×Int×Int)):Option (Int×Bool):=
 match x with
 |(p0,p1,c)=>
 ((if p0<0 then
  some true
 else
 some (decide (p1<0))
 )>>=λ(v2:Bool)=>
 (if v2=true then
  some true
 else
 some (decide (p0>c))
 )>>=λ(d:Bool)=>
 (if d=true then
  some true
 else
 some (decide (p1>c))
 )>>=λ(e:Bool)=>
 if e=true then
  some true
 else
 if p1>0 then
  A5 c p1>>=λf=>
  some (decide (p0>f))
 else
 some false
 )>>=λ(g:Bool)=>
 if g=true then
  some (0,false)
 else
 some ((W (p0*p1)),true)
theorem WN{p0 p1 p2 r0 r1}(hm:Ra (p0,p1,p2)=some (r0,r1)):FQ 138 [(Qf p0),(Qf p1),(Qf p2)] (.tup [(Qd r0),(Qp r1)]):=by
 unfold Ra at hm
 exact fp (fn:=f138) rfl (ge 2 (Qg (Qg (bi hm λe c hm=>Xe (λd=>⟨sl d 38 [(0,(Qd p0)),(1,(Qd p1)),(34,(Qp e))],[]⟩) (have hm:=c;HE (Qe 3 (bi hm λv2 c hm=>Yy (j:=6) (λd=>⟨sl d 38 [(0,(Qd p0)),(1,(Qd p1)),(2,(Qd p2)),(13,(Qp v2))],[]⟩) (λd=>Qe 1 (bi hm λf c hm=>Yy (j:=11) (λd=>⟨sl d 38 [(0,(Qd p0)),(1,(Qd p1)),(2,(Qd p2)),(18,(Qp f))],[]⟩) (λd=>Qe 1 (bi hm λg c hm=>Yy (j:=16) (λd=>⟨sl d 38 [(0,(Qd p0)),(1,(Qd p1)),(2,(Qd p2)),(23,(Qp g))],[]⟩) (λd=>Qe 1 (mU 24 hm (λhm=>re 10 ⟨kr,zf⟩) (λhm=>Qe 3 (gs 27 hm (λhm=>Qe 3 (bi hm λl k hm=>QB rfl (λ_=>T3 (a:=p2) (b:=p1) k rfl kr kr) (re 3 ⟨kr,zf⟩))) (λhm=>re 7 ⟨kr,zf⟩))))) (λhJ=>mU 19 c (λhm=>Qe 4 zf) (λhm=>Qe 4 zf)))) (λhJ=>mU 14 c (λhm=>Qe 4 zf) (λhm=>Qe 4 zf)))) (λhJ=>gs 10 c (λhm=>Qe 3 zf) (λhm=>Qe 3 zf))))) (λd=>mr hm (λhm=>ge 2 (Qn zf)) (λhm=>Qr (ge 5 (Qn zf))))))))
def Ru(x:(Int×Int)):Option (Int×Bool):=
 match x with
 |(p0,p1)=>
 Ra (p0,p1,65536)>>=λ(c,v2)=>
 some (c,v2)
theorem Wo{p0 p1 r0 r1}(hm:Ru (p0,p1)=some (r0,r1)):FQ 137 [(Qf p0),(Qf p1)] (.tup [(Qd r0),(Qp r1)]):=by
 unfold Ru at hm;exact fp (fn:=f137) rfl (ge 2 (gr 2 (uy hm λd v2 c hm=>cp (WN c) (re 4 (Qn zf)))))
def QP(x:((fj)×Int×Int)):Option (Int⊕ Int):=
 match x with
 |(p0,d,c)=>
 if c<(p0.length:Int)then
  idx p0 c>>=λf=>
  Ru (d,f)>>=λ(e,g)=>
  if g=false then
   some (Sum.inl e)
  else
  QP (p0,e,(W (c+1)))
 else
 some (Sum.inr d)
 partial_fixpoint
theorem YP:∀x r,QP x=some r->match x with|(p0,c,e)=>LQ f179 179 [1,1,0,1,0,0] 0 ⟨kp 31 [(2,(.dat (.raw (.func (.func 137) #[] #[])))),(8,(Qd c)),(13,(La p0)),(14,(Qd (p0.length:Int))),(15,(Qd e))],[]⟩ (P2 .ret (λf d=>⟨sl d 31 [(6,(Qd f)),(7,(Qp false))],[]⟩) (.exit 0) (λg d=>⟨sl d 31 [(8,(Qd g))],[]⟩) r):=by
 refine QP.partial_correctness _ (λQP YP x r hm=>?_);obtain⟨p0,c,e⟩:=x;exact lp (ge 1 (Qg (ri hm (λhm=>Qr (Qg (Qo (Qg (gd (QY 1 Qf hm λj hm=>re 2 (gr 3 (uy hm λk l m hm=>cp (Wo m) (re 5 (ge 2 (HF hm (λhm=>ge 3 (Qn zf)) (λhm=>Qr (gd (re 2 (YP _ _ hm _ kr))))))))))))))) (λhm=>QO zf))))
def Yq(x:((fj)×Int)):Option (Int×Bool):=
 match x with
 |(p0,p1)=>
 (
 QP (p0,p1,0)>>=λout=>
 match out with
 | .inl c=>
  some (c,false)
 | .inr (d)=>
  some (d,true)
 )
theorem Vn{p0 p1 r0 r1}(hm:Yq (p0,p1)=some (r0,r1)):FQ 179 [(Lb p0),(Qf p1),(.raw (.func (.func 137) #[] #[]))] (.tup [(Qd r0),(Qp r1)]):=by
 unfold Yq at hm;exact fp (fn:=f179) rfl (ge 2 (ge 3 (Qg (gr 1 (QZ Qf p0 (re 1 (Qo (rN hm (YP _) (λc d hm=>zf) λe d hm=>ge 3 (Qn zf)))))))))
def Yp(x:((fj)×Int)):Option (Int×Int):=
 match x with
 |(p0,p1)=>
 Pp p0>>=λc=>
 if c≠0 then
  some (0,c)
 else
 Yq (p0,p1)>>=λ(v2,d)=>
 if d=false then
  some (0,7)
 else
 some (v2,0)
theorem Uv{p0 p1 r0 r1}(hm:Yp (p0,p1)=some (r0,r1)):FQ 136 [(Lb p0),(Qf p1),(.raw (.func (.func 137) #[] #[]))] (.tup [(Qd r0),(Qd r1)]):=by
 unfold Yp at hm;exact fp (fn:=f136) rfl (ge 2 (Qg (gr 1 (bi hm λd c hm=>cp (Uu c) (re 1 (ge 2 (Eo hm (λhm=>ge 3 (Qn zf)) (λhm=>Qr (gr 3 (uy hm λv2 e c hm=>cp (Vn c) (re 5 (Qg (ge 2 (HF hm (λhm=>ge 2 (Qn zf)) (λhm=>Qr (ge 3 (Qn zf)))))))))))))))))
def Jf(x:(fj)):Option (Int×Int):=
 match x with
 |p0=>
 Pp p0>>=λc=>
 (if c=0 then
  Ys (p0,0)>>=λd=>
  some d
 else
 some false
 )>>=λ(v2:Bool)=>
 if v2=true then
  some (0,0)
 else
 Yp (p0,1)>>=λ(e,f)=>
 some (e,f)
theorem TB{p0 r0 r1}(hm:Jf p0=some (r0,r1)):FQ 99 [(Lb p0)] (.tup [(Qd r0),(Qd r1)]):=by
 unfold Jf at hm;exact fp (fn:=f99) rfl (ge 2 (Qg (gr 1 (bi hm λf c hm=>cp (Uu c) (re 1 (Qg (bi hm λv2 e hm=>Xe (λd=>⟨sl d 17 [(0,(La p0)),(12,(Qp v2))],[]⟩) (have hm:=e;gd (Qe 3 (HD 9 hm (λhm=>Qe 1 (bi hm λg c hm=>cp (WQ c) (re 1 zf))) (λhm=>re 3 zf)))) (λd=>mr hm (λhm=>ge 2 (Qn zf)) (λhm=>Qr (gr 1 (uy hm λj k c hm=>cp (Uv c) (re 4 (Qn zf)))))))))))))
def JN(x:(fj)):Option Int:=
 match x with
 |p0=>
 Jf p0>>=λ(d,v2)=>
 (if v2≠6 then
  some (decide ((p0.length:Int)>16))
 else
 some false
 )>>=λ(c:Bool)=>
 if c=true then
  some 7
 else
 some v2
theorem TP{p0 r0}(hm:JN p0=some r0):FQ 52 [(Lb p0)] (Qd r0):=by
 unfold JN at hm;exact fp (fn:=f52) rfl (ge 1 (gr 1 (uy hm λg v2 c hm=>cp (TB c) (re 5 (Qg (Qg (bi hm λe f hm=>Xe (λd=>⟨sl d 18 [(4,(Qd v2)),(16,(Qp e))],[]⟩) (have hm:=f;gd (Qe 3 (LB 12 hm (λhm=>Qe 1 (QZ Qf p0 (re 2 zf))) (λhm=>re 4 zf)))) (λd=>mr hm (λhm=>ge 1 (Qn zf)) (λhm=>Qr (ge 2 (Qn zf)))))))))))
def Xf(x:(fj)):Option Int:=
 match x with
 |p0=>
 JN p0>>=λc=>
 if c≠0 then
  some 0
 else
 Jf p0>>=λ(v2,d)=>
 some v2
theorem PG{p0 r0}(hm:Xf p0=some r0):FQ 102 [(Lb p0)] (Qd r0):=by
 unfold Xf at hm;exact fp (fn:=f102) rfl (ge 1 (Qg (gr 1 (bi hm λd c hm=>cp (TP c) (re 1 (Eo hm (λhm=>ge 1 (Qn zf)) (λhm=>Qr (gr 1 (uy hm λv2 e c hm=>cp (TB c) (re 5 (ge 2 (Qn zf))))))))))))
def Ye(x:((fj)×(fj)×(fj)×Int×Int)):Option ((fj)):=
 match x with
 |(p0,v2,d,e,c)=>
 if c<(p0.length:Int)then
  QR (d.length=v2.length)>>=λ_=>
  idx d (W ((W ((p0.length:Int) - 1)) - c))>>=λj=>
  iL d (W ((W ((p0.length:Int) - 1)) - c)) e>>=λf=>
  idx p0 (W ((W ((p0.length:Int) - 1)) - c))>>=λg=>
  Ye (p0,v2,f,(W (e*g)),(W (c+1)))
 else
 some d
 partial_fixpoint
theorem SP:∀x r,Ye x=some r->match x with|(p0,v2,c,g,f)=>LQ f155 155 [1,1,1,1,1,0,1,0,0] 1 ⟨kp 39 [(0,(La p0)),(3,(.arr 0 0 v2.length v2.length)),(4,(Qd g)),(18,(Qd (p0.length:Int))),(19,(Qd f))],[(.box (cellsOf Qf c))]⟩ (P1 (.exit 0) (λp d=>⟨sl d 39 [(3,(.arr 0 0 v2.length v2.length))],[(.box (cellsOf Qf p))]⟩) r):=by
 refine Ye.partial_correctness _ (λYe SP x r hm=>?_);obtain⟨p0,v2,c,g,f⟩:=x;exact lp (ge 1 (Qg (ri hm (λhm=>Qr (Qg (Qo (ge 2 (gr 1 (QZ Qf p0 (re 4 (gr 3 (gi hm λk hm=>bi hm λs q hm=>QB rfl (λ_=>P0 (e:=3) (l:=c) (n:=(W ((W ((p0.length:Int) - 1)) - f))) (i:=0) (cap:=v2.length) (m:=v2.length) q k kr kr rfl kr kr) (bi hm λj q hm=>Zz (λH=>H.set 0 (.box (cellsOf Qf j))) rfl kr (λ_=>Rz Qf (l:=c) (n:=(W ((W ((p0.length:Int) - 1)) - f))) (y:=g) q yB kr rfl kr kr kr kr) (Q6 (gd (Qe 3 (QY 1 Qf hm λt hm=>re 3 (gd (re 2 (SP _ _ hm _ (fO [(.box (cellsOf Qf j))] (λ_=>(fD (kZ Qf _ _ _) iq)) rfl)))))))))))))))))) (λhm=>QO zf))))
def YK(x:(fj)):Option fj:=
 match x with
 |p0=>
 JN p0>>=λd=>
 if d≠0 then
  some ([]:(fj))
 else
 jb 8 (p0.length:Int) 0>>=λv2=>
 Xf p0>>=λe=>
 if e=0 then
  some v2
 else
 Ye (p0,v2,v2,1,0)>>=λc=>
 QR (c.length=v2.length)>>=λ_=>
 some c
theorem SB{p0 r0}(hm:YK p0=some r0):FQ 155 [(Lb p0)] (La r0):=by
 unfold YK at hm
 exact fp (fn:=f155) rfl (ge 1 (Qg (gr 1 (bi hm λk f hm=>cp (TP f) (re 1 (Eo hm (λhm=>ge 1 (Qn zf)) (λhm=>Qr (gr 1 (QZ Qf p0 (bi hm λv2 f hm=>Zz (v:=.arr 0 0 v2.length v2.length) (λH=>H++[.box (cellsOf Qf v2)]) rfl kr (by intro K j;exact Sd 0 Qf (z:=0) (n:=(p0.length:Int)) (bytes:=8) f (e:=3) kr kr kr kr rfl rfl kr kr j) (re 1 (Qg (gr 1 (bi hm λl f hm=>cp (PG f) (re 1 (sQ hm (λhm=>ge 2 (Qn (by obtain rfl:=xt hm;exact⟨trivial,JI [(.arr 0 0 v2.length v2.length)] kr (AX (qi Qf v2 rfl yB kr))⟩))) (λhm=>Qr (ge 1 (Qg (gr 1 (QZ Qf p0 (re 1 (Qo (nA hm (SP _) (λg d hm=>ge 2 (Qn (gi hm λc hm=>(by obtain rfl:=xt hm;exact⟨trivial,JI [(.arr 0 0 v2.length v2.length)] kr (AX (qi Qf g c yB kr))⟩)))) (hst:=(fO [(.box (cellsOf Qf v2))] (λ_=>(fD (kZ Qf _ _ _) iq)) rfl))))))))))))))))))))))))))
def Rt(x:(Int×(fj))):Option Qh:=
 match x with
 |(p0,p1)=>
 YK p1>>=λc=>
 some (⟨2,p0,0,c,0,0,0⟩:Qh)
theorem U0{p0 p1 r0}(hm:Rt (p0,p1)=some r0):FQ 112 [(Qf p0),(Lb p1)] (.dat (Qh.toD r0)):=by
 unfold Rt at hm;exact fp (fn:=f112) rfl (ge 1 (gr 2 (bi hm λd c hm=>cp (SB c) (re 2 (Qn zf)))))
def ZY(x:((fj)×(fj)×Int)):Option (Unit⊕ Unit):=
 match x with
 |(p0,p1,c)=>
 if c<(p0.length:Int)then
  idx p0 c>>=λd=>
  idx p1 c>>=λe=>
  if d>=e then
   some (Sum.inl ())
  else
  ZY (p0,p1,(W (c+1)))
 else
 some (Sum.inr ())
 partial_fixpoint
theorem Tt:∀x r,ZY x=some r->match x with|(p0,p1,c)=>LQ f94 94 [1,1,0,1,0,0] 0 ⟨kp 41 [(0,(La p0)),(1,(La p1)),(5,(Qd 1)),(9,(Qd (p0.length:Int))),(10,(Qd c))],[]⟩ (P2 .ret (λ_ d=>⟨sl d 41 [(4,(Qd 0))],[]⟩) (.exit 0) (λ_ d=>⟨sl d 41 [(0,(La p0)),(1,(La p1)),(5,(Qd 1))],[]⟩) r):=by
 refine ZY.partial_correctness _ (λZY Tt x r hm=>?_);obtain⟨p0,p1,c⟩:=x;exact lp (ge 1 (Qg (ri hm (λhm=>Qr (Qg (Qo (ge 2 (Qg (ZP (Qe 2 (QY 1 Qf hm λe hm=>Qe 3 (QY 1 Qf hm λf hm=>re 2 ⟨kr,ri hm (λhm=>ge 1 (Qn zf)) (λhm=>Qr (gd (re 2 (Tt _ _ hm _ kr))))⟩))))))))) (λhm=>QO zf))))
def ZZ(x:((fj)×(fj)×Int×Int)):Option (Int):=
 match x with
 |(p0,p1,d,c)=>
 if c<(p0.length:Int)then
  idx p1 c>>=λe=>
  idx p0 c>>=λf=>
  ZZ (p0,p1,(W (d*(W (e - f)))),(W (c+1)))
 else
 some d
 partial_fixpoint
theorem Sp:∀x r,ZZ x=some r->match x with|(p0,p1,c,e)=>LQ f94 94 [1,1,1,0,1,0,0] 0 ⟨kp 41 [(0,(La p0)),(1,(La p1)),(5,(Qd c)),(24,(Qd (p0.length:Int))),(25,(Qd e))],[]⟩ (P1 (.exit 2) (λf d=>⟨sl d 41 [(5,(Qd f))],[]⟩) r):=by
 refine ZZ.partial_correctness _ (λZZ Sp x r hm=>?_);obtain⟨p0,p1,c,e⟩:=x;exact lp (ge 1 (Qg (ri hm (λhm=>Qr (Qg (Qo (ge 2 (ZP (Qe 3 (QY 1 Qf hm λg hm=>Qe 3 (QY 1 Qf hm λj hm=>re 4 ⟨kr,gd (re 2 (Sp _ _ hm _ kr))⟩)))))))) (λhm=>QO zf))))
def Y9(x:((fj)×(fj))):Option Int:=
 match x with
 |(p0,p1)=>
 (
 ZY (p0,p1,0)>>=λout=>
 match out with
 | .inl _=>
  some 0
 | .inr (_)=>
  ZZ (p0,p1,1,0)>>=λc=>
  some c
 )
theorem Sg{p0 p1 r0}(hm:Y9 (p0,p1)=some r0):FQ 94 [(Lb p0),(Lb p1)] (Qd r0):=by
 unfold Y9 at hm;exact fp (fn:=f94) rfl (ge 1 (ge 1 (Qg (gr 1 (QZ Qf p0 (re 1 (Qo (rN hm (Tt _) (λ_ d hm=>zf) λ_ d hm=>Qg (gr 1 (QZ Qf p0 (re 1 (Qo (nA hm (Sp _) λc d hm=>ge 2 (Qn zf))))))))))))))
def Ph(x:Ql):Option Int:=
 match x with
 |p0=>
 Y9 (p0.lo,p0.hi)>>=λc=>
 some c
theorem Uo{p0 r0}(hm:Ph p0=some r0):FQ 49 [(Ql.toD p0)] (Qd r0):=by
 unfold Ph at hm;exact fp (fn:=f49) rfl (ge 2 (gr 4 (bi hm λd c hm=>cp (Sg c) (re 1 (Qn zf)))))
def RP(x:Qa):Option Bool:=
 match x with
 |p0=>
 Ph (⟨p0.box.lo,p0.box.hi⟩:Ql)>>=λc=>
 some (decide (c>0))
theorem WM{p0 r0}(hm:RP p0=some r0):FQ 152 [(Qa.toD p0)] (Qp r0):=by
 unfold RP at hm;exact fp (fn:=f152) rfl (ge 2 (gr 2 (bi hm λd c hm=>cp (Uo c) (re 2 (Qn zf)))))
def QL(x:((List Qa)×Nat×(List Qa)×Int)):Option ((Nat×(List Qa))):=
 match x with
 |(q0,d,e,c)=>
 if c<(q0.length:Int)then
  idx q0 c>>=λf=>
  RP f>>=λg=>
  if g=true then
   app 120 e ([f]:List Qa)>>=λj=>
   QL (q0,(d+1),j,(W (c+1)))
  else
  QL (q0,d,e,(W (c+1)))
 else
 some (d,e)
 partial_fixpoint
theorem ZO:∀x r,QL x=some r->match x with|(q0,c,f,n)=>LQ f151 151 [1,1,0,1,0,0] 1 ⟨kp 23 [(1,(.dat (.raw (.func (.func 152) #[] #[])))),(5,(.ms 0 c 0 f.length f.length)),(8,(QX q0)),(9,(Qd (q0.length:Int))),(10,(Qd n))],[(JY c f)]⟩ (P1 (.exit 0) (λ(p,k) d=>⟨sl d 23 [(5,(.ms 0 p 0 k.length k.length))],[(JY p k)]⟩) r):=by
 refine QL.partial_correctness _ (λQL ZO x r hm=>?_);obtain⟨q0,c,f,n⟩:=x;exact lp (ge 1 (Qg (ri hm (λhm=>Qr (Qg (Qo (Qg (gd (QY 9 Qa.toD hm λq hm=>re 3 (gr 2 (bi hm λt s hm=>cp (WM s) (Q6 (mr hm (λhm=>gd (Qe 3 (bi hm λj s hm=>Zz (v:=.ms 0 (c+1) 0 j.length j.length) (λH=>H.set 0 (RU c j)) rfl kr (λ_ u=>S7 Qa.toD (l:=f) (es:=([q]:List Qa)) (bytes:=120) (e:=62) (tt:=0) (g:=c) (m:=f.length) (size:=9) s Qa.fit rfl kr kr rfl kr kr rfl rfl kr rfl kr kr u) (re 1 (gd (re 2 (ZO _ _ hm _ (fO [(RU c j)] (λ_=>(fD (fX Qa.toD _ _ _ _ _) iq)) rfl)))))))) (λhm=>Qr (gd (re 2 (ZO _ _ hm _ (fO [(JY c f)] (λ_=>(fD (fX Qa.toD _ _ _ _ _) iq)) rfl))))))))))))))) (λhm=>QO zf))))
def Yk(x:(List Qa)):Option ((Nat×(List Qa))):=
 match x with
 |q0=>
 QL (q0,0,([]:List Qa),0)>>=λ(c,d)=>
 some (c,d)
theorem VW{q0 v5001 v5002}(hm:Yk q0=some (v5001,v5002)):PC prog env 151 [(QX q0),(.dat (.raw (.func (.func 152) #[] #[])))] [] (.ms 0 v5001 0 v5002.length v5002.length) [(JY v5001 v5002)]:=by
 unfold Yk at hm;exact gB (fn:=f151) rfl (ge 1 (ge 1 (Qg (gr 1 (QZ Qa.toD q0 (re 1 (Qo (nA hm (ZO _) (λ⟨c,e⟩ d hm=>ge 2 (Qn zf)) (hst:=(fO [(.mt 62 0 (cellsOf Qa.toD ([]:List Qa)))] (λ_=>(fD (fX Qa.toD _ _ _ _ _) iq)) rfl))))))))))
def Zq(x:(List Qa)):Option (List Qa):=
 match x with
 |p0=>
 Yk p0>>=λ(d,v2)=>
 Br v2>>=λc=>
 QR (c.length=v2.length)>>=λ_=>
 some c
theorem XN{p0 r0}(hm:Zq p0=some r0):FQ 110 [(.lst ((List.map Qa.toD) p0))] (QX r0):=by
 unfold Zq at hm;exact fp (fn:=f110) rfl (ge 1 (gr 1 (uy hm λj v2 c hm=>go 0 62 Qa.toD (ds:=[(.lst ((List.map Qa.toD) p0)),(.raw (.func (.func 152) #[] #[]))]) (VW c) (re 1 (gr 1 (bi hm λf c hm=>Q5 (VY (g:=1) (cap:=v2.length) c) (Q6 (ge 2 (Qn (gi hm λd hm=>(by obtain rfl:=xt hm;exact⟨trivial,JI [(.ms 0 1 0 v2.length v2.length)] kr (Nt (IG (e:=62) Qa.toD f d yB kr))⟩)))))))))))
def Rh(x:(Int×(fj))):Option (List Qa):=
 match x with
 |(p0,p1)=>
 Yu p1>>=λ(f,v2,c)=>
 Rt (p0,p1)>>=λd=>
 Zq ([(⟨(⟨v2,c⟩:Ql),d⟩:Qa)]:List Qa)>>=λe=>
 some e
theorem VP{p0 p1 r0}(hm:Rh (p0,p1)=some r0):FQ 66 [(Qf p0),(Lb p1)] (QX r0):=by
 unfold Rh at hm;exact fp (fn:=f66) rfl (ge 1 (gr 1 (Nd hm λg v2 c d hm=>QB (v:=.dat (.agg [(Lb v2),(Lb c)])) rfl (λ_=>Jg (f:=111) (first:=#[]) (cap:=#[]) (e:=3) (ow':=[]) (ds:=[(Lb p1)]) (p:=(.agg [(.ms 1 g 0 v2.length v2.length),(.ms 2 1 0 c.length c.length)])) (H1:=(P6 g v2.length c.length v2 c)) rfl kr kr kr kr (JT d) (vp (fK (kG (e:=3) Qf v2 rfl yB kr) (fK (kG (e:=3) Qf c rfl yB kr) mT)))) (Qe 2 (bi hm λj d hm=>cp (U0 d) (Qe 2 (bi hm λk d hm=>cp (XN d) (re 1 (Qn zf)))))))))
def Jo(x:(Qj×(List (List Qa)))):Option (List Qa):=
 match x with
 |(p0,p1)=>
 Rh (p0.buffer,p0.shape)>>=λc=>
 some c
theorem WR{p0 p1 r0}(hm:Jo (p0,p1)=some r0):FQ 65 [(Qj.ex p0),(.lst ((List.map (λl=>fy.lst ((List.map Qa.toD) l))) p1))] (QX r0):=by
 unfold Jo at hm;exact fp (fn:=f65) rfl (ge 2 (gr 4 (bi hm λd c hm=>cp (VP c) (re 1 (Qn zf)))))
def YZ(x:(Int×Int×Int×(fj)×Int×Int×Int×Int×Int)):Option (((fj)×Int)):=
 match x with
 |(q0,q1,q2,q3,q4,q5,q6,q7,d)=>
 Qu q3>>=λc=>
 if q0=3 then
  some (c,q4)
 else
 some (c,q2)
theorem Ud{q0 q1 q2 q3 q4 q5 q6 q7 q8 v5001 v5002}(hm:YZ (q0,q1,q2,q3,q4,q5,q6,q7,q8)=some (v5001,v5002)):PC prog env 192 [(JX q0 q1 q2 q3 q4 q5 q6)] [(QA q0 q1 q2 q3 q4 q5 q6),(.box [(Qd q7)]),(.box [(Qd q8)]),Zc,(QA q0 q1 q2 q3 q4 q5 q6),Zc] (.ptr 8 0) (Jb q0 q1 q2 q3 q4 q5 q6 q7 q8 v5001 v5002 v5001.length):=by
 unfold YZ at hm;exact gB (fn:=f192) rfl (ge 2 (Qg (ZP (Qe 4 (bi hm λd c hm=>go 7 3 Qf (Qz c) (re 5 ⟨kr,Qg (ge 3 (sQ hm (λhm=>gd (re 7 (ge 2 (Qn zf)))) (λhm=>Qr (ge 2 (Qn zf)))))⟩))))))
def Z1(x:(Int×Int×Int×Int×Int×(fj)×Int×Int×Int×(fj)×Int)):Option (Int):=
 match x with
 |(q0,q1,q2,q3,q4,q5,q6,q7,e,d,c)=>
 idx d q0>>=λf=>
 idx d q0>>=λv2=>
 some (W (c+(W (q1*v2))))
theorem UI{q0 q1 q2 q3 q4 q5 q6 q7 q8 q9 q10 v5001}(hm:Z1 (q0,q1,q2,q3,q4,q5,q6,q7,q8,q9,q10)=some v5001):PC prog env 158 [(.ptr 8 0),(Qd q0),(Qd q1)] (Jb q2 q3 q4 q5 q6 q7 q8 q0 q1 q9 q10 q9.length) (.tup []) (Jb q2 q3 q4 q5 q6 q7 q8 q0 q1 q9 v5001 q9.length):=by
 unfold Z1 at hm;exact gB (fn:=f158) rfl (ZP (Qe 10 (bi hm λd c hm=>QB rfl (λ_=>Q9 (e:=3) (n:=q0) (j:=(q0).toNat) (tt:=7) (g:=1) (lo:=0) (len:=q9.length) (cap:=q9.length) (k:=.i64) kr kr rfl kr kr (gx c) (zA (gV c) rfl)) (bi hm λv2 c hm=>QB rfl (λ_=>Xv (tt:=7) (g:=1) (j:=(0+(q0).toNat)) (e:=3) (cs:=cellsOf Qf q9) (v:=.dat (Qf v2)) kr kr rfl kr (ZN kr) (gK Qf c)) (re 5 ⟨kr,zf⟩)))))
def YR(x:(Int×Int×Int×(fj)×Int×Int×Int×Int×Int×(fj)×Int)):Option (Int):=
 match x with
 |(q0,q1,q2,q3,q4,q5,q6,q7,d,e,c)=>
 Z1 (q7,d,q0,q1,q2,q3,q4,q5,q6,e,c)>>=λf=>
 some f
theorem UN{q0 q1 q2 q3 q4 q5 q6 q7 q8 q9 q10 v5001}(hm:YR (q0,q1,q2,q3,q4,q5,q6,q7,q8,q9,q10)=some v5001):PC prog env 157 [(.ptr 8 0),(.ptr 1 0),(.ptr 2 0)] (Jb q0 q1 q2 q3 q4 q5 q6 q7 q8 q9 q10 q9.length) (.tup []) (Jb q0 q1 q2 q3 q4 q5 q6 q7 q8 q9 v5001 q9.length):=by
 unfold YR at hm;exact gB (fn:=f157) rfl (ZP (Qe 5 (bi hm λd c hm=>Q5 (UI c) (Q6 ⟨kr,zf⟩))))
def ZL(x:(Int×Int×Int×(fj)×Int×Int×Int×Int×Int×(fj)×Int)):Option ((Int×Int×Int×Int×Int×Int)):=
 match x with
 |(q0,q1,q2,q3,q4,q5,q6,q7,d,e,c)=>
 if q0=3 then
  some (q2,c,q2,c,q2,c)
 else
 some (c,q4,c,q4,c,q4)
theorem VN{q0 q1 q2 q3 q4 q5 q6 q7 q8 q9 q10 v5001 v5002 v5003 v5004 v5005 v5006}(hm:ZL (q0,q1,q2,q3,q4,q5,q6,q7,q8,q9,q10)=some (v5001,v5002,v5003,v5004,v5005,v5006)):PC prog env 193 [(.ptr 8 0)] (Jb q0 q1 q2 q3 q4 q5 q6 q7 q8 q9 q10 q9.length) (.agg [(Qd q0),(Qd q1),(Qd v5005),(.ms 7 1 0 q9.length q9.length),(Qd v5006),(Qd q5),(Qd q6)]) [(QA q0 q1 q2 q3 q4 q5 q6),(.box [(Qd q7)]),(.box [(Qd q8)]),Zc,(QA q0 q1 q2 q3 q4 q5 q6),Zc,(QA q0 q1 q2 q3 q4 q5 q6),(QG q9),(LF q10 q9.length q0 q1 q2 q3 q4 q5 q6),(Lz q0 q1 v5001 q9.length v5002 q5 q6),(Lz q0 q1 v5003 q9.length v5004 q5 q6)]:=by
 unfold ZL at hm;exact gB (fn:=f193) rfl (ge 1 (ge 6 (ge 7 (Qg (ge 3 (sQ hm (λhm=>gd (re 7 (ge 2 (Qn zf)))) (λhm=>gd (re 7 (ge 2 (Qn zf))))))))))
def Xj(x:(Int×Int×Int×(fj)×Int×Int×Int×Int×Int)):Option (Unit⊕ ((fj)×Int×Int×Int×Int×Int×Int×Int×Int×Int)):=
 match x with
 |(q0,q1,q2,q3,q4,q5,q6,q7,c)=>
 if q0=1 then
  some (Sum.inl ())
 else
 YZ (q0,q1,q2,q3,q4,q5,q6,q7,c)>>=λ(d,v2)=>
 YR (q0,q1,q2,q3,q4,q5,q6,q7,c,d,v2)>>=λe=>
 ZL (q0,q1,q2,q3,q4,q5,q6,q7,c,d,e)>>=λ(j,k,l,m,f,g)=>
 some (Sum.inr (d,f,g,e,j,k,l,m,f,g))
theorem Uc{q0 q1 q2 q3 q4 q5 q6 q7 q8 r}(hm:Xj (q0,q1,q2,q3,q4,q5,q6,q7,q8)=some r):PC prog env 156 [(JX q0 q1 q2 q3 q4 q5 q6),(.fn 157 [(.ptr 1 0),(.ptr 2 0)])] [(QA q0 q1 q2 q3 q4 q5 q6),(.box [(Qd q7)]),(.box [(Qd q8)]),Zc] (match r with|.inl _=>(JX q0 q1 q2 q3 q4 q5 q6)|.inr ((c,d,e,f,g,j,k,l,m,n))=>(.agg [(Qd q0),(Qd q1),(Qd m),(.ms 7 1 0 c.length c.length),(Qd n),(Qd q5),(Qd q6)])) (match r with|.inl _=>(TJ q0 q1 q2 q3 q4 q5 q6 q7 q8)|.inr ((c,d,e,f,g,j,k,l,m,n))=>[(QA q0 q1 q2 q3 q4 q5 q6),(.box [(Qd q7)]),(.box [(Qd q8)]),Zc,(QA q0 q1 q2 q3 q4 q5 q6),(Lz q0 q1 d c.length e q5 q6),(QA q0 q1 q2 q3 q4 q5 q6),(QG c),(LF f c.length q0 q1 q2 q3 q4 q5 q6),(Lz q0 q1 g c.length j q5 q6),(Lz q0 q1 k c.length l q5 q6)]):=by
 unfold Xj at hm;exact gB (fn:=f156) rfl (ge 2 (Qg (ge 3 (sQ hm (λhm=>ge 2 (Qn zf)) (λhm=>Qr (gr 1 (uy hm λq v2 p hm=>Q5 (Ud p) (re 1 (gr 2 (bi hm λs p hm=>Q5 (UN p) (Q6 (gr 1 (PW hm λt u v w x y p hm=>Q5 (VN p) (re 1 (Qn zf)))))))))))))))
def Xh(x:(Qh×Int×Int)):Option Qh:=
 match x with
 |(p0,p1,d)=>
 (
 Xj (p0.kind,p0.buffer,p0.base,p0.strides,p0.start,p0.step,p0.mod,p1,d)>>=λout=>
 match out with
 | .inl _=>
  some p0
 | .inr ((e,v2,g,j,k,l,m,n,f,c))=>
  some (⟨p0.kind,p0.buffer,f,e,c,p0.step,p0.mod⟩:Qh)
 )
theorem TN{p0 p1 p2 r0}(hm:Xh (p0,p1,p2)=some r0):FQ 113 [(Qh.toD p0),(Qf p1),(Qf p2)] (.dat (Qh.toD r0)):=by
 unfold Xh at hm;exact fp (fn:=f113) rfl (ge 4 (gr 2 (bs hm (λ_ c hm=>Q5 (Uc c) (re 1 (Qn zf))) λ⟨d,v2,j,k,l,m,n,p,g,f⟩ c hm=>Q5 (Uc c) (re 1 (Qn (by obtain rfl:=xt hm;exact⟨trivial,JI [(.agg [(Qd p0.kind),(Qd p0.buffer),(Qd g),(.ms 7 1 0 d.length d.length),(Qd f),(Qd p0.step),(Qd p0.mod)])] kr (tC (fK kr (fK kr (fK kr (fK (kG (e:=3) Qf d rfl yB kr) (fK kr (fK kr (fK kr mT))))))))⟩))))))
def Yb(x:((fj)×(fj)×(fj)×(fj)×(fj)×(fj)×Int)):Option (((fj)×(fj))):=
 match x with
 |(p,p0,q,p1,k,l,e)=>
 if e<(p.length:Int)then
  idx p e>>=λc=>
  idx p0 e>>=λd=>
  idx q e>>=λf=>
  app 8 k ([(if f<(if(W (d - c))<0 then 0 else(W (d - c)))then f else(if(W (d - c))<0 then 0 else(W (d - c))))]:fj)>>=λm=>
  idx p1 e>>=λg=>
  idx q e>>=λj=>
  app 8 l ([(if(if f<(if(W (d - c))<0 then 0 else(W (d - c)))then f else(if(W (d - c))<0 then 0 else(W (d - c))))<(if j<(W (g - c))then j else(W (g - c)))then(if j<(W (g - c))then j else(W (g - c)))else(if f<(if(W (d - c))<0 then 0 else(W (d - c)))then f else(if(W (d - c))<0 then 0 else(W (d - c)))))]:fj)>>=λn=>
  Yb (p,p0,q,p1,m,n,(W (e+1)))
 else
 some (k,l)
 partial_fixpoint
theorem Ty:∀x r,Yb x=some r->match x with|(w,p0,z,p1,l,p,q)=>LQ f114 114 [1,1,0,1,0,0] 4 ⟨kp 58 [(0,(La p0)),(1,(La p1)),(2,(La z)),(8,(.ptr 0 0)),(9,(.ptr 1 0)),(13,(La w)),(14,(Qd (w.length:Int))),(15,(Qd q))],[(.box [Ea,Ea]),(.box [(Ub l),(.vec 3 ((List.map Qf) p))]),(.tok 3 l.length),(.tok 3 p.length)]⟩ (P1 (.exit 0) (λ(s,t) d=>⟨sl d 58 [(8,(.ptr 0 0)),(9,(.ptr 1 0))],[(.box [Ea,Ea]),(.box [(Ub s),(.vec 3 ((List.map Qf) t))]),(.tok 3 s.length),(.tok 3 t.length)]⟩) r):=by
 refine Yb.partial_correctness _ (λYb Ty x r hm=>?_);obtain⟨w,p0,z,p1,l,p,q⟩:=x
 exact lp (ge 1 (Qg (ri hm (λhm=>Qr (Qg (Qo (gr 1 (QY 1 Qf hm λc hm=>re 3 (Qg (ZP (Qe 2 (QY 1 Qf hm λe hm=>Qe 3 (QB rfl (λ_=>NB (k:=.i64) (m:=(W (e - c))) (n:=0) rfl kr kr) (Qe 2 (QY 1 Qf hm λf hm=>Qe 1 (QB rfl (λ_=>MS (k:=.i64) (m:=(if(W (e - c))<0 then 0 else(W (e - c)))) (n:=f) rfl kr kr) (re 1 ⟨kr,gr 4 (bi hm λu y hm=>Jh 3 1 8 2 Qf l ([(if f<(if(W (e - c))<0 then 0 else(W (e - c)))then f else(if(W (e - c))<0 then 0 else(W (e - c))))]:fj) u (xs:=(List.map Qf) l) (es:=(List.map Qf) ([(if f<(if(W (e - c))<0 then 0 else(W (e - c)))then f else(if(W (e - c))<0 then 0 else(W (e - c))))]:fj)) (L:=(List.map Qf)) yB rfl rfl yB y (re 2 (ZP (Qe 5 (QY 1 Qf hm λg hm=>Qe 5 (QY 1 Qf hm λj hm=>Qe 1 (QB rfl (λ_=>MS (k:=.i64) (m:=(W (g - c))) (n:=j) rfl kr kr) (QB rfl (λ_=>NB (k:=.i64) (m:=(if f<(if(W (e - c))<0 then 0 else(W (e - c)))then f else(if(W (e - c))<0 then 0 else(W (e - c))))) (n:=(if j<(W (g - c))then j else(W (g - c)))) rfl kr kr) (Qe 1 (bi hm λv y hm=>Jh 3 1 8 3 Qf p ([(if(if f<(if(W (e - c))<0 then 0 else(W (e - c)))then f else(if(W (e - c))<0 then 0 else(W (e - c))))<(if j<(W (g - c))then j else(W (g - c)))then(if j<(W (g - c))then j else(W (g - c)))else(if f<(if(W (e - c))<0 then 0 else(W (e - c)))then f else(if(W (e - c))<0 then 0 else(W (e - c)))))]:fj) v (xs:=(List.map Qf) p) (es:=(List.map Qf) ([(if(if f<(if(W (e - c))<0 then 0 else(W (e - c)))then f else(if(W (e - c))<0 then 0 else(W (e - c))))<(if j<(W (g - c))then j else(W (g - c)))then(if j<(W (g - c))then j else(W (g - c)))else(if f<(if(W (e - c))<0 then 0 else(W (e - c)))then f else(if(W (e - c))<0 then 0 else(W (e - c)))))]:fj)) (L:=(List.map Qf)) yB rfl rfl yB y (re 2 ⟨kr,gd (re 2 (Ty _ _ hm _ kr))⟩)))))))))))⟩)))))))))))))) (λhm=>QO zf))))
def XS(x:((fj)×(fj)×(fj)×(fj))):Option Ql:=
 match x with
 |(p0,p1,e,f)=>
 Yb (f,p0,e,p1,([]:fj),([]:fj),0)>>=λ(c,d)=>
 some (⟨c,d⟩:Ql)
theorem TV{p0 p1 p2 p3 r0}(hm:XS (p0,p1,p2,p3)=some r0):FQ 114 [(Lb p0),(Lb p1),(Lb p2),(Lb p3)] (.dat (Ql.toD r0)):=by
 unfold XS at hm;exact fp (fn:=f114) rfl (ge 1 (ge 1 (Qg (gr 1 (QZ Qf p3 (re 1 (Qo (nA hm (Ty _) λ⟨c,e⟩ d hm=>ge 2 (Qn zf)))))))))
def JR(x:(Int×Int)):Option Int:=
 match x with
 |(p0,p1)=>
 some (if p0<p1 then p1 else p0)
theorem We{p0 p1 r0}(hm:JR (p0,p1)=some r0):FQ 140 [(Qf p0),(Qf p1)] (Qd r0):=by
 unfold JR at hm;exact fp (fn:=f140) rfl (ge 1 (gr 2 (QB rfl (λ_=>NB (k:=.i64) (m:=p0) (n:=p1) rfl kr kr) (re 1 (Qn zf)))))
def QU(x:((fj)×(fj)×(fj)×Int)):Option ((fj)):=
 match x with
 |(p0,p1,d,c)=>
 if c<(p0.length:Int)then
  idx p0 c>>=λe=>
  idx p1 c>>=λf=>
  JR (e,f)>>=λg=>
  app 8 d ([g]:fj)>>=λj=>
  QU (p0,p1,j,(W (c+1)))
 else
 some d
 partial_fixpoint
theorem YF:∀x r,QU x=some r->match x with|(p0,p1,c,e)=>LQ f139 139 [1,1,0,1,0,0] 1 ⟨kp 29 [(1,(La p1)),(2,(.dat (.raw (.func (.func 140) #[] #[])))),(7,(Pv c)),(10,(La p0)),(11,(Qd (p0.length:Int))),(12,(Qd e))],[(.tok 3 c.length)]⟩ (P1 (.exit 0) (λf d=>⟨sl d 29 [(7,(Pv f))],[(.tok 3 f.length)]⟩) r):=by
 refine QU.partial_correctness _ (λQU YF x r hm=>?_);obtain⟨p0,p1,c,e⟩:=x;exact lp (ge 1 (Qg (ri hm (λhm=>Qr (Qg (Qo (gr 1 (QY 1 Qf hm λl hm=>re 3 (gd (Qe 5 (QY 1 Qf hm λm hm=>Qe 1 (bi hm λg k hm=>cp (We k) (Qe 1 (bi hm λj k hm=>Jh 3 1 8 0 Qf c ([g]:fj) j (xs:=(List.map Qf) c) (es:=(List.map Qf) ([g]:fj)) (L:=(List.map Qf)) yB rfl rfl yB k (re 1 (gd (re 2 (YF _ _ hm _ kr))))))))))))))) (λhm=>QO zf))))
def Z3(x:((fj)×(fj))):Option fj:=
 match x with
 |(p0,p1)=>
 QU (p0,p1,([]:fj),0)>>=λc=>
 some c
theorem VX{p0 p1 r0}(hm:Z3 (p0,p1)=some r0):FQ 139 [(Lb p0),(Lb p1),(.raw (.func (.func 140) #[] #[]))] (La r0):=by
 unfold Z3 at hm;exact fp (fn:=f139) rfl (ge 1 (ge 1 (Qg (gr 1 (QZ Qf p0 (re 1 (Qo (nA hm (YF _) λc d hm=>ge 2 (Qn zf)))))))))
def JS(x:(Int×Int)):Option Int:=
 match x with
 |(p0,p1)=>
 some (if p1<p0 then p1 else p0)
theorem WL{p0 p1 r0}(hm:JS (p0,p1)=some r0):FQ 141 [(Qf p0),(Qf p1)] (Qd r0):=by
 unfold JS at hm;exact fp (fn:=f141) rfl (ge 1 (gr 2 (QB rfl (λ_=>MS (k:=.i64) (m:=p0) (n:=p1) rfl kr kr) (re 1 (Qn zf)))))
def QV(x:((fj)×(fj)×(fj)×Int)):Option ((fj)):=
 match x with
 |(p0,p1,d,c)=>
 if c<(p0.length:Int)then
  idx p0 c>>=λe=>
  idx p1 c>>=λf=>
  JS (e,f)>>=λg=>
  app 8 d ([g]:fj)>>=λj=>
  QV (p0,p1,j,(W (c+1)))
 else
 some d
 partial_fixpoint
theorem YG:∀x r,QV x=some r->match x with|(p0,p1,c,e)=>LQ f139 139 [1,1,0,1,0,0] 1 ⟨kp 29 [(1,(La p1)),(2,(.dat (.raw (.func (.func 141) #[] #[])))),(7,(Pv c)),(10,(La p0)),(11,(Qd (p0.length:Int))),(12,(Qd e))],[(.tok 3 c.length)]⟩ (P1 (.exit 0) (λf d=>⟨sl d 29 [(7,(Pv f))],[(.tok 3 f.length)]⟩) r):=by
 refine QV.partial_correctness _ (λQV YG x r hm=>?_);obtain⟨p0,p1,c,e⟩:=x;exact lp (ge 1 (Qg (ri hm (λhm=>Qr (Qg (Qo (gr 1 (QY 1 Qf hm λl hm=>re 3 (gd (Qe 5 (QY 1 Qf hm λm hm=>Qe 1 (bi hm λg k hm=>cp (WL k) (Qe 1 (bi hm λj k hm=>Jh 3 1 8 0 Qf c ([g]:fj) j (xs:=(List.map Qf) c) (es:=(List.map Qf) ([g]:fj)) (L:=(List.map Qf)) yB rfl rfl yB k (re 1 (gd (re 2 (YG _ _ hm _ kr))))))))))))))) (λhm=>QO zf))))
def Z4(x:((fj)×(fj))):Option fj:=
 match x with
 |(p0,p1)=>
 QV (p0,p1,([]:fj),0)>>=λc=>
 some c
theorem Wv{p0 p1 r0}(hm:Z4 (p0,p1)=some r0):FQ 139 [(Lb p0),(Lb p1),(.raw (.func (.func 141) #[] #[]))] (La r0):=by
 unfold Z4 at hm;exact fp (fn:=f139) rfl (ge 1 (ge 1 (Qg (gr 1 (QZ Qf p0 (re 1 (Qo (nA hm (YG _) λc d hm=>ge 2 (Qn zf)))))))))
def JD(x:(Ql×Ql)):Option (Ql×Bool):=
 match x with
 |(p0,p1)=>
 if(p0.lo.length:Int)≠(p1.lo.length:Int)then
  some ((⟨([]:(fj)),([]:(fj))⟩:Ql),false)
 else
 Z3 (p0.lo,p1.lo)>>=λc=>
 Z4 (p0.hi,p1.hi)>>=λv2=>
 Y9 (c,v2)>>=λd=>
 if d=0 then
  some ((⟨([]:(fj)),([]:(fj))⟩:Ql),false)
 else
 some ((⟨c,v2⟩:Ql),true)
theorem Wj{p0 p1 r0 r1}(hm:JD (p0,p1)=some (r0,r1)):FQ 101 [(Ql.toD p0),(Ql.toD p1)] (.tup [(.dat (Ql.toD r0)),(Qp r1)]):=by
 unfold JD at hm;exact fp (fn:=f101) rfl (ge 4 (Qg (gr 2 (QZ Qf p0.lo (Qe 2 (QZ Qf p1.lo (re 1 (Eo hm (λhm=>ge 3 (Qn zf)) (λhm=>Qr (gr 4 (bi hm λd c hm=>cp (VX c) (re 1 (gr 4 (bi hm λv2 c hm=>cp (Wv c) (re 1 (Qg (gr 2 (bi hm λe c hm=>cp (Sg c) (re 1 (sQ hm (λhm=>ge 3 (Qn zf)) (λhm=>Qr (ge 5 (Qn zf)))))))))))))))))))))))
def YB(x:Ql):Option Bool:=
 match x with
 |p0=>
 Ph p0>>=λc=>
 some (c==0)
theorem Rs{p0 r0}(hm:YB p0=some r0):FQ 195 [(Ql.toD p0)] (Qp r0):=by
 unfold YB at hm;exact fp (fn:=f195) rfl (ge 2 (gr 1 (bi hm λd c hm=>cp (Uo c) (re 2 (Qn zf)))))
def Zl(x:((fj)×(fj)×(fj)×(fj)×(fj)×(fj)×(fj)×(fj))):Option (Unit⊕ Unit):=
 match x with
 |(q0,q1,q2,q3,q4,q5,q6,q7)=>
 YB (⟨q6,q7⟩:Ql)>>=λc=>
 if c=true then
  some (Sum.inl ())
 else
 some (Sum.inr ())
theorem Y7{q0 q1 q2 q3 q4 q5 q6 q7 r}(hm:Zl (q0,q1,q2,q3,q4,q5,q6,q7)=some r):PC prog env 221 [(.arr 3 0 1 1),(.dat (.raw (.func (.func 195) #[] #[])))] (LA q0 q1 q2 q3 q4 q5 q6 q7) (match r with|.inl _=>(Qd 0)|.inr (_)=>(Qd (-1))) (match r with|.inl _=>(LA q0 q1 q2 q3 q4 q5 q6 q7)|.inr (_)=>(LA q0 q1 q2 q3 q4 q5 q6 q7)):=by
 unfold Zl at hm;exact gB (fn:=f221) rfl (ge 1 (Qg (gr 1 (Qe 1 (re 1 (Qo (Pl (p6 (st':=⟨kp 19 [(0,(.arr 3 0 1 1)),(1,(.dat (.raw (.func (.func 195) #[] #[])))),(7,(Qd 1)),(8,(Qd 0))],(LA q0 q1 q2 q3 q4 q5 q6 q7)⟩) kr (ge 1 (Qg (ON kr (Qr (Qg (Qo (ge 2 (gr 3 (Qe 1 (Qe 1 (bi hm λd c hm=>cp (Rs c) (Q6 (mr hm (λhm=>ge 2 (Qn zf)) (λhm=>Qr (gd (re 2 (p6 (st':=⟨kp 19 [(0,(.arr 3 0 1 1)),(1,(.dat (.raw (.func (.func 195) #[] #[])))),(7,(Qd 1)),(8,(Qd 1))],(LA q0 q1 q2 q3 q4 q5 q6 q7)⟩) kr (ge 1 (Qg (He kr (QO (ge 1 (Qn zf)))))))))))))))))))))))))))))))
def Zh(x:((fj)×(fj)×(fj)×(fj)×(fj)×(fj)×(fj)×(fj))):Option (Unit⊕ Unit):=
 match x with
 |(q0,q1,q2,q3,q4,q5,q6,q7)=>
 (
 Zl (q0,q1,q2,q3,q4,q5,q6,q7)>>=λout=>
 match out with
 | .inl _=>
  some (Sum.inl ())
 | .inr (_)=>
  some (Sum.inr ())
 )
theorem Y2{q0 q1 q2 q3 q4 q5 q6 q7 r}(hm:Zh (q0,q1,q2,q3,q4,q5,q6,q7)=some r):PC prog env 194 [(.arr 3 0 1 1),(.dat (.raw (.func (.func 195) #[] #[])))] (LA q0 q1 q2 q3 q4 q5 q6 q7) (match r with|.inl _=>(.arr 3 0 0 1)|.inr (_)=>(.arr 3 0 1 1)) (match r with|.inl _=>[(QC q0 q1),(QC q2 q3),(QC q4 q5),(.box [Ea,Ea])]|.inr (_)=>(LA q0 q1 q2 q3 q4 q5 q6 q7)):=by
 unfold Zh at hm;exact gB (fn:=f194) rfl (ge 1 (gr 2 (bs hm (λ_ c hm=>Q5 (Y7 c) (re 1 (Qg (ge 2 (He kr (Qr (Qg (ge 3 (Qo (Pl (p6 (st':=⟨kp 42 [(0,(.arr 3 0 1 1)),(1,(.dat (.raw (.func (.func 195) #[] #[])))),(5,(Qd 0)),(6,(Qd 1))],(LA q0 q1 q2 q3 q4 q5 q6 q7)⟩) kr (Qg (gr 2 (Qe 1 (re 1 (He kr (QO (gr 2 (Qe 1 (re 1 (gr 2 (Qe 1 (re 1 (Qn zf)))))))))))))))))))))))) λ_ c hm=>Q5 (Y7 c) (re 1 (Qg (ge 2 (ON kr (ge 2 (Qn zf)))))))))
def Jn(x:((fj)×(fj)×(fj)×(fj)×(fj)×(fj)×(fj)×(fj))):Option (Unit⊕ Unit):=
 match x with
 |(q0,q1,q2,q3,q4,q5,q6,q7)=>
 (
 Zh (q0,q1,q2,q3,q4,q5,q6,q7)>>=λout=>
 match out with
 | .inl _=>
  some (Sum.inl ())
 | .inr (_)=>
  some (Sum.inr ())
 )
theorem T5{q0 q1 q2 q3 q4 q5 q6 q7 r}(hm:Jn (q0,q1,q2,q3,q4,q5,q6,q7)=some r):PC prog env 159 [(.arr 3 0 1 1)] (LA q0 q1 q2 q3 q4 q5 q6 q7) (match r with|.inl _=>(.arr 3 0 0 1)|.inr (_)=>(.arr 3 0 1 1)) (match r with|.inl _=>[(QC q0 q1),(QC q2 q3),(QC q4 q5),(.box [Ea,Ea])]|.inr (_)=>(LA q0 q1 q2 q3 q4 q5 q6 q7)):=by
 unfold Jn at hm;exact gB (fn:=f159) rfl (ge 1 (gr 1 (bs hm (λ_ c hm=>Q5 (Y2 c) (re 1 (Qn zf))) λ_ c hm=>Q5 (Y2 c) (re 1 (Qn zf)))))
def X0(x:(Ql×Int×Int×Int)):Option Ql:=
 match x with
 |(p0,p1,f,g)=>
 Qu p0.lo>>=λc=>
 Qu p0.hi>>=λv2=>
 idx c p1>>=λj=>
 iL c p1 f>>=λd=>
 idx v2 p1>>=λk=>
 iL v2 p1 g>>=λe=>
 QR (d.length=c.length)>>=λ_=>
 QR (e.length=v2.length)>>=λ_=>
 some (⟨d,e⟩:Ql)
theorem Py{p0 p1 p2 p3 r0}(hm:X0 (p0,p1,p2,p3)=some r0):FQ 160 [(Ql.toD p0),(Qf p1),(Qf p2),(Qf p3)] (.dat (Ql.toD r0)):=by
 unfold X0 at hm
 exact fp (fn:=f160) rfl (ge 2 (Qg (ZP (Qe 2 (bi hm λd c hm=>go 2 3 Qf (Qz c) (Qe 2 (bi hm λv2 c hm=>go 3 3 Qf (Qz c) (re 3 ⟨kr,Qg (ZP (Qe 8 (bi hm λr c hm=>QB rfl (λ_=>Q9 (e:=3) (n:=p1) (j:=(p1).toNat) (tt:=2) (g:=1) (lo:=0) (len:=d.length) (cap:=d.length) (k:=.i64) kr kr rfl kr kr (gx c) (zA (gV c) rfl)) (bi hm λp c hm=>Zz (λH=>H.set 2 (QG p)) rfl kr (λ_=>D1 Qf (l:=d) (n:=p1) (y:=p2) c yB kr rfl kr kr kr kr) (bi hm λs c hm=>QB rfl (λ_=>Q9 (e:=3) (n:=p1) (j:=(p1).toNat) (tt:=3) (g:=1) (lo:=0) (len:=v2.length) (cap:=v2.length) (k:=.i64) kr kr rfl kr kr (gx c) (zA (gV c) rfl)) (bi hm λq c hm=>Zz (λH=>H.set 3 (QG q)) rfl kr (λ_=>D1 Qf (l:=v2) (n:=p1) (y:=p3) c yB kr rfl kr kr kr kr) (Q6 ⟨kr,ge 2 (Qn (gi hm λf hm=>gi hm λm hm=>(by obtain rfl:=xt hm;exact⟨trivial,JI [(.agg [(.ms 2 1 0 d.length d.length),(.ms 3 1 0 v2.length v2.length)])] kr (tC (fK (kG (e:=3) Qf p f yB kr) (fK (kG (e:=3) Qf q m yB kr) mT)))⟩)))⟩)))))))⟩))))))))
def Zk(x:((fj)×(fj)×(fj)×(fj)×(fj)×(fj)×(fj)×(fj)×(fj)×(fj)×(fj)×(fj)×Nat)):Option (Unit⊕ Unit⊕ Unit):=
 match x with
 |(q0,q1,q2,q3,q4,q5,q6,q7,e,f,c,d,g)=>
 YB (⟨e,f⟩:Ql)>>=λj=>
 if j=true then
  some (Sum.inl ())
 else
 YB (⟨c,d⟩:Ql)>>=λv2=>
 if v2=true then
  some (Sum.inr (Sum.inl ()))
 else
 some (Sum.inr (Sum.inr ()))
theorem Z0{q0 q1 q2 q3 q4 q5 q6 q7 q8 q9 q10 q11 q12 r}(hm:Zk (q0,q1,q2,q3,q4,q5,q6,q7,q8,q9,q10,q11,q12)=some r):PC prog env 221 [(.arr 5 0 2 2),(.dat (.raw (.func (.func 195) #[] #[])))] (XW q0 q1 q2 q3 q4 q5 q12 q6 q7 q8 q9 q10 q11) (match r with|.inl _=>(Qd 0)|.inr (.inl _)=>(Qd 1)|.inr (.inr (_))=>(Qd (-1))) (match r with|.inl _=>(XW q0 q1 q2 q3 q4 q5 q12 q6 q7 q8 q9 q10 q11)|.inr (.inl _)=>(XW q0 q1 q2 q3 q4 q5 q12 q6 q7 q8 q9 q10 q11)|.inr (.inr (_))=>(XW q0 q1 q2 q3 q4 q5 q12 q6 q7 q8 q9 q10 q11)):=by
 unfold Zk at hm
 exact gB (fn:=f221) rfl (ge 1 (Qg (gr 1 (Qe 1 (re 1 (Qo (Pl (p6 (st':=⟨kp 19 [(0,(.arr 5 0 2 2)),(1,(.dat (.raw (.func (.func 195) #[] #[])))),(7,(Qd 2)),(8,(Qd 0))],(XW q0 q1 q2 q3 q4 q5 q12 q6 q7 q8 q9 q10 q11)⟩) kr (ge 1 (Qg (ON kr (Qr (Qg (Qo (ge 2 (gr 3 (Qe 1 (Qe 1 (bi hm λd c hm=>cp (Rs c) (Q6 (mr hm (λhm=>ge 2 (Qn zf)) (λhm=>Qr (gd (re 2 (p6 (st':=⟨kp 19 [(0,(.arr 5 0 2 2)),(1,(.dat (.raw (.func (.func 195) #[] #[])))),(7,(Qd 2)),(8,(Qd 1))],(XW q0 q1 q2 q3 q4 q5 q12 q6 q7 q8 q9 q10 q11)⟩) kr (ge 1 (Qg (ON kr (Qr (Qg (Qo (ge 2 (gr 3 (Qe 1 (Qe 1 (bi hm λv2 c hm=>cp (Rs c) (Q6 (mr hm (λhm=>ge 2 (Qn zf)) (λhm=>Qr (gd (re 2 (p6 (st':=⟨kp 19 [(0,(.arr 5 0 2 2)),(1,(.dat (.raw (.func (.func 195) #[] #[])))),(7,(Qd 2)),(8,(Qd 2))],(XW q0 q1 q2 q3 q4 q5 q12 q6 q7 q8 q9 q10 q11)⟩) kr (ge 1 (Qg (He kr (QO (ge 1 (Qn zf))))))))))))))))))))))))))))))))))))))))))))))))
def Zg(x:((fj)×(fj)×(fj)×(fj)×(fj)×(fj)×(fj)×(fj)×(fj)×(fj)×(fj)×(fj)×Nat)):Option (((fj)×(fj))⊕ Unit⊕ Unit):=
 match x with
 |(q0,q1,q2,q3,q4,q5,q6,q7,f,g,c,d,e)=>
 (
 Zk (q0,q1,q2,q3,q4,q5,q6,q7,f,g,c,d,e)>>=λout=>
 match out with
 | .inl _=>
  YB (⟨c,d⟩:Ql)>>=λj=>
  if j=false then
   some (Sum.inl (c,d))
  else
  some (Sum.inr (Sum.inl ()))
 | .inr (.inl _)=>
  some (Sum.inl (f,g))
 | .inr (.inr (_))=>
  some (Sum.inr (Sum.inr ()))
 )
theorem ZM{q0 q1 q2 q3 q4 q5 q6 q7 q8 q9 q10 q11 q12 r}(hm:Zg (q0,q1,q2,q3,q4,q5,q6,q7,q8,q9,q10,q11,q12)=some r):PC prog env 194 [(.arr 5 0 2 2),(.dat (.raw (.func (.func 195) #[] #[])))] (XW q0 q1 q2 q3 q4 q5 q12 q6 q7 q8 q9 q10 q11) (match r with|.inl (c,d)=>(.arr 5 0 1 2)|.inr (.inl _)=>(.arr 5 0 0 2)|.inr (.inr (_))=>(.arr 5 0 2 2)) (match r with|.inl (c,d)=>[(QC q0 q1),(QC q2 q3),(QC q4 q5),(.tok 60 q12),(QC q6 q7),(.box [(La c),(La d),Ea,Ea])]|.inr (.inl _)=>[(QC q0 q1),(QC q2 q3),(QC q4 q5),(.tok 60 q12),(QC q6 q7),(.box [Ea,Ea,Ea,Ea])]|.inr (.inr (_))=>(XW q0 q1 q2 q3 q4 q5 q12 q6 q7 q8 q9 q10 q11)):=by
 unfold Zg at hm;refine gB (fn:=f194) rfl (ge 1 (gr 2 (bi hm λout f hm=>?_)));rcases out with _|_|_
 .have e:=Z0 f;refine Q5 e ?_;refine Qe 1 (Q6 (Qg (Qg (gd (Qe 2 (Q6 ?_))))));refine He (by kernel_rfl) ?_;refine Qr (Qg (Qg (gd (Qe 3 (Q6 (Qo ?_))))));refine Pl ?_;refine p6 (st':=⟨kp 42 [(0,(.arr 5 0 2 2)),(1,(.dat (.raw (.func (.func 195) #[] #[])))),(5,(Qd 0)),(6,(Qd 1))],(XW q0 q1 q2 q3 q4 q5 q12 q6 q7 q8 q9 q10 q11)⟩) (by kernel_rfl) ?_;refine Qg (Qg (gd (Qe 2 (Qe 1 (Qe 1 (Q6 ?_))))));refine ON (by kernel_rfl) ?_;refine Qr (Qg (Qo (Qg (gd (Qe 2 (Qe 1 (Qe 3 (Q6 (Qg (gd (Qe 2 ?_)))))))))));obtain⟨g,f,hm⟩:=Z9 hm;have e:=Rs f [];refine Y3 e ?_;refine Qe 1 (Q6 ?_);refine Pt hm (Td _) (λhm=>?_) (λhm=>?_)
  .refine Qg (gd (Qe 3 (Qe 1 (Qe 1 (Q6 (gd (Qe 3 (Q6 (gd (Qe 3 (Q6 ?_)))))))))));refine p6 (st':=⟨kp 42 [(0,(.arr 5 0 2 2)),(1,(.dat (.raw (.func (.func 195) #[] #[])))),(5,(Qd 1)),(6,(Qd 2))],[(QC q0 q1),(QC q2 q3),(QC q4 q5),(.tok 60 q12),(QC q6 q7),(.box [(La q10),(La q11),(La q10),(La q11)])]⟩) (by kernel_rfl) ?_;refine Qg (Qg (gd (Qe 2 (Qe 1 (Qe 1 (Q6 ?_))))));refine He (by kernel_rfl) ?_;refine QO (Qg (gd (Qe 2 (Qe 1 (Qe 1 (Q6 (Qg (gd (Qe 2 (Qe 1 (Qe 1 ?_)))))))))));refine Q6 (Qn ?_);obtain rfl:=xt hm;exact⟨trivial,NI (by kernel_rfl) (by kernel_rfl)⟩
  refine Qr (gd (Qe 3 (Q6 ?_)));refine p6 (st':=⟨kp 42 [(0,(.arr 5 0 2 2)),(1,(.dat (.raw (.func (.func 195) #[] #[])))),(5,(Qd 0)),(6,(Qd 2))],(XW q0 q1 q2 q3 q4 q5 q12 q6 q7 q8 q9 q10 q11)⟩) (by kernel_rfl) ?_;refine Qg (Qg (gd (Qe 2 (Qe 1 (Qe 1 (Q6 ?_))))));refine He (by kernel_rfl) ?_;refine QO (Qg (gd (Qe 2 (Qe 1 (Qe 1 (Q6 (Qg (gd (Qe 2 (Qe 1 (Qe 1 ?_)))))))))));refine Q6 (Qn ?_);obtain rfl:=xt hm;exact⟨trivial,NI (by kernel_rfl) (by kernel_rfl)⟩
 .have e:=Z0 f;refine Q5 e ?_;refine Qe 1 (Q6 (Qg (Qg (gd (Qe 2 (Q6 ?_))))));refine He (by kernel_rfl) ?_;refine Qr (Qg (Qg (gd (Qe 3 (Q6 (Qo ?_))))));refine Pl ?_;refine p6 (st':=⟨kp 42 [(0,(.arr 5 0 2 2)),(1,(.dat (.raw (.func (.func 195) #[] #[])))),(5,(Qd 1)),(6,(Qd 2))],(XW q0 q1 q2 q3 q4 q5 q12 q6 q7 q8 q9 q10 q11)⟩) (by kernel_rfl) ?_;refine Qg (Qg (gd (Qe 2 (Qe 1 (Qe 1 (Q6 ?_))))));refine He (by kernel_rfl) ?_;refine QO (Qg (gd (Qe 2 (Qe 1 (Qe 1 (Q6 (Qg (gd (Qe 2 (Qe 1 (Qe 1 ?_)))))))))));refine Q6 (Qn ?_);obtain rfl:=xt hm;exact⟨trivial,NI (by kernel_rfl) (by kernel_rfl)⟩
 .have e:=Z0 f;refine Q5 e ?_;refine Qe 1 (Q6 (Qg (Qg (gd (Qe 2 (Q6 ?_))))));refine ON (by kernel_rfl) ?_;refine Qg (gd (Qe 2 (Q6 (Qn ?_))));obtain rfl:=xt hm;exact⟨trivial,NI (by kernel_rfl) (by kernel_rfl)⟩
def XK(x:((fj)×(fj)×(fj)×(fj)×(fj)×(fj)×(fj)×(fj)×(fj)×(fj)×(fj)×(fj)×Nat)):Option (((fj)×(fj))⊕ Unit⊕ Unit):=
 match x with
 |(q0,q1,q2,q3,q4,q5,q6,q7,f,g,c,d,e)=>
 (
 Zg (q0,q1,q2,q3,q4,q5,q6,q7,f,g,c,d,e)>>=λout=>
 match out with
 | .inl (j,v2)=>
  some (Sum.inl (j,v2))
 | .inr (.inl _)=>
  some (Sum.inr (Sum.inl ()))
 | .inr (.inr (_))=>
  some (Sum.inr (Sum.inr ()))
 )
theorem R9{q0 q1 q2 q3 q4 q5 q6 q7 q8 q9 q10 q11 q12 r}(hm:XK (q0,q1,q2,q3,q4,q5,q6,q7,q8,q9,q10,q11,q12)=some r):PC prog env 159 [(.arr 5 0 2 2)] (XW q0 q1 q2 q3 q4 q5 q12 q6 q7 q8 q9 q10 q11) (match r with|.inl (c,d)=>(.arr 5 0 1 2)|.inr (.inl _)=>(.arr 5 0 0 2)|.inr (.inr (_))=>(.arr 5 0 2 2)) (match r with|.inl (c,d)=>[(QC q0 q1),(QC q2 q3),(QC q4 q5),(.tok 60 q12),(QC q6 q7),(.box [(La c),(La d),Ea,Ea])]|.inr (.inl _)=>[(QC q0 q1),(QC q2 q3),(QC q4 q5),(.tok 60 q12),(QC q6 q7),(.box [Ea,Ea,Ea,Ea])]|.inr (.inr (_))=>(XW q0 q1 q2 q3 q4 q5 q12 q6 q7 q8 q9 q10 q11)):=by
 unfold XK at hm;refine gB (fn:=f159) rfl (ge 1 (gr 1 (bi hm λout f hm=>?_)));rcases out with⟨g,v2⟩|_|_
 .have e:=ZM f;refine Q5 e ?_;refine Qe 1 (Q6 (Qn ?_));obtain rfl:=xt hm;exact⟨trivial,NI (by kernel_rfl) (by kernel_rfl)⟩
 .have e:=ZM f;refine Q5 e ?_;refine Qe 1 (Q6 (Qn ?_));obtain rfl:=xt hm;exact⟨trivial,NI (by kernel_rfl) (by kernel_rfl)⟩
 .have e:=ZM f;refine Q5 e ?_;refine Qe 1 (Q6 (Qn ?_));obtain rfl:=xt hm;exact⟨trivial,NI (by kernel_rfl) (by kernel_rfl)⟩
def YA(x:(Ql×Ql×Ql×(fj)×(fj)×(List Ql)×Int)):Option (((fj)×(fj)×(List Ql))):=
 match x with
 |(p0,g,p1,d,e,f,c)=>
 if c<(p0.lo.length:Int)then
  idx p0.lo c>>=λn=>
  idx g.lo c>>=λp=>
  X0 ((⟨d,e⟩:Ql),c,n,p)>>=λj=>
  idx g.hi c>>=λq=>
  idx p0.hi c>>=λr=>
  X0 ((⟨d,e⟩:Ql),c,q,r)>>=λk=>
  (
  XK (p0.lo,p0.hi,p1.lo,p1.hi,g.lo,g.hi,d,e,j.lo,j.hi,k.lo,k.hi,f.length)>>=λout=>
  match out with
  | .inl (s,t)=>
   app 48 f ([(⟨s,t⟩:Ql)]:List Ql)>>=λu=>
   idx g.lo c>>=λv=>
   idx g.hi c>>=λw=>
   X0 ((⟨d,e⟩:Ql),c,v,w)>>=λl=>
   YA (p0,g,p1,l.lo,l.hi,u,(W (c+1)))
  | .inr (.inl _)=>
   app 48 f ([]:List Ql)>>=λy=>
   idx g.lo c>>=λz=>
   idx g.hi c>>=λA=>
   X0 ((⟨d,e⟩:Ql),c,z,A)>>=λm=>
   YA (p0,g,p1,m.lo,m.hi,y,(W (c+1)))
  | .inr (.inr (_))=>
   app 48 f ([j,k]:List Ql)>>=λB=>
   idx g.lo c>>=λC=>
   idx g.hi c>>=λv626=>
   X0 ((⟨d,e⟩:Ql),c,C,v626)>>=λv627=>
   YA (p0,g,p1,v627.lo,v627.hi,B,(W (c+1)))
  )
 else
 some (d,e,f)
 partial_fixpoint
theorem J6:∀x r,YA x=some r->match x with|(p0,s,p1,g,j,c,k)=>LQ f115 115 [1,1,1,1,1,0,1,0,0] 5 ⟨kp 79 [(2,(.ptr 0 0)),(5,(.ptr 2 0)),(7,(.vec 3 ((List.map Ql.toD) c))),(8,(.ptr 4 0)),(30,(Qd (p0.lo.length:Int))),(31,(Qd k))],[(QC p0.lo p0.hi),(QC p1.lo p1.hi),(QC s.lo s.hi),(.tok 60 c.length),(QC g j)]⟩ (P1 (.exit 0) (λ(t,u,l) d=>⟨sl d 79 [(7,(.vec 3 ((List.map Ql.toD) l)))],[(QC p0.lo p0.hi),(QC p1.lo p1.hi),(QC s.lo s.hi),(.tok 60 l.length),(QC t u)]⟩) r):=by
 refine YA.partial_correctness _ (λYA J6 x r hm=>?_);obtain⟨p0,s,p1,g,j,c,k⟩:=x;refine lp (ge 1 (Qg (ri hm (λhm=>Qr (Qg (Qo (ge 2 (Qg (ZP (Qe 6 (QY 1 Qf hm λz hm=>Qe 4 (QY 1 Qf hm λA hm=>Qe 1 (bi hm λm e hm=>cp (Py e) (Qe 5 (QY 1 Qf hm λB hm=>Qe 4 (QY 1 Qf hm λC hm=>Qe 1 (bi hm λn e hm=>cp (Py e) (Qe 1 (bi hm λout e hm=>?_)))))))))))))))) (λhm=>QO zf))));rcases out with⟨p,q⟩|_|_
 .have f:=R9 e;refine Q5 f ?_;obtain⟨v,e,hm⟩:=Z9 hm;refine Jh 60 2 48 3 Ql.toD c ([(⟨p,q⟩:Ql)]:List Ql) v (xs:=(List.map Ql.toD) c) (es:=(List.map Ql.toD) ([(⟨p,q⟩:Ql)]:List Ql)) (L:=(List.map Ql.toD)) yB rfl rfl Ql.fit e ?_;refine Qe 1 ?_;refine Q6 ⟨by kernel_rfl,?_⟩;refine ZP ?_;refine Qe 5 ?_;refine N5 1 Qf hm rfl yB (λD hm=>?_);refine Qe 4 ?_;refine N5 1 Qf hm rfl yB (λE hm=>?_);refine Qe 1 ?_;obtain⟨F,e,hm⟩:=Z9 hm;have f:=Py e [];refine Y3 f ?_;refine Qe 1 ?_;refine Q6 ⟨by kernel_rfl,?_⟩;refine gd (Qe 2 (Q6 ?_));exact J6 _ _ hm _ (by kernel_rfl)
 .have f:=R9 e;refine Q5 f ?_;obtain⟨w,e,hm⟩:=Z9 hm;refine Jh 60 2 48 3 Ql.toD c ([]:List Ql) w (xs:=(List.map Ql.toD) c) (es:=(List.map Ql.toD) ([]:List Ql)) (L:=(List.map Ql.toD)) yB rfl rfl Ql.fit e ?_;refine Qe 1 ?_;refine Q6 ⟨by kernel_rfl,?_⟩;refine ZP ?_;refine Qe 5 ?_;refine N5 1 Qf hm rfl yB (λG hm=>?_);refine Qe 4 ?_;refine N5 1 Qf hm rfl yB (λH hm=>?_);refine Qe 1 ?_;obtain⟨I,e,hm⟩:=Z9 hm;have f:=Py e [];refine Y3 f ?_;refine Qe 1 ?_;refine Q6 ⟨by kernel_rfl,?_⟩;refine gd (Qe 2 (Q6 ?_));exact J6 _ _ hm _ (by kernel_rfl)
 .have f:=R9 e;refine Q5 f ?_;obtain⟨y,e,hm⟩:=Z9 hm;refine Jh 60 2 48 3 Ql.toD c ([m,n]:List Ql) y (xs:=(List.map Ql.toD) c) (es:=(List.map Ql.toD) ([m,n]:List Ql)) (L:=(List.map Ql.toD)) yB rfl rfl Ql.fit e ?_;refine Qe 1 ?_;refine Q6 ⟨by kernel_rfl,?_⟩;refine ZP ?_;refine Qe 5 ?_;refine N5 1 Qf hm rfl yB (λJ hm=>?_);refine Qe 4 ?_;refine N5 1 Qf hm rfl yB (λv626 hm=>?_);refine Qe 1 ?_;obtain⟨v627,e,hm⟩:=Z9 hm;have f:=Py e [];refine Y3 f ?_;refine Qe 1 ?_;refine Q6 ⟨by kernel_rfl,?_⟩;refine gd (Qe 2 (Q6 ?_));exact J6 _ _ hm _ (by kernel_rfl)
def PA(x:(Ql×Ql)):Option (List Ql):=
 match x with
 |(p0,p1)=>
 JD ((⟨p0.lo,p0.hi⟩:Ql),(⟨p1.lo,p1.hi⟩:Ql))>>=λ(d,v2)=>
 if v2=false then
  Qu p0.lo>>=λe=>
  Qu p0.hi>>=λf=>
  (
  Jn (p0.lo,p0.hi,p1.lo,p1.hi,d.lo,d.hi,e,f)>>=λout=>
  match out with
  | .inl _=>
   some ([]:(List Ql))
  | .inr (_)=>
   some ([(⟨e,f⟩:Ql)]:List Ql)
  )
 else
 YA (p0,d,p1,p0.lo,p0.hi,([]:List Ql),0)>>=λ(g,j,c)=>
 some c
theorem U2{p0 p1 r0}(hm:PA (p0,p1)=some r0):FQ 115 [(Ql.toD p0),(Ql.toD p1)] (.dat (.lst ((List.map Ql.toD) r0))):=by
 unfold PA at hm
 exact fp (fn:=f115) rfl (ge 3 (gr 2 (uy hm λn v2 c hm=>cp (Wj c) (re 6 (Qg (ge 2 (HF hm (λhm=>Qg (ZP (Qe 2 (bi hm λg c hm=>QB (v:=.dat (Lb g)) rfl (λ_=>Jg (f:=154) (first:=#[]) (cap:=#[]) (e:=3) (ow':=[]) (ds:=[.lst ((List.map Qf) p0.lo)]) rfl kr kr kr kr (Qz c) (xV (kG (e:=3) Qf g rfl yB kr))) (Qe 2 (bi hm λj c hm=>QB (v:=.dat (Lb j)) rfl (λ_=>Jg (f:=154) (first:=#[]) (cap:=#[]) (e:=3) (ow':=[]) (ds:=[.lst ((List.map Qf) p0.hi)]) rfl kr kr kr kr (Qz c) (xV (kG (e:=3) Qf j rfl yB kr))) (Qe 2 (bs hm (λ_ c hm=>Q5 (T5 c) (re 1 ⟨kr,Qn (by obtain rfl:=xt hm;exact⟨trivial,JI [(.arr 3 0 0 1)] kr (AX kr)⟩)⟩)) λ_ c hm=>Q5 (T5 c) (re 1 ⟨kr,Qn (by obtain rfl:=xt hm;exact⟨trivial,JI [(.arr 3 0 1 1)] kr (AX kr)⟩)⟩))))))))) (λhm=>Qr (ge 1 (ge 3 (Qg (gr 2 (QZ Qf p0.lo (re 1 (Qo (nA hm (J6 _) λ⟨k,l,m⟩ d hm=>ge 2 (Qn zf)))))))))))))))))
def Yv(x:((fj)×(fj)×(fj)×(List Qa)×(List Qa)×Int×Qa×Int×Int×Int×(fj)×Int×Int×Int×Int)):Option ((Int×Int×Int×(fj)×Int×Int×Int)):=
 match x with
 |(s,p1,t,p,p0,q,r,e,f,g,j,k,l,m,d)=>
 if d<(s.length:Int)then
  idx s d>>=λn=>
  Xh ((⟨e,f,g,j,k,l,m⟩:Qh),d,n)>>=λc=>
  Yv (s,p1,t,p,p0,q,r,c.kind,c.buffer,c.base,c.strides,c.start,c.step,c.mod,(W (d+1)))
 else
 some (e,f,g,j,k,l,m)
 partial_fixpoint
theorem Sj:∀x r,Yv x=some r->match x with|(A,p1,B,e,p0,f,c,g,j,k,l,m,n,p,q)=>LQ f68 68 [1,1,0,1,0,0,1,1,0,0,1,1,0,1,0,0] 3 ⟨kp 78 [(1,(La p1)),(2,(La B)),(3,(La A)),(9,(Xw e)),(11,(.ptr 1 0)),(12,(.ptr 2 0)),(18,(QX p0)),(19,(Qd (p0.length:Int))),(20,(Qd f)),(26,(La A)),(27,(Qd (A.length:Int))),(28,(Qd q))],[(.tok 62 e.length),(Zv c.box.lo c.box.hi c.access.kind c.access.buffer c.access.base c.access.strides c.access.start c.access.step c.access.mod),(QA g j k l m n p)]⟩ (P1 (.exit 2) (λ(s,t,u,v,w,y,z) d=>⟨sl d 78 [(1,(La p1)),(2,(La B)),(3,(La A)),(9,(Xw e)),(11,(.ptr 1 0)),(12,(.ptr 2 0)),(18,(QX p0)),(19,(Qd (p0.length:Int))),(20,(Qd f))],[(.tok 62 e.length),(Zv c.box.lo c.box.hi c.access.kind c.access.buffer c.access.base c.access.strides c.access.start c.access.step c.access.mod),(QA s t u v w y z)]⟩) r):=by
 refine Yv.partial_correctness _ (λYv Sj x r hm=>?_);obtain⟨A,p1,B,e,p0,f,c,g,j,k,l,m,n,p,q⟩:=x;exact lp (ge 1 (Qg (ri hm (λhm=>Qr (Qg (Qo (gr 1 (QY 1 Qf hm λC hm=>re 3 (gd (Qe 3 (bi hm λD E hm=>cp (TN E) (re 1 (gd (re 2 (Sj _ _ hm _ kr)))))))))))) (λhm=>QO zf))))
def Z6(x:((List Qa)×(fj)×(fj)×(fj)×(List Qa)×Int)):Option ((List Qa)):=
 match x with
 |(p0,r,p1,s,e,d)=>
 if d<(p0.length:Int)then
  idx p0 d>>=λc=>
  Yv (r,p1,s,e,p0,d,c,c.access.kind,c.access.buffer,c.access.base,c.access.strides,c.access.start,c.access.step,c.access.mod,0)>>=λ(f,g,j,k,l,m,n)=>
  XS (c.box.lo,c.box.hi,s,r)>>=λp=>
  app 120 e ([(⟨p,(⟨f,g,j,k,l,m,n⟩:Qh)⟩:Qa)]:List Qa)>>=λq=>
  Z6 (p0,r,p1,s,q,(W (d+1)))
 else
 some e
 partial_fixpoint
theorem Sr:∀x r,Z6 x=some r->match x with|(p0,t,p1,u,c,p)=>LQ f68 68 [1,1,0,1,0,0] 1 ⟨kp 78 [(1,(La p1)),(2,(La u)),(3,(La t)),(9,(Xw c)),(18,(QX p0)),(19,(Qd (p0.length:Int))),(20,(Qd p))],[(.tok 62 c.length)]⟩ (P1 (.exit 0) (λq d=>⟨sl d 78 [(1,(La p1)),(2,(La u)),(3,(La t)),(9,(Xw q))],[(.tok 62 q.length)]⟩) r):=by
 refine Z6.partial_correctness _ (λZ6 Sr x r hm=>?_);obtain⟨p0,t,p1,u,c,p⟩:=x;exact lp (ge 1 (Qg (ri hm (λhm=>Qr (Qg (Qo (Qg (gd (QY 9 Qa.toD hm λw hm=>re 3 (ge 4 (Qg (gr 1 (QZ Qf t (re 1 (Qo (nA hm (Sj _) λ⟨e,f,g,j,k,l,m⟩ d hm=>ZP (Qe 9 (bi hm λn v hm=>cp (TV v) (Qe 3 (bi hm λs v hm=>Jh 62 9 120 0 Qa.toD c ([(⟨n,(⟨e,f,g,j,k,l,m⟩:Qh)⟩:Qa)]:List Qa) s (xs:=(List.map Qa.toD) c) (es:=(List.map Qa.toD) ([(⟨n,(⟨e,f,g,j,k,l,m⟩:Qh)⟩:Qa)]:List Qa)) (L:=(List.map Qa.toD)) yB rfl rfl Qa.fit v (re 1 ⟨kr,gd (re 2 (Sr _ _ hm _ kr))⟩)))))))))))))))))) (λhm=>QO zf))))
def Yw(x:((List Ql)×Ql×(List Qa)×Int)):Option ((List Qa)):=
 match x with
 |(c,f,e,d)=>
 if d<(c.length:Int)then
  idx c d>>=λg=>
  app 120 e ([(⟨g,(⟨1,0,0,([]:(fj)),0,0,0⟩:Qh)⟩:Qa)]:List Qa)>>=λj=>
  Yw (c,f,j,(W (d+1)))
 else
 some e
 partial_fixpoint
theorem S3:∀x r,Yw x=some r->match x with|(f,c,e,g)=>LQ f68 68 [1,1,1,1,0,1,0,0] 2 ⟨kp 78 [(9,(Xw e)),(63,(.dat (.lst ((List.map Ql.toD) f)))),(64,(Qd (f.length:Int))),(65,(Qd g))],[(.tok 62 e.length),(QC c.lo c.hi)]⟩ (P1 (.exit 4) (λj d=>⟨sl d 78 [(9,(Xw j))],[(.tok 62 j.length),(QC c.lo c.hi)]⟩) r):=by
 refine Yw.partial_correctness _ (λYw S3 x r hm=>?_);obtain⟨f,c,e,g⟩:=x;exact lp (ge 1 (Qg (ri hm (λhm=>Qr (Qg (Qo (Qg (gd (QY 2 Ql.toD hm λk hm=>re 3 (gd (Qe 5 (bi hm λl m hm=>Jh 62 9 120 0 Qa.toD e ([(⟨k,(⟨1,0,0,([]:(fj)),0,0,0⟩:Qh)⟩:Qa)]:List Qa) l (xs:=(List.map Qa.toD) e) (es:=(List.map Qa.toD) ([(⟨k,(⟨1,0,0,([]:(fj)),0,0,0⟩:Qh)⟩:Qa)]:List Qa)) (L:=(List.map Qa.toD)) yB rfl rfl Qa.fit m (re 1 (gd (re 2 (S3 _ _ hm _ kr))))))))))))) (λhm=>QO zf))))
def J2(x:((List Qa)×(fj)×(fj)×(fj))):Option (List Qa):=
 match x with
 |(p0,p1,m,p)=>
 Z6 (p0,p,p1,m,([]:List Qa),0)>>=λl=>
 jb 8 (m.length:Int) 0>>=λd=>
 XS (d,p1,m,p)>>=λc=>
 Yu m>>=λ(n,e,f)=>
 PA ((⟨e,f⟩:Ql),c)>>=λg=>
 Yw (g,c,l,0)>>=λj=>
 Zq j>>=λk=>
 some k
theorem Uw{p0 p1 p2 p3 r0}(hm:J2 (p0,p1,p2,p3)=some r0):FQ 68 [(.lst ((List.map Qa.toD) p0)),(Lb p1),(Lb p2),(Lb p3)] (QX r0):=by
 unfold J2 at hm
 exact fp (fn:=f68) rfl (ge 1 (ge 1 (Qg (gr 1 (QZ Qa.toD p0 (re 1 (Qo (nA hm (Sr _) λu d hm=>gr 1 (QZ Qf p2 (bi hm λm l hm=>QB (v:=.dat (.lst (List.map Qf m))) rfl (by intro K w;exact UY Qf (z:=0) (n:=(p2.length:Int)) (bytes:=8) (j:=8000) (e':=3) (os:=[]) l (e:=3) kr kr kr kr rfl rfl kr kr kr w) (Qe 3 (bi hm λr l hm=>cp (TV l) (re 2 (Qg (Qg (ZP (Qe 1 (Nd hm λk c g l hm=>QB (v:=.dat (.agg [(Lb c),(Lb g)])) rfl (λ_=>Jg (f:=111) (first:=#[]) (cap:=#[]) (e:=3) (ow':=[]) (ds:=[(Lb p2)]) (p:=(.agg [(.ms 1 k 0 c.length c.length),(.ms 2 1 0 g.length g.length)])) (H1:=(P6 k c.length g.length c g)) rfl kr kr kr kr (JT l) (vp (fK (kG (e:=3) Qf c rfl yB kr) (fK (kG (e:=3) Qf g rfl yB kr) mT)))) (Qe 1 (bi hm λq l hm=>cp (U2 l) (QZ Ql.toD q (re 1 ⟨kr,Qo (nA hm (S3 _) λs d hm=>gr 1 (bi hm λt l hm=>cp (XN l) (re 1 (Qn zf))))⟩))))))))))))))))))))))
def Jp(x:(Qj×(List (List Qa)))):Option (List Qa):=
 match x with
 |(p0,p1)=>
 idx p1 0>>=λc=>
 idx p0.kids 0>>=λv2=>
 J2 (c,v2.shape,p0.shape,p0.starts)>>=λd=>
 some d
theorem UJ{p0 p1 r0}(hm:Jp (p0,p1)=some r0):FQ 67 [(Qj.ex p0),(.lst ((List.map (λl=>fy.lst ((List.map Qa.toD) l))) p1))] (QX r0):=by
 unfold Jp at hm;exact fp (fn:=f67) rfl (ge 2 (Qg (ZP (Qe 1 (bi hm λe c hm=>Ji 1 (λl=>fy.lst ((List.map Qa.toD) l)) p1 0 e (es:=(List.map (λl=>fy.lst ((List.map Qa.toD) l))) p1) (d:=(.lst ((List.map Qa.toD) e))) rfl c rfl rfl (Qe 3 (bi hm λv2 c hm=>Ji 8 Qj.toD p0.kids 0 v2 (es:=Qj.toDs p0.kids) (d:=(Qj.ex v2)) (Qj.toDs_eq _) c (Qj.toD_eq v2) rfl (Qe 6 (bi hm λf c hm=>cp (Uw c) (re 1 ⟨kr,Qn zf⟩))))))))))
def Z2(x:(Int×Int×Int×Int×Int×(fj)×Int×Int×Int×Int×(fj)×Int)):Option (Int):=
 match x with
 |(q0,q1,q2,q3,q4,q5,q6,q7,e,f,c,d)=>
 idx c q0>>=λg=>
 idx c q0>>=λv2=>
 some (W (d+(W (q1*v2))))
theorem Vz{q0 q1 q2 q3 q4 q5 q6 q7 q8 q9 q10 q11 v5001}(hm:Z2 (q0,q1,q2,q3,q4,q5,q6,q7,q8,q9,q10,q11)=some v5001):PC prog env 158 [(.ptr 8 0),(Qd q0),(Qd q1)] (Jb q2 q3 q4 q5 q6 q7 q8 q0 q9 q10 q11 q10.length) (.tup []) (Jb q2 q3 q4 q5 q6 q7 q8 q0 q9 q10 v5001 q10.length):=by
 unfold Z2 at hm;exact gB (fn:=f158) rfl (ZP (Qe 10 (bi hm λd c hm=>QB rfl (λ_=>Q9 (e:=3) (n:=q0) (j:=(q0).toNat) (tt:=7) (g:=1) (lo:=0) (len:=q10.length) (cap:=q10.length) (k:=.i64) kr kr rfl kr kr (gx c) (zA (gV c) rfl)) (bi hm λv2 c hm=>QB rfl (λ_=>Xv (tt:=7) (g:=1) (j:=(0+(q0).toNat)) (e:=3) (cs:=cellsOf Qf q10) (v:=.dat (Qf v2)) kr kr rfl kr (ZN kr) (gK Qf c)) (re 5 ⟨kr,zf⟩)))))
def Ya(x:(Int×Int×Int×Int×Int×(fj)×Int×Int×Int×(fj)×Int)):Option (((fj)×Int)):=
 match x with
 |(q0,q1,q2,q3,q4,q5,q6,q7,e,c,d)=>
 Z2 (q0,(W (q1 - 1)),q2,q3,q4,q5,q6,q7,e,q1,c,d)>>=λf=>
 idx c q0>>=λv2=>
 idx c q0>>=λg=>
 idx c q0>>=λk=>
 iL c q0 (W (0 - g))>>=λj=>
 some (j,f)
theorem WA{q0 q1 q2 q3 q4 q5 q6 q7 q8 q9 q10 v5001 v5002}(hm:Ya (q0,q1,q2,q3,q4,q5,q6,q7,q8,q9,q10)=some (v5001,v5002)):PC prog env 162 [(.ptr 8 0),(Qd q0),(Qd q1)] (Jb q2 q3 q4 q5 q6 q7 q8 q0 q1 q9 q10 q9.length) (.tup []) (Jb q2 q3 q4 q5 q6 q7 q8 q0 q1 v5001 v5002 q9.length):=by
 unfold Ya at hm;exact gB (fn:=f162) rfl (gr 4 (bi hm λm c hm=>Q5 (Vz c) (Q6 (ZP (Qe 10 (bi hm λv2 c hm=>QB rfl (λ_=>Q9 (e:=3) (n:=q0) (j:=(q0).toNat) (tt:=7) (g:=1) (lo:=0) (len:=q9.length) (cap:=q9.length) (k:=.i64) kr kr rfl kr kr (gx c) (zA (gV c) rfl)) (bi hm λd c hm=>QB rfl (λ_=>Xv (tt:=7) (g:=1) (j:=(0+(q0).toNat)) (e:=3) (cs:=cellsOf Qf q9) (v:=.dat (Qf d)) kr kr rfl kr (ZN kr) (gK Qf c)) (Qe 1 (bi hm λp c hm=>QB rfl (λ_=>Q9 (e:=3) (n:=q0) (j:=(q0).toNat) (tt:=7) (g:=1) (lo:=0) (len:=q9.length) (cap:=q9.length) (k:=.i64) kr kr rfl kr kr (gx c) (zA (gV c) rfl)) (bi hm λf c hm=>Zz (λH=>H.set 7 (QG f)) rfl kr (λ_=>D1 Qf (l:=q9) (n:=q0) (y:=(W (0 - d))) c yB kr rfl kr kr kr kr) (Q6 ⟨kr,zf⟩)))))))))))
end Go.Proofs.Tryz
