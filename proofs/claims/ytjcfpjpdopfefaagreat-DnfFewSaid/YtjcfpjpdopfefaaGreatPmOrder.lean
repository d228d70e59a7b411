/-
 The pure machine: a region that draws its order: whatever order is drawn, the end is the one of the text's order.
-/
import Derived.Test.YtjcfpjpdopfefaaGreatPmRen
namespace Go.Pm
open Go Go.RowKit
set_option linter.all false
section
variable{P:fm}{call:gk}{pf:fo->Bool}{h:Hint}{r:Nat}{ops:Array Oper}
theorem qZ:∀(os:List Oper) (i:Nat) (st st':St) (fl:List Nat),gR P call pf h r ops i os st=some (st',fl)->
  ∃T:Nat->St,T 0=st/\T os.length=st'/\∀k o,os[k]?=some o->iJ P call h r ops (i+k) o (T k)=some (T (k+1))/\
   fl.getD k 0=(if fU ops (T k).slots o=some true then kI pf h r (i+k) o (ev (T k).slots)else 0)
 |[],i,st,st',fl,c=>by
  cases c;exact⟨λ_=>st,rfl,rfl,λk o h=>by simp at h⟩
 |o::os,i,st,st',fl,c=>by
  simp only[gR]at c;split at c
  .rename_i d g;split at c
   .rename_i j e l;cases c;obtain⟨T,m,n,p⟩:=qZ os (i+1) d st' e l;refine⟨λk=>match k with|0=>st|k+1=>T k,rfl,n,λk o' f=>?_⟩;cases k with
    |zero=>
     simp at f;subst f;exact⟨by simp only[zX,m];exact g,rfl⟩
    |succ k=>
     have:=p k o' (by simpa using f);rw[show i+1+k=i+(k+1) by omega]at this;exact⟨this.1,by simpa using this.2⟩
   .cases c
  .cases c
theorem oC{i:Nat}{o:Oper}{st c:St}(d:iJ P call h r ops i o st=some c):
  ∃v,c.slots=lN st.slots o.dst v/\((fU ops st.slots o=some true/\gq P call (h.ownAt r i) o (ev st.slots) st.heap=some (v,c.heap))\/
   (fU ops st.slots o=some false/\v=.tup []/\c.heap=st.heap)):=by
 unfold iJ at d;split at d
 .rename_i hw;split at d
  .rename_i v H e;cases d;exact⟨v,rfl,.inl ⟨hw,e⟩⟩
  .cases d
 .rename_i hw;cases d;exact⟨_,rfl,.inr ⟨hw,rfl,rfl⟩⟩
 .cases d
theorem BA(s:List PV)(d:Option Tmp)(v:PV)(t:Nat):(lN s d v)[t]?=if d=some t/\t<s.length then some v else s[t]?:=by
 cases d with
 |none=>simp[lN]
 |some d=>
  simp only[lN,zE,j9];by_cases e:d=t
  .subst e;by_cases hl:d<s.length
   .simp[hl]
   .simp[hl]
  .simp[e]
theorem BC(s:List PV)(d:Option Tmp)(v:PV):(lN s d v).length=s.length:=by cases d<;>simp[lN]
structure BU (ops:Array Oper) (fl:List Nat) (anc sp:Nat->Nat->Prop):Prop where
 back:∀(j:Nat) (o:Oper) (e:Edge),ops[j]?=some o->e∈o.after->Region.binds .any e=true->e.on<j
 sel:∀(j:Nat) (o:Oper) cs b,ops[j]?=some o->o.op≠.select cs b
 lt:∀i j,anc i j->j<ops.size->i<j
 look:∀(i j:Nat) (oi oj:Oper) (d:Tmp),ops[i]?=some oi->ops[j]?=some oj->i≠j->oi.dst=some d->d∈yw ops oj->anc i j\/anc j i
 once:∀(i j:Nat) (oi oj:Oper) (d:Tmp),ops[i]?=some oi->ops[j]?=some oj->i≠j->oi.dst=some d->oj.dst≠some d
 mind:∀i j,i<ops.size->j<ops.size->i<j->s8 (fl.getD i 0) (fl.getD j 0)=false->anc i j\/sp i j
 closed:∀(L:Nat->Prop),(∀(j:Nat) (o:Oper) (e:Edge),ops[j]?=some o->L j->e∈o.after->Region.binds .any e=true->L e.on)->
  ∀(j:Nat) (o:Oper),ops[j]?=some o->(∀e,e∈o.after->Region.binds .any e=true->L e.on)->∀i,anc i j->L i
theorem yR(A:List Nat):∀(es:List Edge) (s i:Nat),(es.foldl (λs e=>if Region.binds .any e then s|||(2 ^e.on|||A.getD e.on 0)else s) s).testBit i=true->
  s.testBit i=true\/∃e,e∈es/\Region.binds .any e=true/\(i=e.on\/(A.getD e.on 0).testBit i=true)
 |[],s,i,h=>.inl h
 |e::es,s,i,h=>by
  simp only[cd]at h;rcases yR A es _ i h with h|⟨e',d,f,g⟩
  .split at h
   .rename_i c;simp only[Nat.testBit_or,zS,Nat.testBit_two_pow,zD]at h;rcases h with h|h|h
    .exact .inl h
    .exact .inr ⟨e,by simp,c,.inl h.symm⟩
    .exact .inr ⟨e,by simp,c,.inr h⟩
   .exact .inl h
  .exact .inr ⟨e',by simp[d],f,g⟩
theorem NU(fl:List Nat)(k:Nat):(fl.map (· %8)).getD k 0=fl.getD k 0%8:=by
 simp only[jB,jD];cases fl[k]? <;>rfl
theorem B7{h0:Nat}{fl:List Nat}(r:kR h0 ops fl=true):∃anc,BU ops (fl.map (· %8)) anc (λi j=>(fl.getD i 0%16=9/\fl.getD j 0%16=11)\/(fl.getD i 0%16=11/\fl.getD j 0%16=9)):=by
 unfold kR at r;simp only[jE,j8,ct]at r;obtain⟨_,B,C⟩:=r;generalize Kt ops.toList []=A at B C;have g:∀{j:Nat} {o:Oper},ops[j]?=some o->j<ops.size:=λh=>(ay.1 h).1
 have w:∀(j:Nat) (o:Oper),ops[j]?=some o->A.getD j 0=A2 A o/\(∀e,e∈o.after->Region.binds .any e=true->e.on<j)/\∀cs b,o.op≠.select cs b:=λj o k=>by
  have:=B j (g k);rw[k]at this;simp only[jE,bo,j8]at this;obtain⟨⟨I,J⟩,G⟩:=this;refine⟨I,λe K p=>?_,λcs b e=>by rw[e]at G;cases G⟩;have:=J e (by simpa using K)
  simpa[p]using this
 have q:∀(j:Nat) (o:Oper) (i:Nat),ops[j]?=some o->(A.getD j 0).testBit i=true->∃e,e∈o.after/\Region.binds .any e=true/\(i=e.on\/(A.getD e.on 0).testBit i=true):=λj o i k p=>by
  rw[(w j o k).1,A2]at p;rcases yR A _ _ _ p with h|⟨e,u,v,n⟩
  .simp at h
  .exact⟨e,by simpa using u,v,n⟩
 have f:∀i j,i<ops.size->j<ops.size->pX ops fl A i j=true:=λi j hi s=>C j s i hi
 refine⟨λi j=>(A.getD j 0).testBit i=true,λj o e k=>(w j o k).2.1 e,λj o cs b k=>(w j o k).2.2 cs b,?_,?_,?_,?_,?_⟩
 .intro i j;induction j using Nat.strongRecOn with
  |_ j D=>
   intro p s;obtain⟨e,u,v,n⟩:=q j _ i (jA s) p;have c:=(w j _ (jA s)).2.1 e u v;rcases n with rfl|n
   .exact c
   .exact Nat.lt_trans (D e.on c n y8) c
 .intro i j oi oj d l m t E hl;have:=f i j (g l) (g m);simp only[pX,l,m,E,jE,zS,bo]at this;rcases this.1.1 with((h|h)|h)|h
  .exact absurd h t
  .exact .inl h
  .exact .inr h
  .simp at h;exact absurd hl h
 .intro i j oi oj d l m t E F;have:=f i j (g l) (g m);simp only[pX,l,m,E,F,jE,zS,bo]at this;rcases this.1.2 with h|h
  .exact t h
  .simp at h
 .intro i j hi s M H;have:=f i j hi s;simp only[pX,jA hi,jA s,jE,zS]at this;rcases this.2 with(h|h)|h
  .simp at h;omega
  .exact .inl h
  .rw[NU,NU]at H;simp only[yZ,H,cE,zS,jE,bo]at h;exact .inr h
 .intro L N j;induction j using Nat.strongRecOn with
  |_ j D=>
   intro o k O i p;obtain⟨e,u,v,n⟩:=q j o i k p;have x:=O e u v;rcases n with rfl|n
   .exact x
   .have c:=(w j o k).2.1 e u v;have y:e.on<ops.size:=by have:=g k;omega
    have z:ops[e.on]?=some ops[e.on]:=jA y;exact D e.on c _ z (λe' B C=>N e.on _ e' z x B C) i n
def nt(ops:Array Oper)(V:Nat->PV)(s0:List PV)(L:Nat->Prop)(s:List PV):Prop:=
 s.length=s0.length/\∀t,t<s0.length->(∀(k:Nat) (o:Oper),ops[k]?=some o->L k->o.dst=some t->s[t]?=some (V k))/\((∀(k:Nat) (o:Oper),ops[k]?=some o->L k->o.dst≠some t)->s[t]?=s0[t]?)
def A6(T:Nat->St)(fl:List Nat)(n:Nat)(L:Nat->Prop)(H:List fB):Prop:=
 ∃a b,(a<=b/\b<=n/\(∀k,a<=k->k<b->fl.getD k 0<=2)/\(b<n->3<=fl.getD b 0))/\(∀k,k<a->2<=fl.getD k 0->L k)/\(∀k,b<=k->k<n->2<=fl.getD k 0->¬L k)/\H.length=(T b).heap.length/\
  (∀i,(∀k,a<=k->k<b->¬L k->¬((T k).heap.length<=i/\i<(T (k+1)).heap.length))->H[i]?=(T b).heap[i]?)/\
  (∀k i,a<=k->k<b->¬L k->(T k).heap.length<=i->i<(T (k+1)).heap.length->H[i]?=some .hole)
theorem tB(fl:List Nat)(n:Nat):∀(d a:Nat),a+d=n->∃b,a<=b/\b<=n/\(∀k,a<=k->k<b->fl.getD k 0<=2)/\(b<n->3<=fl.getD b 0)
 |0,a,h=>⟨a,j7 _,by omega,λk g f=>by omega,λh=>by omega⟩
 |d+1,a,h=>by
  by_cases c:3<=fl.getD a 0
  .exact⟨a,j7 _,by omega,λk g f=>by omega,λ_=>c⟩
  .obtain⟨b,g,f,j,l⟩:=tB fl n d (a+1) y8;refine⟨b,by omega,f,λk k1 k2=>?_,l⟩;by_cases e:k=a
   .subst e;omega
   .exact j k y8 k2
variable{fl:List Nat}{anc sp:Nat->Nat->Prop}{T:Nat->St}{V:Nat->PV}
theorem xS(f:BU ops fl anc sp){L:Nat->Prop}{s0 s:List PV}{j:Nat}{o:Oper}(l:ops[j]?=some o)(q:¬L j)(m:nt ops V s0 L s):
  nt ops V s0 (λk=>L k\/k=j) (lN s o.dst (V j)):=by
 refine⟨by rw[BC,m.1],λt n=>⟨λk ok g d p=>?_,λhn=>?_⟩⟩
 .rw[BA,m.1];rcases d with d|rfl
  .rw[af (λc=>f.once k j ok o t g l (λe=>q (e ▸ d)) p c.1)];exact(m.2 t n).1 k ok g d p
  .rw[g]at l;cases l;rw[ai ⟨p,n⟩]
 .rw[BA,af (λc=>hn j o l (.inr rfl) c.1)];exact(m.2 t n).2 λk ok g d=>hn k ok g (.inl d)
theorem vh(c:BU ops fl anc sp)(f:∀(k:Nat) (o:Oper),ops[k]?=some o->(T (k+1)).slots=lN (T k).slots o.dst (V k)):∀j,j<=ops.size->nt ops V (T 0).slots (λk=>k<j) (T j).slots
 |0,_=>⟨rfl,λt d=>⟨λk o _ h=>absurd h (bL _),λ_=>rfl⟩⟩
 |j+1,n=>by
  have g:ops[j]?=some ops[j]:=jA y8;have:=xS c g (L:=λk=>k<j) (jZ _) (vh c f j y8);rw[f j _ g];refine⟨this.1,λt d=>⟨λk o e l m=>(this.2 t d).1 k o e y8 m,λhn=>(this.2 t d).2 λk o e l=>hn k o e y8⟩⟩
def gN(Q:Nat->Option fB->Prop)(H H2:List fB):Prop:=H.length<=H2.length/\∀i:Nat,i<H.length->H2[i]?=H[i]?\/(Q i H[i]?/\Q i H2[i]?)
theorem gN.refl(Q:Nat->Option fB->Prop)(H:List fB):gN Q H H:=⟨j7 _,λ_ _=>.inl rfl⟩
theorem gN.trans{Q:Nat->Option fB->Prop}{H H2 f:List fB}(a:gN Q H H2)(b:gN Q H2 f):gN Q H f:=by
 refine⟨jW a.1 b.1,λi hi=>?_⟩;rcases a.2 i hi with d|⟨d,g⟩
 .rcases b.2 i (jP hi a.1)with c|⟨c,e⟩
  .exact .inl (c.trans d)
  .exact .inr ⟨d ▸ c,e⟩
 .rcases b.2 i (jP hi a.1)with c|⟨c,e⟩
  .exact .inr ⟨d,c ▸ g⟩
  .exact .inr ⟨d,e⟩
theorem gN.mono{Q c:Nat->Option fB->Prop}{H H2:List fB}(h:gN Q H H2)(d:∀i b,Q i b->c i b):gN c H H2:=⟨h.1,λi hi=>(h.2 i hi).imp id λh=>⟨d _ _ h.1,d _ _ h.2⟩⟩
def Kr:=gN λ_=>vM
theorem gN.app(Q:Nat->Option fB->Prop)(H bs:List fB):gN Q H (H++bs):=⟨by simp,λi hi=>.inl (by rw[jT,ai hi])⟩
theorem Kr.set{H:List fB}{t:Nat}{e n n':Nat}(h:H[t]?=some (.tok e n)):Kr H (H.set t (.tok e n')):=by
 refine⟨by simp,λi hi=>?_⟩;by_cases hit:t=i
 .subst hit;refine .inr ⟨by rw[h];trivial,?_⟩;rw[zE];simp[hi,vM]
 .exact .inl (by rw[zE,af hit])
def L4:Option fB->Prop
 |some (.mt _ _ _)=>True
 |_=>False
theorem gN.setMt{H:List fB}{t:Nat}{e n e' n':Nat}{cs c:List PV}(h:H[t]?=some (.mt e n cs)):gN (λ_=>L4) H (H.set t (.mt e' n' c)):=by
 refine⟨by simp,λi hi=>?_⟩;by_cases hit:t=i
 .subst hit;refine .inr ⟨by rw[h];trivial,?_⟩;rw[zE];simp[hi,L4]
 .exact .inl (by rw[zE,af hit])
theorem tI{Q:Nat->Option fB->Prop}(f:∀k,k<ops.size->fl.getD k 0<=1->(T (k+1)).heap=(T k).heap){a b:Nat}(g:a<=b)(m:b<=ops.size)(hn:∀k,a<=k->k<b->2<=fl.getD k 0->gN Q (T k).heap (T (k+1)).heap):
  gN Q (T a).heap (T b).heap:=by
 induction b with
 |zero=>rw[show a=0 by omega];exact gN.refl _ _
 |succ b j=>
  by_cases e:a=b+1
  .rw[e];exact gN.refl _ _
  .have d:=j y8 y8 λk l n=>hn k l y8
   by_cases c:2<=fl.getD b 0
   .exact d.trans (hn b y8 y8 c)
   .rw[f b y8 y8];exact d
theorem oN{a b:Nat}(c:∀k,a<=k->k<b->∃bs,(T (k+1)).heap=(T k).heap++bs){k:Nat}(e:a<=k):∀d,k+d<=b->∃bs,(T (k+d)).heap=(T k).heap++bs
 |0,_=>⟨[],by simp⟩
 |d+1,h=>by
  obtain⟨bs,f⟩:=oN c e d y8;obtain⟨cs,g⟩:=c (k+d) y8 y8;exact⟨bs++cs,by rw[show k+(d+1)=k+d+1 by omega,g,f,aB]⟩
theorem nS{a b:Nat}(d:∀k,a<=k->k<b->∃bs,(T (k+1)).heap=(T k).heap++bs){k c:Nat}(e:a<=k)(f:k<=c)(g:c<=b):(T k).heap.length<=(T c).heap.length:=by
 obtain⟨bs,h⟩:=oN d e (c - k) y8;rw[show k+(c - k)=c by omega]at h;rw[h];simp
theorem xQ{a b:Nat}(d:∀k,a<=k->k<b->∃bs,(T (k+1)).heap=(T k).heap++bs){k c i:Nat}(e:a<=k)(f:k<=c)(g:c<=b)(hi:i<(T k).heap.length):(T c).heap[i]?=(T k).heap[i]?:=by
 obtain⟨bs,h⟩:=oN d e (c - k) y8;rw[show k+(c - k)=c by omega]at h;rw[h,jT,ai hi]
theorem tY{a:Nat}{i:Nat}(hi:(T a).heap.length<=i):∀d,i<(T (a+d)).heap.length->∃k,a<=k/\k<a+d/\(T k).heap.length<=i/\i<(T (k+1)).heap.length
 |0,h=>by simp at h;omega
 |d+1,h=>by
  by_cases c:i<(T (a+d)).heap.length
  .obtain⟨k,e,g,f⟩:=tY hi d c;exact⟨k,e,by omega,f⟩
  .exact⟨a+d,by omega,by omega,by omega,h⟩
theorem tK{n a b:Nat}{L:Nat->Prop}(d:∀k,a<=k->k<b->∃bs,(T (k+1)).heap=(T k).heap++bs)(e:∀k,a<=k->k<b->¬2<=fl.getD k 0->(T (k+1)).heap=(T k).heap)(f:a<=b/\b<=n/\(∀k,a<=k->k<b->fl.getD k 0<=2)/\(b<n->3<=fl.getD b 0))(q:∀k,k<a->2<=fl.getD k 0->L k)(g:∀k,a<=k->k<n->2<=fl.getD k 0->¬L k):
  A6 T fl n L ((T a).heap++List.replicate ((T b).heap.length - (T a).heap.length) .hole):=by
 have r:=nS d (j7 a) f.1 (j7 b);refine⟨a,b,f,q,λk j=>g k y8,by simp;omega,λi hi=>?_,λk i j s l hi t=>?_⟩
 .by_cases c:i<(T a).heap.length
  .rw[jT,ai c];exact(xQ d (j7 a) f.1 (j7 b) c).symm
  .by_cases c2:i<(T b).heap.length
   .obtain⟨k,k1,k2,k3,m⟩:=tY (by omega:(T a).heap.length<=i) (b - a) (by rwa [show a+(b - a)=b by omega])
    have l:¬L k:=by
     by_cases p:2<=fl.getD k 0
     .exact g k k1 y8 p
     .rw[e k k1 y8 p]at m;omega
    exact absurd ⟨k3,m⟩ (hi k k1 y8 l)
   .rw[aF y9,aF y8]
 .have l1:=nS d (j7 a) j y8;have l2:=nS d (by omega:a<=k+1) (by omega:k+1<=b) (j7 b);rw[jT,af y8,zM,ai y8]
theorem EE(d:BU ops fl anc sp){L:Nat->Prop}{s:List PV}{j:Nat}{o:Oper}(D:ops[j]?=some o)(E:¬L j)(z:nt ops V (T 0).slots L s)(A:nt ops V (T 0).slots (λk=>k<j) (T j).slots)(p:∀(j:Nat) (o:Oper) (e:Edge),ops[j]?=some o->L j->e∈o.after->Region.binds .any e=true->L e.on)(q:∀i,anc i j->L i)(t:Nat)(hl:t∈yw ops o):s[t]?=(T j).slots[t]?:=by
 by_cases c:t<(T 0).slots.length
 .by_cases r:∃(i:Nat) (oi:Oper),ops[i]?=some oi/\oi.dst=some t/\i≠j
  .obtain⟨i,oi,hi,n,l⟩:=r;have u:j<ops.size:=(ay.1 D).1;have v:i<ops.size:=(ay.1 hi).1;rcases d.look i j oi o t hi D l n hl with w|w
   .rw[(z.2 t c).1 i oi hi (q i w) n,(A.2 t c).1 i oi hi (d.lt i j w u) n]
   .have F:=d.lt j i w v;have B:¬L i:=λm=>E (d.closed L p i oi hi (λe G H=>p i oi e hi m G H) j w)
    have f:∀(k:Nat) (ok:Oper),ops[k]?=some ok->k≠i->ok.dst≠some t:=λk ok g x C=>d.once k i ok oi t g hi x C n
    rw[(z.2 t c).2 λk ok g m=>f k ok g (λe=>B (e ▸ m)),(A.2 t c).2 λk ok g m=>f k ok g y8]
  .have y:∀(k:Nat) (ok:Oper),ops[k]?=some ok->k≠j->ok.dst≠some t:=λk ok g l n=>r ⟨k,ok,g,n,l⟩
   rw[(z.2 t c).2 λk ok g m=>y k ok g (λe=>E (e ▸ m)),(A.2 t c).2 λk ok g m=>y k ok g y8]
 .rw[aF (by rw[z.1];omega),aF (by rw[A.1];omega)]
theorem xx{s s':List PV}{o:Oper}(h:∀t,t∈yw ops o->s[t]?=s'[t]?):fU ops s o=fU ops s' o:=by
 unfold fU;split
 .rfl
 .rename_i j c e;split
  .rfl
  .rename_i d f
   have:s[d]?=s'[d]?:=h d (by simp[yw,e,f])
   rw[this]
theorem KB{s s':List PV}{o:Oper}(h:∀t,t∈yw ops o->s[t]?=s'[t]?):∀x∈o.op.operands,ev s x=ev s' x:=λx c=>by
 cases x with
 |tmp t=>
  have:s[t]?=s'[t]?:=h t (y5 _ (List.mem_filterMap.2 ⟨.tmp t,by simpa using c,rfl⟩))
  simp only[ev,jB,this]
 |_=>rfl
theorem pU{L:Array Bool}{i k:Nat}(hi:i<L.size):(L.setIfInBounds i true).getD k true=if k=i then true else L.getD k true:=by
 simp only[jH,cM];by_cases e:i=k
 .subst e;simp[hi]
 .have e':k≠i:=λh=>e h.symm
  simp[e,e']
theorem Ac(c:List (Nat×TypeId))(o:Oper)(ρ:ft->PV):fF pf c o ρ<=6:=by
 unfold fF
 repeat' split
 all_goals omega
theorem GC(c:List (Nat×TypeId))(o:Oper)(ρ:ft->PV):fF pf c o ρ≠5:=by
 unfold fF
 repeat' split
 all_goals omega
theorem GB(hn:Hint)(r i:Nat)(o:Oper)(ρ:ft->PV)(pf:fo->Bool):kI pf hn r i o ρ%8=fF pf (hn.ownAt r i) o ρ:=by
 have d:=Ac (pf:=pf) (hn.ownAt r i) o ρ;unfold kI
 have c:qM (ic (hn.ownAt r i) o ρ)%8=0:=by
  cases ic (hn.ownAt r i) o ρ with
  |none=>rfl
  |some n=>
   show(16*(n+1))%8=0
   rw[show 16*(n+1)=8*(2*(n+1)) by rw[<-Nat.mul_assoc]];exact Nat.mul_mod_right _ _
 generalize qM (ic (hn.ownAt r i) o ρ)=b at c
 repeat' split
 all_goals omega
theorem wZ{hn:Hint}{r i:Nat}{o:Oper}{ρ:ft->PV}{pf:fo->Bool}{n:Nat}(h:ic (hn.ownAt r i) o ρ=some n):kI pf hn r i o ρ=1+16*(n+1):=by
 have g:=h;unfold ic at h;split at h
 case h_2=>cases h
 rename_i c j;obtain⟨callee,args,ts⟩:=c;cases callee with
 |builtin b=>cases h
 |invoke x n=>cases h
 |value f=>
  cases d:hn.ownAt r i with
  |nil=>rw[d]at h;cases h
  |cons k xs=>
   rw[d]at h;simp only at h;split at h
   case isFalse=>cases h
   rename_i e;unfold kI;rw[g,d];simp only[qM,fF,j,ai e,List.isEmpty_cons,dz,j6,aj,zX]
theorem ya{hn:Hint}{r i:Nat}{o:Oper}{ρ:ft->PV}{pf:fo->Bool}(h:kI pf hn r i o ρ%16=9\/kI pf hn r i o ρ%16=11):hn.ownAt r i=[]/\((∃t a j off,o.op=.load t a/\ρ a=.ptr j off/\kI pf hn r i o ρ=9+16*(j+1))\/
  (∃t a x tt gg j,o.op=.store t a x/\ρ a=.mp tt gg j/\kI pf hn r i o ρ=11)\/∃t a x j off,o.op=.store t a x/\ρ a=.ptr j off/\kI pf hn r i o ρ=11+16*(j+1)):=by
 have g:=Ac (pf:=pf) (hn.ownAt r i) o ρ;cases c:ic (hn.ownAt r i) o ρ with
 |some n=>rw[wZ c]at h;omega
 |none=>
 by_cases hc:(hn.late.contains (r,i) &&(hn.ownAt r i).isEmpty)=true
 case neg=>unfold kI at h;rw[c,af hc]at h;simp only[qM,zX]at h;omega
 have f:hn.ownAt r i=[]:=by simp only[jE,dd]at hc;exact hc.2
 refine⟨f,?_⟩;unfold kI at h |-;rw[c,ai hc]at h |-;rw[f]at h g |-;simp only[qM,zX]at h |-;split at h
 .rename_i t a d;split at h
  .rename_i j off e;exact .inl ⟨t,a,j,off,d,e,by simp only[fF,d,e];omega⟩
  .omega
 .rename_i t a x d;split at h
  .rename_i tt gg j e;exact .inr (.inl ⟨t,a,x,tt,gg,j,d,e,by simp only[fF,d]⟩)
  .rename_i j off e;exact .inr (.inr ⟨t,a,x,j,off,d,e,by simp only[fF,d];omega⟩)
  .omega
 .omega
theorem Du{hn:Hint}{r i:Nat}{o:Oper}{ρ:ft->PV}{pf:fo->Bool}(h:kI pf hn r i o ρ%16=9):∃t a j off,o.op=.load t a/\ρ a=.ptr j off/\hn.ownAt r i=[]/\kI pf hn r i o ρ=9+16*(j+1):=by
 obtain⟨f,⟨t,a,j,off,c,d,e⟩|⟨t,a,x,tt,gg,j,c,d,e⟩|⟨t,a,x,j,off,c,d,e⟩⟩:=ya (.inl h)
 .exact⟨t,a,j,off,c,d,f,e⟩
 .omega
 .omega
theorem Bc{hn:Hint}{r i:Nat}{o:Oper}{ρ:ft->PV}{pf:fo->Bool}(h:kI pf hn r i o ρ%16=11):hn.ownAt r i=[]/\((∃t a x tt gg j,o.op=.store t a x/\ρ a=.mp tt gg j)\/∃t a x j off,o.op=.store t a x/\ρ a=.ptr j off/\kI pf hn r i o ρ=11+16*(j+1)):=by
 obtain⟨c,⟨t,a,j,off,d,f,e⟩|⟨t,a,x,tt,gg,j,d,f,e⟩|g⟩:=ya (.inr h)
 .omega
 .exact⟨c,.inl ⟨t,a,x,tt,gg,j,d,f⟩⟩
 .exact⟨c,.inr g⟩
theorem ID(Y:iX P pf call){M:Nat->Option fB->Prop}{F:Fence}{m:Nat}{Q:Exit->Act->fk->Prop}(hF:rm F)(G:BU ops fl anc sp)(hT:∀(k:Nat) (o:Oper),ops[k]?=some o->(T (k+1)).slots=lN (T k).slots o.dst (V k)/\((fU ops (T k).slots o=some true/\gq P call (h.ownAt r k) o (ev (T k).slots) (T k).heap=some (V k,(T (k+1)).heap)/\fl.getD k 0=fF pf (h.ownAt r k) o (ev (T k).slots))\/
   (fU ops (T k).slots o=some false/\V k=.tup []/\(T (k+1)).heap=(T k).heap/\fl.getD k 0=0)))(hfl:∀k,fl.getD k 0<=6)(hsp:∀i j,sp i j->(fl.getD i 0=1/\fl.getD j 0=3/\(∀o,ops[i]?=some o->∀x,x∈o.op.operands->∀z,z∈(ev (T i).slots x).blks->¬M z (T i).heap[z]?)/\gN M (T j).heap (T (j+1)).heap)\/(fl.getD i 0=3/\fl.getD j 0=1/\gN M (T i).heap (T (i+1)).heap/\(∀o,ops[j]?=some o->∀x,x∈o.op.operands->∀z,z∈(ev (T j).slots x).blks->¬M z (T j).heap[z]?)))(hrd:∀(j:Nat) (o:Oper) (n:Nat),ops[j]?=some o->fU ops (T j).slots o=some true->ic (h.ownAt r j) o (ev (T j).slots)=some n->n<=(T 0).heap.length/\(∀k,k<j->fl.getD k 0<=2)/\(∀k,¬sp j k/\¬sp k j)/\∀k,fl.getD k 0≠4){B0:Nat}{w0:fk}{S0:Nat->Nat->Prop}{Nb:Nat}:
  ∀(n:Nat) (U:List Nat),U.length=n->∀(l:Array Bool) (s:List PV) (H:List fB) (g:Gh) (a:Act) (w:fk),l.size=ops.size->(∀k,k<ops.size->l.getD k true=false->k∈U)->
   (∀(j:Nat) (o:Oper) (e:Edge),ops[j]?=some o->l.getD j true=true->e∈o.after->Region.binds .any e=true->l.getD e.on false=true)->
   nt ops V (T 0).slots (λk=>k<ops.size/\l.getD k true=true) s->A6 T fl ops.size (λk=>k<ops.size/\l.getD k true=true) H->kT P B0 w0 S0 Nb g ⟨s,H⟩ a w->
   (∀g' a' w',Ext Nb g w g' w'->Fr g H w g' (T ops.size).heap w'->kT P B0 w0 S0 Nb g' (T ops.size) a' w'->a'.defers=a.defers->Q .normal a' w')->
   wpAnyIn F m P .any ops Q n l a w:=by
 have hpf:Lq call pf:=λf args H p H' hp hc=>(Y f args H p H' hc).2.1 hp
 have A:∀k,k<ops.size->fl.getD k 0<=1->(T (k+1)).heap=(T k).heap:=λk y hle=>by
  rcases(hT k _ (jA y)).2 with⟨_,h2,h3⟩|⟨_,_,h3,_⟩
  .exact yM hpf (by rw[<-h3];exact hle) h2
  .exact h3
 let TK:Option fB->Prop:=λb=>vM b/\∃k,fl.getD k 0=4
 have hgrow:∀k,k<ops.size->2<=fl.getD k 0->fl.getD k 0≠3->gN (λ_=>TK) (T k).heap (T (k+1)).heap:=λk y h2 h3=>by
  have h4:=hfl k;rcases(hT k _ (jA y)).2 with⟨_,hsm,hfk⟩|⟨_,_,hh,_⟩
  .by_cases e:fl.getD k 0=2
   .obtain⟨bs,hbs⟩:=s7 (pf:=pf) (by rw[<-hfk];exact e) hsm;rw[hbs];exact gN.app _ _ _
   .by_cases e4:fl.getD k 0=4
    .obtain⟨t,te,n,n',g1,g2⟩:=Hd (pf:=pf) (by rw[<-hfk];exact e4) hsm;rw[g2];exact(Kr.set g1).mono λ_ _ h=>⟨h,k,e4⟩
    .have h5:=GC (pf:=pf) (h.ownAt r k) ops[k] (ev (T k).slots);rw[<-hfk]at h5;rw[IQ (pf:=pf) (by rw[<-hfk];omega) hsm];exact gN.refl _ _
  .rw[hh];exact gN.refl _ _
 have both2:∀a b,2<=a->2<=b->¬(a=2/\b=2)->s8 a b=false:=λa b h1 h2 h3=>by
  simp only[s8,h1,h2,decide_true,aY]
  have:(a==2 &&b==2)=false:=by
   cases e:(a==2 &&b==2)with
   |false=>rfl
   |true=>simp at e;exact absurd e h3
  simp[this]
 have hlong:∀k,k<ops.size->fl.getD k 0<=2->∃bs,(T (k+1)).heap=(T k).heap++bs:=λk y hle=>by
  by_cases e:fl.getD k 0<=1
  .exact⟨[],by rw[A k y e];simp⟩
  .rcases(hT k _ (jA y)).2 with⟨_,hsm,hfk⟩|⟨_,_,hh,hz⟩
   .exact s7 (pf:=pf) (by rw[<-hfk];omega) hsm
   .omega
 have htext:=vh G (λk o Z=>(hT k o Z).1)
 -- all have come up: the end of the text's order
 have fin:∀(l:Array Bool) (s:List PV) (H:List fB),(∀k,k<ops.size->l.getD k true=true)->nt ops V (T 0).slots (λk=>k<ops.size/\l.getD k true=true) s->
   A6 T fl ops.size (λk=>k<ops.size/\l.getD k true=true) H->(⟨s,H⟩:St)=T ops.size:=λl s H W hs hH=>by
  have ht:=htext ops.size (j7 _)
  have e1:s=(T ops.size).slots:=by
   apply bD;intro t;by_cases hlen:t<(T 0).slots.length
   .by_cases hex:∃(i:Nat) (oi:Oper),ops[i]?=some oi/\oi.dst=some t
    .obtain⟨i,oi,hi,hd⟩:=hex;have hlt:i<ops.size:=(ay.1 hi).1;rw[(hs.2 t hlen).1 i oi hi ⟨hlt,W i hlt⟩ hd,(ht.2 t hlen).1 i oi hi hlt hd]
    .have hno:∀(k:Nat) (ok:Oper),ops[k]?=some ok->ok.dst≠some t:=λk ok y hd=>hex ⟨k,ok,y,hd⟩
     rw[(hs.2 t hlen).2 λk ok y _=>hno k ok y,(ht.2 t hlen).2 λk ok y _=>hno k ok y]
   .rw[aF (by rw[hs.1];omega),aF (by rw[ht.1];omega)]
  have e2:H=(T ops.size).heap:=by
   obtain⟨x,b,⟨hb1,hb2,hb3,hb4⟩,h1,h2,h3,h4,h5⟩:=hH
   have hbn:b=ops.size:=by
    by_cases c:b<ops.size
    .exact absurd ⟨c,W b c⟩ (h2 b (j7 _) c (by have:=hb4 c;omega))
    .omega
   subst hbn;exact bD λi=>h4 i λk k1 k2 C=>absurd ⟨k2,W k k2⟩ C
  rw[e1,e2]
 have ready_none:∀(l:Array Bool),l.size=ops.size->Region.ready .any ops l=[]->∀k,k<ops.size->l.getD k true=true:=λl hsz hr k=>by
  induction k using Nat.strongRecOn with
  |_ k ih=>
   intro y;cases E:l.getD k true with
   |true=>rfl
   |false=>
    exfalso
    have Z:ops[k]?=some ops[k]:=jA y
    have:k∈Region.ready .any ops l:=mem_ready.2 ⟨E,_,Z,λe he hbi=>by
     have hlt:=G.back k _ e Z he hbi;have:=ih e.on hlt y8;have hls:e.on<l.size:=by omega
     simp only[jH,jA hls,aE]at this |-;exact this⟩
    rw[hr]at this;cases this
 intro n;induction n with
 |zero=>
  intro U hUl l s H g a w hsz hU hdc hs hH hst hQ;have hUe:U=[]:=aw hUl;subst hUe
  have W:∀k,k<ops.size->l.getD k true=true:=λk y=>by
   cases E:l.getD k true with
   |true=>rfl
   |false=>exact absurd (hU k y E) yA
  refine⟨?_,?_⟩
  .cases hr:Region.ready .any ops l with
   |nil=>rfl
   |cons i rs=>
    have hm:i∈Region.ready .any ops l:=by rw[hr];simp
    obtain⟨E,o,Z,_⟩:=mem_ready.1 hm;rw[W i (ay.1 Z).1]at E;cases E
  .have e:=fin l s H W hs hH;rw[e]at hst;have e2:H=(T ops.size).heap:=bI St.heap e;exact hQ g a w (Ext.refl _ _ _) (by rw[e2];exact Fr.refl _ _ _) hst rfl
 |succ n ih=>
  intro U hUl l s H g a w hsz hU hdc hs hH hst hQ;refine⟨λhr=>?_,λj hj=>?_⟩
  .have e:=fin l s H (ready_none l hsz hr) hs hH;rw[e]at hst;have e2:H=(T ops.size).heap:=bI St.heap e;exact hQ g a w (Ext.refl _ _ _) (by rw[e2];exact Fr.refl _ _ _) hst rfl
  .obtain⟨hun,o,Z,hready⟩:=mem_ready.1 hj;have hjlt:j<ops.size:=(ay.1 Z).1;have hjl:j<l.size:=by omega
   let L:Nat->Prop:=λk=>k<ops.size/\l.getD k true=true
   have hjL:¬L j:=λC=>by have:=C.2;rw[hun]at this;cases this
   have Fi:∀k,l.getD k false=true->L k:=λk y=>by
    by_cases hkl:k<l.size
    .simp only[jH,jA hkl,aE]at y;exact⟨by omega,by simp only[jH,jA hkl,aE];exact y⟩
    .simp only[jH,Array.getElem?_eq_none (show l.size<=k by omega),Option.getD_none]at y;cases y
   have hdcL:∀(j:Nat) (o:Oper) (e:Edge),ops[j]?=some o->L j->e∈o.after->Region.binds .any e=true->L e.on:=λj o e Z C he E=>Fi _ (hdc j o e Z C.2 he E)
   have hanc:∀i,anc i j->L i:=λi hi=>G.closed L hdcL j o Z (λe he E=>Fi _ (hready e he E)) i hi
   have hsame:=EE (V:=V) G Z hjL hs (htext j y8) hdcL hanc;have hw:=xx (o:=o) hsame;have hev:=KB (o:=o) hsame
   -- the operations that have come up, behind this one
   have hL':∀k,(k<ops.size/\(l.setIfInBounds j true).getD k true=true)↔(L k\/k=j):=λk=>by
    rw[pU hjl];by_cases e:k=j
    .subst e;simp[hjlt]
    .simp[e,L]
   have hU':(U.erase j).length=n:=by rw[dV (hU j hjlt hun),hUl];rfl
   have hUm:∀k,k<ops.size->(l.setIfInBounds j true).getD k true=false->k∈U.erase j:=λk y E=>by
    rw[pU hjl]at E;by_cases e:k=j
    .rw[ai e]at E;cases E
    .rw[af e]at E;exact(eP e).2 (hU k y E)
   have hdc':∀(j':Nat) (o':Oper) (e:Edge),ops[j']?=some o'->(l.setIfInBounds j true).getD j' true=true->e∈o'.after->Region.binds .any e=true->(l.setIfInBounds j true).getD e.on false=true:=λj' o' e ho' hl he E=>by
    rw[pU hjl]at hl
    have:l.getD e.on false=true:=by
     by_cases e':j'=j
     .subst e';rw[Z]at ho';cases ho';exact hready e he E
     .rw[af e']at hl;exact hdc j' o' e ho' hl he E
    exact getD_set_true this
   have J:nt ops V (T 0).slots (λk=>k<ops.size/\(l.setIfInBounds j true).getD k true=true) (lN s o.dst (V j)):=by
    have:=xS G Z hjL hs;refine⟨this.1,λt ht=>⟨λk ok y C hd=>(this.2 t ht).1 k ok y ((hL' k).1 C) hd,λhn=>(this.2 t ht).2 λk ok y C=>hn k ok y ((hL' k).2 C)⟩⟩
   -- the heap that it meets
   obtain⟨xa,I,hbat,hA,hB,hlenH,D,K⟩:=hH;obtain⟨hb1,hb2,hb3,hb4⟩:=hbat;have hgb:∀k,xa<=k->k<I->∃bs,(T (k+1)).heap=(T k).heap++bs:=λk k1 k2=>hlong k y8 (hb3 k k1 k2)
   -- what has come up, of those behind j that mind it
   have hafter:∀k,j<k->k<ops.size->s8 (fl.getD j 0) (fl.getD k 0)=false->¬sp j k->¬L k:=λk hjk y hf hns hLk=>by
    have ha:=(G.mind j k hjlt y hjk hf).resolve_right hns;have hok:ops[k]?=some ops[k]:=jA y;exact hjL (G.closed L hdcL k _ hok (λe he E=>hdcL k _ e hok hLk he E) j ha)
   have X:∀k,k<j->s8 (fl.getD k 0) (fl.getD j 0)=false->¬sp k j->L k:=λk hkj hf hns=>hanc k ((G.mind k j y8 hjlt hkj hf).resolve_right hns)
   have O:∀k,k<j->2<=fl.getD k 0->2<=fl.getD j 0->¬(fl.getD k 0=2/\fl.getD j 0=2)->L k:=λk hkj h1 h2 h3=>X k hkj (both2 _ _ h1 h2 h3) λhs=>by
    rcases hsp k j hs with⟨e,_⟩|⟨_,e,_⟩<;>omega
   -- one that may make the heap longer lies in the batch
   have hin2:fl.getD j 0=2->xa<=j/\j<I:=λh2=>by
    have c1:xa<=j:=cP λc=>hjL (hA j c y8)
    refine⟨c1,Nat.lt_of_not_le λc=>?_⟩;by_cases e:I=j
    .have:=hb4 y8;rw[e]at this;omega
    .have h3:=hb4 y8;exact hB I (j7 _) y8 y8 (O I y8 y8 y8 y8)
   -- one that turns the heap otherwise follows it
   have hin3:3<=fl.getD j 0->I=j/\H=(T j).heap/\(∀k,xa<=k->k<I->2<=fl.getD k 0->L k):=λh3=>by
    have c1:xa<=j:=cP λc=>hjL (hA j c y8)
    have c2:I<=j:=cP λc=>by have:=hb3 j c1 c;omega
    have c3:I=j:=by
     refine Nat.le_antisymm c2 (cP λc=>?_);have h3':=hb4 y8;exact hB I (j7 _) y8 y8 (O I c y8 y8 y8)
    subst c3;have c4:∀k,xa<=k->k<I->2<=fl.getD k 0->L k:=λk k1 k2 k3=>O k k2 k3 y8 y8
    refine⟨rfl,bD λi=>D i λk k1 k2 C hi=>?_,c4⟩
    have:¬2<=fl.getD k 0:=λc=>C (c4 k k1 k2 c)
    rw[A k y8 y8]at hi;omega
   -- a box that it reads
   have hbox:fl.getD j 0=1->∀(B:Prop) (i:Nat),((∃k,sp j k\/sp k j)->(∀x,x∈o.op.operands->∀z,z∈(ev (T j).slots x).blks->¬M z (T j).heap[z]?)->B)->(B->¬M i (T j).heap[i]?)->(∀k,xa<=k->k<I->¬L k->¬((T k).heap.length<=i/\i<(T (k+1)).heap.length))->i<(T I).heap.length->i<(T j).heap.length->¬TK (T j).heap[i]?->H[i]?=(T j).heap[i]?:=λhge B i hB1 hB2 hnh hi1 hi2 hnt=>by
    have hHb:H[i]?=(T I).heap[i]?:=D i hnh;rw[hHb];have hno:¬(TK (T j).heap[i]?\/(B/\M i (T j).heap[i]?)):=λh=>h.elim hnt λh=>hB2 h.1 h.2
    have hmt:B->∀{H1 H2:List fB},gN M H1 H2->gN (λi b=>TK b\/(B/\M i b)) H1 H2:=λE _ _ h=>h.mono λi b h=>.inr ⟨E,h⟩
    rcases Nat.lt_or_ge I j with hlt|hge'
    .have hbs:=tI (Q:=λi b=>TK b\/(B/\M i b)) A (Nat.le_of_lt hlt) y8 λk h1 h2 h3=>by
      by_cases e3:fl.getD k 0=3
      .by_cases hs:sp k j
       .rcases hsp k j hs with⟨e,_⟩|⟨_,_,q1,q2⟩
        .omega
        .exact hmt (hB1 ⟨k,.inr hs⟩ (q2 o Z)) q1
       .exact absurd (X k h2 (by rw[e3,hge];rfl) hs) (hB k h1 y8 y8)
      .exact(hgrow k y8 h3 e3).mono λi b h=>.inl h
     rcases hbs.2 i hi1 with h|⟨_,h⟩
     .exact h.symm
     .exact absurd h hno
    .have hbs:=tI (Q:=λi b=>TK b\/(B/\M i b)) A hge' hb2 λk h1 h2 h3=>by
      by_cases e3:fl.getD k 0=3
      .have hne:k≠j:=λe=>by subst e;omega
       by_cases hka:k<xa
       .by_cases hs:sp j k
        .rcases hsp j k hs with⟨_,_,q1,q2⟩|⟨e,_⟩
         .exact hmt (hB1 ⟨k,.inl hs⟩ (q1 o Z)) q2
         .omega
        .exact absurd (hA k hka y8) (hafter k y8 y8 (by rw[e3,hge];rfl) hs)
       .have:=hb3 k y8 h2;omega
      .exact(hgrow k y8 h3 e3).mono λi b h=>.inl h
     rcases hbs.2 i hi2 with h|⟨h,_⟩
     .exact h
     .exact absurd h hno
   have hL1:∀k,¬(k<ops.size/\(l.setIfInBounds j true).getD k true=true)->¬L k:=λk y C=>y ((hL' k).2 (.inl C))
   have hL2:∀k,k≠j->(k<ops.size/\(l.setIfInBounds j true).getD k true=true)->L k:=λk hne y=>((hL' k).1 y).resolve_right hne
   -- nothing has been turned
   have hHeap1:fl.getD j 0<=1->A6 T fl ops.size (λk=>k<ops.size/\(l.setIfInBounds j true).getD k true=true) H:=λhle=>by
    have hz:∀i,¬((T j).heap.length<=i/\i<(T (j+1)).heap.length):=λi=>by rw[A j hjlt hle];omega
    refine⟨xa,I,⟨hb1,hb2,hb3,hb4⟩,λk k1 k2=>(hL' k).2 (.inl (hA k k1 k2)),λk k1 k2 k3 C=>hB k k1 k2 k3 (hL2 k (λe=>by subst e;omega) C),hlenH,λi hi=>D i λk k1 k2 C=>?_,λk i k1 k2 C=>K k i k1 k2 (hL1 k C)⟩;by_cases e:k=j
    .subst e;exact hz i
    .exact hi k k1 k2 λhL3=>C (hL2 k e hL3)
   unfold wpOpIn;simp only[Z];rcases(hT j o Z).2 with⟨hwt,hsem,hflj⟩|⟨hwf,hvj,hhj,hflj⟩
   .rw[jw hst.rep (by rw[hw];exact hwt),ai rfl];by_cases h1:fl.getD j 0<=1
    .have hsem':gq P call (h.ownAt r j) o (ev s) H=some (V j,H):=by
      by_cases h0:fl.getD j 0=0
      .rw[nN hev];exact DJ hpf (by rw[<-hflj];exact h0) hsem H
      .have h1:fl.getD j 0=1:=by omega
       cases hrb:ic (h.ownAt r j) o (ev (T j).slots)with
       |some n0=>
        obtain⟨q1,q3⟩:=Lo hrb hsem;obtain⟨r1,r2,r3,r4⟩:=hrd j o n0 Z hwt hrb;rw[nN hev]
        -- the heap gets no shorter, as far as j
        have hup:∀k,k<=j->(T 0).heap.length<=(T k).heap.length:=λk=>by
         induction k with
         |zero=>intro _;exact j7 _
         |succ k ihk=>
          intro y;obtain⟨bs,hbs⟩:=hlong k y8 (r2 k y8);rw[hbs,jV];have:=ihk y8;omega
        have hdn:∀d k,k=j+d->k<=I->(T j).heap.length<=(T k).heap.length:=λd=>by
         induction d with
         |zero=>intro k y _;rw[show k=j by omega];exact j7 _
         |succ d ihd=>
          intro k y hkb;have hlast:=ihd (j+d) rfl y8;have e:k=(j+d)+1:=by omega
          have hsz2:j+d<ops.size:=by omega
          rw[e];by_cases e1:fl.getD (j+d) 0<=1
          .rw[A _ hsz2 e1];exact hlast
          .by_cases e3:fl.getD (j+d) 0=3
           .exfalso
            have hdp:0<d:=by
             rcases dI d with hd|hd
             .subst hd;rw[zX]at e3;omega
             .exact hd
            by_cases hka:j+d<xa
            .exact absurd (hA (j+d) hka y8) (hafter (j+d) y8 hsz2 (by rw[e3,h1];rfl) (r3 (j+d)).1)
            .have:=hb3 (j+d) y8 y8;omega
           .exact jW hlast (hgrow _ hsz2 y8 e3).1
        have hge0:∀k,k<=I->(T 0).heap.length<=(T k).heap.length:=λk y=>by
         by_cases e:k<=j
         .exact hup k e
         .exact jW (hup j (j7 _)) (hdn (k - j) k y8 y)
        refine q3 H λi hi=>?_
        have hxbl:=hge0 I (j7 _);exact hbox h1 False i (λ⟨k,y⟩ _=>y.elim (λh=>(r3 k).1 h) (λh=>(r3 k).2 h)) False.elim (λk k1 k2 _ hh=>by have:=hge0 k y8;omega) y8 y8 (λh=>h.2.elim r4)
       |none=>
       obtain⟨xs,hops,hthere,hbx⟩:=M4 (pf:=pf) hpf hrb (by rw[<-hflj];exact h1) hsem;rw[nN hev];refine hbx H λx hx i R=>?_
       have hxx:ev s x=ev (T j).slots x:=hev x (hops x hx);have hv:=hst.rep.ev x;rw[hxx]at hv;obtain⟨t1,t2⟩:=hthere x hx i R;have hxi0:=R;generalize ev (T j).slots x=xv at R hv
       have hnh:(g.live i\/∃z,g.own i=some z)->H[i]?≠some .hole:=λhg hh=>by
        obtain⟨k1,k2⟩:=hst.heap.noHole hh;rcases hg with hg|⟨z,hz⟩
        .exact k1 hg
        .rw[k2]at hz;cases hz
       have one:∀(va:fu) (c:PV),fC g H.length w va c->i∈c.blk1->i<H.length/\H[i]?≠some .hole:=λva c hc hi=>by
        cases hc<;>simp only[PV.blk1,jX,bV]at hi<;>subst hi
        .rename_i hl;exact⟨hl.1,hnh (.inl hl.2)⟩
        .rename_i hc hl;exact⟨hl.1,hnh (.inl hl.2)⟩
        .exact⟨by assumption,hnh (.inr ⟨_,by assumption⟩)⟩
        .exact⟨by assumption,hnh (.inr ⟨_,by assumption⟩)⟩
        .rename_i hl;exact⟨hl.1,hnh (.inl hl.2)⟩
       have hi1:i<H.length/\H[i]?≠some .hole:=by
        generalize a.eval x=va at hv;cases hv with
        |agg vs cs a1 a2=>
         simp only[PV.blks,bE]at R;obtain⟨c,hc,hi⟩:=R;obtain⟨q,hq⟩:=aL hc;have hl:=(ae.1 hq).1;exact one _ c (a2 q _ c (jA y8) hq) hi
        |ptr i o hi=>exact one _ _ (.ptr i o hi) R
        |arr i o len cap hi hc=>exact one _ _ (.arr i o len cap hi hc) R
        |ms t gg lo len cp v v0 n b1 b2 b3 b4 b5=>exact one _ _ (.ms t gg lo len cp _ v0 n b1 b2 b3 b4 b5) R
        |mp t gg j v v0 n b1 b2 b3 b4 b5=>exact one _ _ (.mp t gg j _ v0 n b1 b2 b3 b4 b5) R
        |mapv i hi=>exact one _ _ (.mapv i hi) R
        |_=>simp[PV.blks,PV.blk1]at R
       exact hbox h1 (∀x,x∈o.op.operands->∀z,z∈(ev (T j).slots x).blks->¬M z (T j).heap[z]?) i (λ_ E=>E) (λE=>E x (hops x hx) i hxi0) (λk k1 k2 C hi=>hi1.2 (K k i k1 k2 C hi.1 hi.2)) (by rw[<-hlenH];exact hi1.1) t1 (λh=>t2 h.1)
     refine s6 hF Y hsem' hst λu g' w' hg=>?_
     refine ih (U.erase j) hU' _ _ H g' _ w' (by simp[hsz]) hUm hdc' J (hHeap1 h1) (hst.put hg o.dst) λg2 a2 w2 he hf S hd=>?_
     exact hQ g2 a2 w2 ((hg.ext.less hst.base).trans he (j7 _)) (hg.fr.trans hf) S (hd.trans (iH _ _ _))
    .by_cases h2:fl.getD j 0=2
     ·-- the heap gets longer: its blocks are put into the holes that wait for them
      obtain⟨c1,c2⟩:=hin2 h2;obtain⟨p2,bs2,hs2,hp2,hb2',hne2⟩:=GI (H2:=H) (ρ:=ev s) (pf:=pf) (by rw[DO hev,<-hflj];exact h2) (by rw[nN hev];exact hsem) λx=>(hst.rep.ev x).fix λi hi=>sv hi
      refine s6 hF Y hs2 hst λu g' w' hg=>?_
      have hlb:(T (j+1)).heap.length=(T j).heap.length+(bs2.map (fB.ren (vJ H.length (T j).heap.length))).length:=by rw[hb2'];simp
      have hle:=nS hgb (by omega:xa<=j+1) (by omega:j+1<=I) (j7 I);obtain⟨g3,he3,hf3,hst3⟩:=kT.place hst hg rfl hne2 y8 (λi i1 i2=>K j i c1 c2 hjL i1 y8) o.dst;rw[<-hp2]at hst3
      have hgetb:∀i,(T j).heap.length<=i->i<(T (j+1)).heap.length->(bs2.map (fB.ren (vJ H.length (T j).heap.length)))[i - (T j).heap.length]?=(T I).heap[i]?:=λi i1 i2=>by
       rw[xQ hgb (by omega:xa<=j+1) (by omega:j+1<=I) (j7 I) i2,hb2',zN i1]
      refine ih (U.erase j) hU' _ _ _ g3 _ w' (by simp[hsz]) hUm hdc' J ⟨xa,I,⟨hb1,hb2,hb3,hb4⟩,λk k1 k2=>(hL' k).2 (.inl (hA k k1 k2)),λk k1 k2 k3 C=>hB k k1 k2 k3 (hL2 k y8 C),?_,λi hi=>?_,λk i k1 k2 C i1 i2=>?_⟩ hst3 λg2 a2 w2 he hf S hd=>?_
      .simp only[jV,zV,y6];omega
      .rw[gH _ _ _ y8];by_cases s1:i<(T j).heap.length
       .rw[ai s1];refine D i λk k1 k2 C hh=>?_
        by_cases e:k=j
        .subst e;omega
        .exact hi k k1 k2 (λhL3=>C (hL2 k e hL3)) hh
       .rw[af s1];by_cases s2:i<(T (j+1)).heap.length
        .rw[ai y8];exact hgetb i y8 s2
        .rw[af y8];refine D i λk k1 k2 C hh=>?_
         by_cases e:k=j
         .subst e;omega
         .exact hi k k1 k2 (λhL3=>C (hL2 k e hL3)) hh
      .have hkj:k≠j:=λe=>C ((hL' k).2 (.inr e))
       rw[gH _ _ _ y8];have hold:=K k i k1 k2 (hL1 k C) i1 i2;by_cases s1:i<(T j).heap.length
       .rw[ai s1];exact hold
       .rw[af s1]
        have:¬i<(T (j+1)).heap.length:=λs2=>by
         rcases Nat.lt_or_gt_of_ne hkj with c|c
         .have:=nS hgb (by omega:xa<=k+1) (by omega:k+1<=j) y8;omega
         .have:=nS hgb (by omega:xa<=j+1) (by omega:j+1<=k) y8;omega
        rw[af y8];exact hold
      .exact hQ g2 a2 w2 ((he3.less hst.base).trans he (j7 _)) (hf3.trans hf) S (hd.trans (iH _ _ _))
     ·-- the heap is turned otherwise: a new batch begins
      obtain⟨c1,c2,c3⟩:=hin3 y8;have hsem':gq P call (h.ownAt r j) o (ev s) H=some (V j,(T (j+1)).heap):=by rw[nN hev,c2];exact hsem
      refine s6 hF Y hsem' hst λu g' w' hg=>?_
      obtain⟨b',hb'⟩:=tB fl ops.size (ops.size - (j+1)) (j+1) y8;have hst1:=hst.put hg o.dst;obtain⟨g3,he3,hf3,hst3⟩:=hst1.holes ((T b').heap.length - (T (j+1)).heap.length);refine ih (U.erase j) hU' _ _ _ g3 _ w' (by simp[hsz]) hUm hdc' J (tK (λk k1 k2=>hlong k y8 (hb'.2.2.1 k k1 k2)) (λk k1 k2 k3=>A k y8 y8) hb' (λk k1 k2=>?_) (λk k1 k2 k3 C=>hB k y8 k2 k3 (hL2 k y8 C))) hst3 λg2 a2 w2 he hf S hd=>?_
      .refine(hL' k).2 ?_;by_cases e:k=j
       .exact .inr e
       .by_cases c:k<xa
        .exact .inl (hA k c k2)
        .exact .inl (c3 k y8 y8 k2)
      .exact hQ g2 a2 w2 (((hg.ext.less hst.base).trans (he3.less hst1.base) (j7 _)).trans he (j7 _)) ((hg.fr.trans hf3).trans hf) S (hd.trans (iH _ _ _))
   .rw[jw hst.rep (by rw[hw];exact hwf)];simp only[j6,aj];refine⟨λf _=>hF.fn f,?_⟩;refine ih (U.erase j) hU' _ _ H g _ w (by simp[hsz]) hUm hdc' J (hHeap1 y8) ⟨hst.heap,hst.inv,?_,hst.base⟩ λg2 a2 w2 he hf S hd=>?_
    .have:=hst.rep.put o.dst (mw (g:=g) (N:=H.length) (w:=w));rw[hvj];exact this
    .exact hQ g2 a2 w2 he hf S (hd.trans (iH _ _ _))
theorem Al(hmix:P.follows .mixedOrders=true)(K:iX P pf call):tf P call pf h:=by
 intro r ops st st' fl q L B0 w0 S0 Nb g a w F m Q hF _ hst hQ;obtain⟨anc,hord⟩:=B7 q;obtain⟨T,t1,t2,E⟩:=qZ ops.toList 0 st st' fl L;simp only[zH,zY,aP]at t2 E
 have hlen:fl.length<=ops.size:=by
  have:∀(os:List Oper) (i:Nat) (st st':St) (fl:List Nat),gR P call pf h r ops i os st=some (st',fl)->fl.length=os.length:=by
   intro os;induction os with
   |nil=>intro i st st' fl Y;cases Y;rfl
   |cons o os ih=>
    intro i st st' fl Y;simp only[gR]at Y;split at Y
    .split at Y
     .rename_i A;cases Y;simp[ih _ _ _ _ A]
     .cases Y
    .cases Y
  have:=this _ _ _ _ _ L;simp at this;omega
 have s:∀k,ops[k]?=none->fl.getD k 0=0:=λk l=>by
  have hge:ops.size<=k:=by simpa using l
  rw[jB,aF y8];simp
 let J:Nat->Prop:=λi=>∃k,fl.getD k 0=11+16*(i+1)
 let M:Nat->Option fB->Prop:=λi b=>L4 b\/J i
 have N:∀i j k,fl.getD k 0=9+16*(i+1)->fl.getD j 0≠11+16*(i+1):=λi j k h1 A=>by
  have hl:Ix fl=true:=by
   unfold kR at q;simp only[jE]at q;exact q.1.2
  have hmem:∀k,0<fl.getD k 0->fl.getD k 0∈fl:=λk l=>by
   rw[jB]at l |-;cases e:fl[k]? with
   |none=>rw[e]at l;exact absurd l (jZ 0)
   |some v=>exact jF e
  have q1:=an.1 hl _ (hmem k y8);simp only[zS,zD]at q1;rcases q1 with q1|q1
  .omega
  .have q2:=an.1 q1 _ (hmem j y8);simp only[zS,zD]at q2;omega
 have hbl:∀k,fl.getD k 0%16=9->∀o,ops[k]?=some o->∀x,x∈o.op.operands->∀z,z∈(ev (T k).slots x).blks->¬M z (T k).heap[z]?:=λk h9 o u x hx z hz=>by
  obtain⟨k1,k2⟩:=E k o u;obtain⟨v,_,hp⟩:=oC k1;rcases hp with⟨hw,c⟩|⟨hw,_⟩
  .rw[ai hw]at k2;rw[k2]at h9;obtain⟨t,a,i,off,G,I,B,O⟩:=Du h9;rw[G]at hx;simp[Op.operands]at hx;subst hx;rw[I]at hz;simp[PV.blks,PV.blk1]at hz;subst hz;rw[B]at c;simp only[gq,G,jy,I]at c;split at c
   .split at c
    .rename_i hb;rw[hb];exact λh=>h.elim (λh=>h) λ⟨j,hj⟩=>N _ j k (by rw[k2];exact O) hj
    .cases c
   .cases c
  .rw[af (by rw[hw];simp)]at k2;rw[k2]at h9;cases h9
 have hms:∀k,fl.getD k 0%16=11->gN M (T k).heap (T (k+1)).heap:=λk y=>by
  cases u:ops[k]? with
  |none=>rw[s k u]at y;cases y
  |some o=>
   obtain⟨k1,k2⟩:=E k o u;obtain⟨v,_,hp⟩:=oC k1;rcases hp with⟨hw,c⟩|⟨hw,_⟩
   .rw[ai hw]at k2;have h11':=y;rw[k2]at y;obtain⟨B,⟨t,a,x,tt,gg,j,G,I⟩|⟨t,a,x,j,off,G,I,O⟩⟩:=Bc y
    .rw[B]at c;simp only[gq,G,iP,I]at c;have hM:∀{H H':List fB},gN (λ_=>L4) H H'->gN M H H':=λh=>h.mono λ_ _ h=>.inl h
     split at c
     .split at c
      .rename_i hb;split at c
       .simp only[j9,jI]at c;rw[<-c.2];exact hM (gN.setMt (Zb hb))
       .split at c
        .split at c
         .simp only[j9,jI]at c;rw[<-c.2];exact hM (gN.setMt (Zb hb))
         .cases c
        .cases c
      .cases c
     .cases c
    .rw[B]at c;simp only[gq,G,iP,I]at c;have hJ:J j:=⟨k,by rw[k2];exact O⟩
     have hset:∀b:fB,gN M (T k).heap ((T k).heap.set j b):=λb=>⟨by simp,λi hi=>by
      by_cases hij:j=i
      .subst hij;exact .inr ⟨.inr hJ,.inr hJ⟩
      .exact .inl (by rw[zE,af hij])⟩
     split at c
     .split at c
      .split at c
       .simp only[j5,jI]at c;obtain⟨cs,_,_,hh⟩:=c;rw[<-hh];exact hset _
       .cases c
      .cases c
     .cases c
   .rw[af (by rw[hw];simp)]at k2;rw[k2]at y;cases y
 have d:∀k,(fl.map (· %8)).getD k 0=fl.getD k 0%8:=NU fl
 have hrd:∀(j:Nat) (o:Oper) (n:Nat),ops[j]?=some o->fU ops (T j).slots o=some true->ic (h.ownAt r j) o (ev (T j).slots)=some n->n<=(T 0).heap.length/\(∀k,k<j->(fl.map (· %8)).getD k 0<=2)/\(∀k,¬((fl.getD j 0%16=9/\fl.getD k 0%16=11)\/(fl.getD j 0%16=11/\fl.getD k 0%16=9))/\¬((fl.getD k 0%16=9/\fl.getD j 0%16=11)\/(fl.getD k 0%16=11/\fl.getD j 0%16=9)))/\∀k,(fl.map (· %8)).getD k 0≠4:=λj o n u hw hrb=>by
  have Z:=(E j o u).2;rw[ai hw,wZ hrb]at Z
  have Y:FE st.heap.length fl=true:=by
   unfold kR at q;simp only[jE]at q;exact q.1.1
  have hjl:j<fl.length:=Nat.lt_of_not_le λhle=>by
   rw[jB,aF hle]at Z;simp at Z
  have hj:=an.1 Y j (ct.2 hjl);simp only[zS,jE,zD,j8,ct]at hj;rcases hj with(hj|hj)|⟨⟨h1,A⟩,h4⟩
  .omega
  .omega
  .refine⟨by rw[t1];omega,λk l=>by rw[d];exact A k l,λk=>⟨λe=>?_,λe=>?_⟩,λk=>?_⟩
   .rcases e with⟨e,_⟩|⟨e,_⟩<;>omega
   .rcases e with⟨_,e⟩|⟨_,e⟩<;>omega
   .rw[d];by_cases l:k<fl.length
    .exact h4 k l
    .rw[jB,aF y8];decide
 have R:∀i j,((fl.getD i 0%16=9/\fl.getD j 0%16=11)\/(fl.getD i 0%16=11/\fl.getD j 0%16=9))->((fl.map (· %8)).getD i 0=1/\(fl.map (· %8)).getD j 0=3/\(∀o,ops[i]?=some o->∀x,x∈o.op.operands->∀z,z∈(ev (T i).slots x).blks->¬M z (T i).heap[z]?)/\gN M (T j).heap (T (j+1)).heap)\/((fl.map (· %8)).getD i 0=3/\(fl.map (· %8)).getD j 0=1/\gN M (T i).heap (T (i+1)).heap/\(∀o,ops[j]?=some o->∀x,x∈o.op.operands->∀z,z∈(ev (T j).slots x).blks->¬M z (T j).heap[z]?)):=λi j hs=>by
  rcases hs with⟨e1,e2⟩|⟨e1,e2⟩
  .exact .inl ⟨by rw[d];omega,by rw[d];omega,hbl i e1,hms j e2⟩
  .exact .inr ⟨by rw[d];omega,by rw[d];omega,hms i e1,hbl j e2⟩
 have t3:∀(k:Nat) (o:Oper),ops[k]?=some o->iJ P call h r ops k o (T k)=some (T (k+1))/\(fl.map (· %8)).getD k 0=(if fU ops (T k).slots o=some true then fF pf (h.ownAt r k) o (ev (T k).slots)else 0):=λk o u=>by
  obtain⟨k1,k2⟩:=E k o u;refine⟨k1,?_⟩;rw[d,k2];split
  .exact GB _ _ _ _ _ _
  .rfl
 have hzero2:∀k,ops[k]?=none->(fl.map (· %8)).getD k 0=0:=λk l=>by rw[d,s k l]
 clear hbl hms s E hlen N
 clear_value M
 generalize U:(λi j=>(fl.getD i 0%16=9/\fl.getD j 0%16=11)\/(fl.getD i 0%16=11/\fl.getD j 0%16=9))=sp at hord;have R:∀i j,sp i j->_:=λi j hs=>R i j (by rw[<-U]at hs;exact hs)
 replace hrd:∀(j:Nat) (o:Oper) (n:Nat),ops[j]?=some o->fU ops (T j).slots o=some true->ic (h.ownAt r j) o (ev (T j).slots)=some n->n<=(T 0).heap.length/\(∀k,k<j->(fl.map (· %8)).getD k 0<=2)/\(∀k,¬sp j k/\¬sp k j)/\∀k,(fl.map (· %8)).getD k 0≠4:=by rw[<-U];exact hrd
 clear d q L U;generalize fl.map (· %8)=fl at *
 have hV:∀k,∃v,∀o,ops[k]?=some o->(T (k+1)).slots=lN (T k).slots o.dst v/\((fU ops (T k).slots o=some true/\gq P call (h.ownAt r k) o (ev (T k).slots) (T k).heap=some (v,(T (k+1)).heap))\/
   (fU ops (T k).slots o=some false/\v=.tup []/\(T (k+1)).heap=(T k).heap)):=λk=>by
  cases l:ops[k]? with
  |none=>exact⟨.undef,λo u=>by cases u⟩
  |some o=>
   obtain⟨v,h1⟩:=oC (t3 k o l).1;exact⟨v,λo' ho'=>by cases ho';exact h1⟩
 have hfl:∀k,fl.getD k 0<=6:=λk=>by
  cases l:ops[k]? with
  |some o=>
   rw[(t3 k o l).2];split
   .exact Ac _ _ _
   .omega
  |none=>rw[hzero2 k l];omega
 have hT:∀(k:Nat) (o:Oper),ops[k]?=some o->(T (k+1)).slots=lN (T k).slots o.dst (Classical.choose (hV k))/\((fU ops (T k).slots o=some true/\gq P call (h.ownAt r k) o (ev (T k).slots) (T k).heap=some (Classical.choose (hV k),(T (k+1)).heap)/\fl.getD k 0=fF pf (h.ownAt r k) o (ev (T k).slots))\/
   (fU ops (T k).slots o=some false/\Classical.choose (hV k)=.tup []/\(T (k+1)).heap=(T k).heap/\fl.getD k 0=0)):=λk o u=>by
  obtain⟨h1,A⟩:=Classical.choose_spec (hV k) o u;refine⟨h1,?_⟩;have Z:=(t3 k o u).2;rcases A with⟨A,h3⟩|⟨A,h3,h4⟩
  .exact .inl ⟨A,h3,by rw[Z,ai A]⟩
  .exact .inr ⟨A,h3,h4,by rw[Z,af (by rw[A];simp)]⟩
 refine wpIn_region_any hmix ?_
 have hst':kT P B0 w0 S0 Nb g ⟨(T 0).slots,(T 0).heap⟩ a {w with drawn:=w.drawn+1}:=by
  have eD:Ext st.heap.length g w g {w with drawn:=w.drawn+1}:=⟨λ_ _ h=>h,λ_ _ _=>rfl,λ_ _ h=>⟨rfl,h⟩,λ_ _ v n h=>⟨v,n,h,j7 _,λ_=>rfl⟩⟩;rw[t1];exact⟨hst.heap.keep eD (j7 _) (j7 _) (λ_ _ _=>rfl) (λ_ _ _ _ h=>h) (λ_ _=>rfl),⟨hst.inv.below.drew,hst.inv.size,hst.inv.old,hst.inv.lt⟩,hst.rep.ext eD (j7 _),hst.base⟩
 have C:∀k,k<ops.size->(Array.replicate ops.size false).getD k true=false:=λk l=>by simp[jH,l]
 have hpf:Lq call pf:=λf args H p H' hp hc=>(K f args H p H' hc).2.1 hp
 obtain⟨b0,hb0⟩:=tB fl ops.size ops.size 0 y8;obtain⟨g3,he3,hf3,hst3⟩:=hst'.holes ((T b0).heap.length - (T 0).heap.length)
 have D:∀k,k<ops.size->fl.getD k 0<=1->(T (k+1)).heap=(T k).heap:=λk l hle=>by
  rcases(hT k _ (jA l)).2 with⟨_,A,h3⟩|⟨_,_,h3,_⟩
  .exact yM hpf (by rw[<-h3];exact hle) A
  .exact h3
 have hlong:∀k,k<ops.size->fl.getD k 0<=2->∃bs,(T (k+1)).heap=(T k).heap++bs:=λk l hle=>by
  by_cases e:fl.getD k 0<=1
  .exact⟨[],by rw[D k l e];simp⟩
  .rcases(hT k _ (jA l)).2 with⟨_,c,hfk⟩|⟨_,_,hh,hz⟩
   .exact s7 (pf:=pf) (by rw[<-hfk];omega) c
   .omega
 have W:∀k,¬(k<ops.size/\(Array.replicate ops.size false).getD k true=true):=λk hL=>by
  have hL2:=hL.2;rw[C k hL.1]at hL2;cases hL2
 refine ID (V:=λk=>Classical.choose (hV k)) K hF hord hT hfl R hrd ops.size (List.range ops.size) yA _ _ _ g3 a _ yA (λk l _=>by simpa using l) (λj o e u hl=>?_) ?_
  (tK (λk k1 k2=>hlong k y8 (hb0.2.2.1 k k1 k2)) (λk k1 k2 k3=>D k y8 y8) hb0 (λk k1=>absurd k1 (bL _)) λk _ _ _=>W k) hst3 λg' a' w' he Z hs hd=>?_
 .rw[C j (ay.1 u).1]at hl;cases hl
 .exact⟨rfl,λt ht=>⟨λk o _ hL _=>absurd hL (W k),λ_=>rfl⟩⟩
 .rw[t2]at hs Z;have X:=hf3.trans Z;have he':=(he3.less hst'.base).trans he (j7 _);rw[t1]at X;exact hQ g' a' w' ⟨he'.S,he'.cell,he'.blk,he'.own⟩ ⟨X.size,X.keep,X.occ,X.pub⟩ hs (Df.same hd)
end
end Go.Pm
