/-
 The pure machine: more fuel does not change what it comes to.
-/
import Derived.Test.YtjcfpjpdopfefaaGreatPmIt
namespace Go.Pm
open Go
set_option linter.all false
def nl{c:Type}(a b:Option c):Prop:=∀r,a=some r->b=some r
theorem nl.refl{c:Type}(a:Option c):nl a a:=λ_ h=>h
section
variable{P:fm}{call call':gk}{pf:fo->Bool}{h:Hint}{hint:fo->Hint}
theorem xI(hc:∀f args H,nl (call f args H) (call' f args H))(f:fo)(args:List PV)(n:Nat)(H:List fB):nl (iI call f args n H) (iI call' f args n H):=by
 intro r c;unfold iI at c |-;split at c
 .rename_i d;rw[ai d];split at c
  .rename_i e;simp only[hc _ _ _ _ e];exact c
  .cases c
 .cases c
theorem xX(hc:∀f args H,nl (call f args H) (call' f args H))(b d:Nat)(f:fo)(args:List PV)(H:List fB):nl (DU call b d f args H) (DU call' b d f args H):=by
 intro r c;unfold DU at c |-;by_cases j:H.length<=b
 .rw[ai j]at c |-;unfold wX at c |-;split at c
  .rename_i e;rw[ai e];split at c
   .rename_i g;simp only[hc _ _ _ _ g];exact c
   .cases c
  .cases c
 .rw[af j]at c |-;unfold th at c |-;split at c
  .rename_i e;rw[ai e];split at c
   .rename_i g;simp only[xI hc _ _ _ _ _ g];exact c
   .cases c
  .cases c
theorem AN(hc:∀f args H,nl (call f args H) (call' f args H)){e:PV}{args:List PV}{b d:Nat}{H:List fB}{r:PV×List fB}(c:qx call e args b d H=some r):qx call' e args b d H=some r:=by
 unfold qx lz at c |-;split at c
 .exact xX hc _ _ _ _ _ _ c
 .exact xX hc _ _ _ _ _ _ c
 .cases c
theorem Cb(hc:∀f args H,nl (call f args H) (call' f args H))(y:List (Nat×TypeId))(o:Oper)(ρ:ft->PV)(H:List fB):nl (gq P call y o ρ H) (gq P call' y o ρ H):=by
 intro r d;cases l:o.op with
 |call c=>
  obtain⟨callee,args,ts⟩:=c;rw[gq]at d |-;simp only[l]at d |-;cases callee with
  |value f=>
   cases y with
   |nil=>
    simp only at d |-;split at d
    .exact hc _ _ _ r d
    .exact hc _ _ _ r d
    .cases d
   |cons x xs=>
    simp only at d |-;by_cases p:13000<=x.1
    .rw[ai p]at d |-;unfold oq at d |-;split at d
     .rename_i g;unfold kF iI at g |-;split at g
      .split at g
       .rename_i k;rw[ai k];split at g
        .rename_i e;simp only[hc _ _ _ _ e];rw[g];exact d
        .cases g
       .cases g
      .cases g
     .cases d
    rw[af p]at d |-;by_cases q:12000<=x.1
    .rw[ai q]at d |-;by_cases j:12500<=x.1
     .rw[ai j]at d |-;exact AN hc d
     rw[af j]at d |-;unfold kF iI at d |-;split at d
     .split at d
      .rename_i k;rw[ai k];split at d
       .rename_i e;simp only[hc _ _ _ _ e];exact d
       .cases d
      .cases d
     .cases d
    rw[af q]at d |-;by_cases s:x.1=7000
    .rw[ai s]at d |-;unfold oe at d |-;split at d
     .split at d
      .cases d
      .rename_i hl;rw[af hl];split at d
       .split at d
        .rename_i e;simp only[hc _ _ _ _ e];exact d
        .cases d
       .cases d
     .cases d
    rw[af s]at d |-;by_cases u:6000<=x.1
    .rw[ai u]at d |-;unfold pN lz at d |-;split at d
     .rename_i e;split at e
      .simp only[hc _ _ _ _ e];exact d
      .simp only[hc _ _ _ _ e];exact d
      .cases e
     .cases d
    rw[af u]at d |-;split at d
    .by_cases v:x.1=5000
     .rw[ai v]at d |-;unfold si at d |-;split at d
      .rename_i e;unfold kf at e |-;split at e
       .split at e
        .rename_i z;simp only[hc _ _ _ _ z];rw[e];exact d
        .rename_i z;simp only[hc _ _ _ _ z];rw[e];exact d
        .cases e
       .cases e
      .cases d
     rw[af v]at d |-;by_cases w:2000<=x.1
     .rw[ai w]at d |-;unfold uR at d |-;split at d
      .exact hc _ _ _ r d
      .cases d
     .rw[af w]at d |-;unfold kf at d |-;split at d
      .rename_i A;split at d
       .rename_i e;rw[hc _ _ _ _ e];exact d
       .rename_i e;rw[hc _ _ _ _ e];exact d
       .cases d
      .cases d
    .cases d
  |builtin b=>exact d
  |invoke x n=>exact d
 |makeMap t m=>cases m<;>(rw[gq]at d |-;simp only[l]at d |-;exact d)
 |next x b=>cases b<;>(rw[gq]at d |-;simp only[l]at d |-;exact d)
 |makeFunc f a b=>cases f<;>(rw[gq]at d |-;simp only[l]at d |-;exact d)
 |slice t x lo hi m=>cases m<;>cases hi<;>(rw[gq]at d |-;simp only[l]at d |-;exact d)
 |_=>rw[gq]at d |-;simp only[l]at d |-;exact d
theorem nh(hc:∀f args H,nl (call f args H) (call' f args H))(r:Nat)(ops:Array Oper)(i:Nat)(o:Oper)(st:St):nl (iJ P call h r ops i o st) (iJ P call' h r ops i o st):=by
 intro x c;unfold iJ at c |-;split at c
 .split at c
  .rename_i v H d;rw[Cb hc _ _ _ _ _ d];exact c
  .cases c
 .exact c
 .cases c
theorem sy(hc:∀f args H,nl (call f args H) (call' f args H))(r:Nat)(ops:Array Oper):∀(os:List Oper) (i:Nat) (st:St),nl (kP P call h r ops i os st) (kP P call' h r ops i os st)
 |[],i,st=>nl.refl _
 |o::os,i,st=>λx c=>by
  simp only[kP]at c |-;split at c
  .rename_i d e;rw[nh hc _ _ _ _ _ _ e];exact sy hc r ops os _ _ x c
  .cases c
theorem sI(hc:∀f args H,nl (call f args H) (call' f args H))(r:Nat)(ops:Array Oper)(fl:List (Nat×List Nat)):∀(os:List Oper) (i:Nat) (st:St),nl (oT P call h r ops fl i os st) (oT P call' h r ops fl i os st)
 |[],i,st=>nl.refl _
 |o::os,i,st=>λx c=>by
  simp only[oT]at c |-;split at c
  .rename_i e d
   have:rP P call' h r ops fl i o st=some e:=by
    unfold rP at d |-;split at d
    .exact nh hc _ _ _ _ _ _ d
    .exact d
   rw[this];exact sI hc r ops fl os _ _ x c
  .cases c
theorem oL(hc:∀f args H,nl (call f args H) (call' f args H))(r:Nat)(ops:Array Oper):∀(os:List Oper) (i:Nat) (st:St),nl (gR P call pf h r ops i os st) (gR P call' pf h r ops i os st)
 |[],i,st=>nl.refl _
 |o::os,i,st=>λx c=>by
  simp only[gR]at c |-;split at c
  .rename_i d e;rw[nh hc _ _ _ _ _ _ e];split at c
   .rename_i g fl j;simp only;rw[oL hc r ops os _ _ _ j];exact c
   .cases c
  .cases c
theorem qR{σ:Type}{Y k:List fy->σ->Option (Bool×σ)}(hc:∀f args H,nl (call f args H) (call' f args H))(m:∀ds s,nl (Y ds s) (k ds s))(r:Nat)(ops:Array Oper):∀(os:List Oper) (i:Nat) (is:nQ σ),nl (jr P call h Y r ops i os is) (jr P call' h k r ops i os is)
 |[],i,is=>nl.refl _
 |o::os,i,is=>λx j=>by
  simp only[jr]at j |-
  have e:nl (ln P call h Y r ops i o is) (ln P call' h k r ops i o is):=by
   intro y c
   have g:((iJ P call h r ops i o is.st).map λst=>(⟨st,rJ is.ys o.dst,is.out⟩:nQ σ))=some y->((iJ P call' h r ops i o is.st).map λst=>(⟨st,rJ is.ys o.dst,is.out⟩:nQ σ))=some y:=λc=>by
    simp only[j5]at c |-;obtain⟨st,d,l⟩:=c;exact⟨st,nh hc _ _ _ _ _ _ d,l⟩
   unfold ln at c |-;split at c
   .split at c
    .rename_i d;rw[ai d];exact c
    .rename_i d;rw[af d];exact g c
   .split at c
    .rename_i d;rw[ai d];split at c
     .split at c
      .cases c
      .rename_i l;rw[af l];split at c
       .rename_i n;rw[m _ _ _ n];exact c
       .cases c
     .cases c
    .rename_i d;rw[af d];exact g c
   .exact g c
  split at j
  .rename_i p d;rw[e _ d];exact qR hc m r ops os _ _ x j
  .cases j
theorem DT{σ:Type}{Y q:List fy->σ->Option (Bool×σ)}(hc:∀f args H,nl (call f args H) (call' f args H))(t:∀ds s,nl (Y ds s) (q ds s)):∀n,(∀c is n',n<=n'->nl (gA P call h Y n c is) (gA P call' h q n' c is))/\
  (∀b h0 is n',n<=n'->nl (gA.iloop P call h Y b h0 n is) (gA.iloop P call' h q b h0 n' is)):=by
 intro n;induction n with
 |zero=>exact⟨λc is n' _ x g=>by simp[gA]at g,λb h0 is n' _ x g=>by simp[gA.iloop]at g⟩
 |succ n u=>
  obtain⟨j,m⟩:=u;refine⟨λc is n' hn x g=>?_,λb h0 is n' hn x g=>?_⟩
  .cases n' with
   |zero=>omega
   |succ n'=>
    have hn:n<=n':=by omega
    cases c with
    |region r ops d=>
     cases d
     .simp only[gA,j5]at g |-;obtain⟨y,l,v⟩:=g;exact⟨y,qR hc t _ _ _ _ _ _ l,v⟩
     .simp[gA]at g
    |seq a b=>
     simp only[gA]at g |-;split at g
     .rename_i w l;rw[j _ _ _ hn _ l];exact j _ _ _ hn _ g
     .rename_i k;rw[j _ _ _ hn _ g];obtain⟨e,s⟩:=x;cases e with
      |normal=>exact absurd g (k s)
      |exit id=>rfl
      |ret=>rfl
    |cond y a b=>
     simp only[gA]at g |-;split at g
     .exact j _ _ _ hn _ g
     .exact j _ _ _ hn _ g
     .cases g
    |block id b=>
     simp only[gA]at g |-;split at g
     .rename_i p s l;rw[j _ _ _ hn _ l];exact g
     .rename_i k;rw[j _ _ _ hn _ g];obtain⟨e,s⟩:=x;cases e with
      |exit p=>exact absurd g (k p s)
      |normal=>rfl
      |ret=>rfl
    |loop b=>simp only[gA]at g |-;exact m _ _ _ _ hn _ g
    |skip=>exact g
    |exit id=>exact g
    |ret=>exact g
    |_=>simp[gA]at g
  .cases n' with
   |zero=>omega
   |succ n'=>
    have hn:n<=n':=by omega
    simp only[gA.iloop]at g |-;split at g
    .rename_i s l;rw[j _ _ _ hn _ l];exact m _ _ _ _ hn _ g
    .rename_i k;rw[j _ _ _ hn _ g];obtain⟨e,s⟩:=x;cases e with
     |normal=>exact absurd g (k s)
     |exit id=>rfl
     |ret=>rfl
theorem r9{g d j f:St->Option (Ex×St)}(p:∀s,nl (g s) (d s))(m:∀s,nl (j s) (f s))(h0:Nat)(slots:List PV)(n:List Tmp)(ds:List fy)(x:yX):nl (ll g j h0 slots n ds x) (ll d f h0 slots n ds x):=by
 intro r c;unfold ll at c |-;split at c
 .cases c
 .split at c
  .split at c
   .rename_i q;rw[p _ _ q];simp only;split at c
    .rename_i k;rw[m _ _ k];exact c
    .rename_i e t l k;rw[m _ _ k];cases e with
     |normal=>exact(l rfl).elim
     |exit id=>exact c
     |ret=>exact c
    .cases c
   .cases c
  .cases c
theorem sO{Y g:List fy->yX->Option (Bool×yX)}(hc:∀f args H,nl (call f args H) (call' f args H))(k:∀ds s,nl (Y ds s) (g ds s)){n n':Nat}(hn:n<=n')(st:St)(gf:fo)(caps:List PV):nl (nc P call hint Y n st gf caps) (nc P call' hint g n' st gf caps):=by
 intro r d;unfold nc at d |-;split at d
 .rename_i fn l;split at d
  .cases d
  .rename_i m;rw[af m];split at d
   .rename_i x c
    have:Kl P call' (hint gf) g fn caps n' ⟨st.heap,none⟩=some x:=by
     unfold Kl at c |-;split at c
     .split at c
      .rename_i p;rw[ai p];split at c
       .cases c
       .rename_i e is j q;rw[(DT hc k n).1 _ _ _ hn _ q];cases e with
        |exit id=>exact(j id rfl).elim
        |normal=>exact c
        |ret=>exact c
       .cases c
      .cases c
     .cases c
    rw[this];exact d
   .cases d
 .cases d
theorem Ec(hc:∀f args H,nl (call f args H) (call' f args H)):∀n,(∀p c st n',n<=n'->nl (fP P call pf hint h p n c st) (fP P call' pf hint h p n' c st))/\
  (∀p b h0 st n',n<=n'->nl (fP.ploop P call pf hint h p b h0 n st) (fP.ploop P call' pf hint h p b h0 n' st)):=by
 intro n;induction n with
 |zero=>exact⟨λp c st n' _ x g=>by simp[fP]at g,λp b h0 st n' _ x g=>by simp[fP.ploop]at g⟩
 |succ n w=>
  obtain⟨j,q⟩:=w;refine⟨λp c st n' hn x g=>?_,λp b h0 st n' hn x g=>?_⟩
  .cases n' with
   |zero=>omega
   |succ n'=>
    have hn:n<=n':=by omega
    cases c with
    |region r ops d=>
     cases d
     .simp only[fP]at g |-;split at g
      .rw[j5]at g |-;obtain⟨y,k,u⟩:=g;exact⟨y,sI hc _ _ _ _ _ _ _ k,u⟩
      .rw[j5]at g |-;obtain⟨y,k,u⟩:=g;exact⟨y,sy hc _ _ _ _ _ _ k,u⟩
     .simp only[fP]at g |-;split at g
      .rename_i k;rw[oL hc _ _ _ _ _ _ k];exact g
      .cases g
    |seq a b=>
     simp only[fP]at g |-;split at g
     .rename_i z k;rw[j _ _ _ _ hn _ k];exact j _ _ _ _ hn _ g
     .rename_i m;rw[j _ _ _ _ hn _ g];obtain⟨e,s⟩:=x;cases e with
      |normal=>exact absurd g (m s)
      |exit id=>rfl
      |ret=>rfl
    |cond y a b=>
     simp only[fP]at g |-;split at g
     .exact j _ _ _ _ hn _ g
     .exact j _ _ _ _ hn _ g
     .cases g
    |block id b=>
     simp only[fP]at g |-;split at g
     .rename_i t s k;rw[j _ _ _ _ hn _ k];exact g
     .rename_i m;rw[j _ _ _ _ hn _ g];obtain⟨e,s⟩:=x;cases e with
      |exit t=>exact absurd g (m t s)
      |normal=>rfl
      |ret=>rfl
    |label l=>exact g
    |scope b=>simp only[fP]at g |-;exact j _ _ _ _ hn _ g
    |loop b=>simp only[fP]at g |-;exact q _ _ _ _ _ hn _ g
    |skip=>exact g
    |exit id=>exact g
    |ret=>exact g
    |rangeFunc f A assign body=>
     simp only[fP]at g |-;split at g
     .rename_i v;rw[ai v];split at g
      .exact sO hc (λds s=>r9 (λs=>j _ _ _ _ hn) (λs=>j _ _ _ _ hn) _ _ _ _ _) hn _ _ _ _ g
      .exact sO hc (λds s=>r9 (λs=>j _ _ _ _ hn) (λs=>j _ _ _ _ hn) _ _ _ _ _) hn _ _ _ _ g
      .cases g
     .cases g
    |_=>simp[fP]at g
  .cases n' with
   |zero=>omega
   |succ n'=>
    have hn:n<=n':=by omega
    simp only[fP.ploop]at g |-;split at g
    .rename_i s k;rw[j _ _ _ _ hn _ k];exact q _ _ _ _ _ hn _ g
    .rename_i m;rw[j _ _ _ _ hn _ g];obtain⟨e,s⟩:=x;cases e with
     |normal=>exact absurd g (m s)
     |exit id=>rfl
     |ret=>rfl
theorem rI{E:Env}(hc:∀f args H,nl (call f args H) (call' f args H)){n n':Nat}(hn:n<=n')(f:fo)(args:List PV)(H:List fB):nl (qh P E call n f args H) (qh P E call' n' f args H):=by
 intro r c;unfold qh at c |-;split at c
 .split at c
  .split at c
   .cases c
   .rename_i e st d g;rw[(Ec hc n).1 _ _ _ _ hn _ g];cases e with
    |exit id=>exact(d id rfl).elim
    |normal=>exact c
    |ret=>exact c
   .cases c
  .cases c
 .cases c
theorem xz{e f c d:Option (PV×List fB)}(j:∀r,e=some r->c=some r)(k:∀r,f=some r->d=some r){r:PV×List fB}(g:mN e f=some r):mN c d=some r:=by
 cases e with
 |none=>simp[mN]at g
 |some q1=>cases f with
  |none=>simp[mN]at g
  |some q2=>rw[j _ rfl,k _ rfl];exact g
theorem uf{E:Env}(hc:∀f args H,nl (call f args H) (call' f args H)){n n':Nat}(hn:n<=n')(f:fo)(args:List PV)(H:List fB):nl (kV P E call n f args H) (kV P E call' n' f args H):=by
 intro r c;unfold kV at c |-;split at c
 .rename_i d;rw[ai d];exact xz (rI hc hn f _ _) (rI hc hn f _ _) c
 .rename_i d;rw[af d];exact rI hc hn f _ _ _ c
theorem yo{E:Env}:∀n n',n<=n'->∀f args H,nl (jq P E n f args H) (jq P E n' f args H)
 |0,n',hn,f,args,H=>λr c=>by simp[jq]at c
 |n+1,0,hn,f,args,H=>by omega
 |n+1,n'+1,hn,f,args,H=>λr c=>by
  have hn:n<=n':=by omega
  have e:=yo (E:=E) n n' hn;simp only[jq]at c |-;split at c
  .cases c
  .rename_i g;rw[af g];split at c
   .exact c
   .split at c
    .rename_i d;rw[ai d];split at c
     .split at c
      .rename_i j;rw[uf e hn _ _ _ _ j];exact c
      .cases c
     .cases c
    .rename_i d;rw[af d];exact uf e hn _ _ _ _ c
theorem IS{E:Env}{n:Nat}{f:fo}{args:List PV}{H H':List fB}{p:PV}(h:jq P E n f args H=some (p,H')):PC P E f args H p H':=⟨n,λk c=>yo n k c f args H _ h⟩
end
end Go.Pm
