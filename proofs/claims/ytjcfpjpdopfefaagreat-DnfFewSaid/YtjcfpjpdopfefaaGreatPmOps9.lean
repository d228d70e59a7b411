/-
 The pure machine: soundness of maps, of copies, of what lists that are built at once need.
-/
import Derived.Test.YtjcfpjpdopfefaaGreatPmMul
import Derived.RangeFuncRecord
import Derived.RangeFuncOwn
import Derived.Lib.AppendZeros
import Derived.MapKept
import Derived.Lib.OthersKept
namespace Go.Pm
open Go Go.RowKit
set_option linter.all false
section
variable{P:fm}{r:Nat}{o o':Obj}
theorem CL{W:fk}(h:W.heap[r]?=some o)(g:o.isCells=false)(f:o'.isCells=false)(a:Addr):(W.putObj r o').cell? a=W.cell? a:=by
 by_cases e:a.block=r
 .have j:W.cell? a=none:=by
   cases hc:W.cell? a with
   |none=>rfl
   |some v=>obtain⟨x,d,c⟩:=cells_of_cell hc;rw[e,h]at d;cases d;rw[g]at c;cases c
  have k:(W.putObj r o').cell? a=none:=by
   cases hc:(W.putObj r o').cell? a with
   |none=>rfl
   |some v=>obtain⟨x,d,c⟩:=cells_of_cell hc;rw[e,World.putObj_heap_same (gX h)]at d;cases d;rw[f]at c;cases c
  rw[j,k]
 .exact World.cell?_of_block (World.putObj_heap_other e)
theorem Ext.put{W:fk}(N:Nat)(g:Gh)(h:W.heap[r]?=some o)(d:o.isCells=false)(c:o'.isCells=false):Ext N g W g (W.putObj r o'):=
 ⟨λ_ _ h=>h,λb o' _=>CL h d c _,λ_ _ h=>⟨rfl,h⟩,λ_ _ v n h=>⟨v,n,h,j7 _,λ_=>rfl⟩⟩
theorem Below.putObj{B0:Nat}{w0 W:fk}(c:Below B0 w0 W)(e:B0<=r):Below B0 w0 (W.putObj r o'):=
 ⟨c.os,c.tape,c.output,by simpa using c.size,λk d=>(World.putObj_heap_other y8).trans (c.block k d)⟩
end
section
variable{P:fm}{B0:Nat}{w0:fk}{S0:Nat->Nat->Prop}{g:Gh}{H H':List fB}{w:fk}{p:PV}{o:Oper}{a:Act}{ρ:ft->PV}
theorem jz{i:Nat}{es:List (Value×PV)}(h:mapOf H i=some es):H[i]?=some (.map es):=by
 simp only[mapOf,jK]at h;obtain⟨b,d,c⟩:=h;rw[d];cases b with
 |map es=>simp only[fB.mapOf]at c;split at c<;>cases c;rfl
 |box|tok|mt|hole=>simp[fB.mapOf]at c
theorem kx{i:Nat}{es:List (Value×PV)}(h:mapOf H i=some es):es.all (λe=>jx e.1)=true:=by
 simp only[mapOf,jK]at h;obtain⟨b,d,c⟩:=h;cases b with
 |map es=>simp only[fB.mapOf]at c;split at c<;>cases c;assumption
 |box|tok|mt|hole=>simp[fB.mapOf]at c
theorem pS{o:Obj}{arr:Array MapEntry}{es:List (Value×PV)}(h:kX o=some arr)(hl:arr.size=es.length)(d:∀(j:Nat) m c,arr[j]?=some m->es[j]?=some c->m.key=c.1)(hn:es.all (λe=>jx e.1)=true):∃clock,o=.map arr clock/\arr.all (λe=>jx e.key)=true/\pd arr clock:=by
 cases o<;>simp only[kX,reduceCtorEq]at h
 .split at h
  .cases h;exact⟨_,rfl,by assumption⟩
  .cases h
 .cases h
  match es,hl,d,hn with
  |[c],_,d,hn=>
   have:=d 0 _ c rfl rfl;simp[<-this,jx]at hn
theorem GX{es:List (Value×PV)}{s:ByteArray}{pos:Nat}(h:DA es=some (s,pos)):es=pI s pos:=by
 unfold DA at h;split at h
 case h_2=>cases h
 rename_i vs n;split at h
 case h_2=>cases h
 rename_i s' d;split at h
 case isFalse=>cases h
 rename_i hn;have c:vs=#[.string s']:=by rw[<-Array.toArray_toList (xs:=vs),d]
 simp only[j9,jI]at h;obtain⟨rfl,rfl⟩:=h;rw[c,pI,bU hn]
theorem C3{i:Nat}{s:ByteArray}{pos:Nat}(h:zh H i=some (s,pos)):H[i]?=some (.map (pI s pos)):=by
 unfold zh at h;split at h
 .rename_i es c;rw[c,GX h]
 .cases h
theorem Ad{o:Obj}{arr:Array MapEntry}{s:ByteArray}{pos:Nat}(h:kX o=some arr)(hl:arr.size=(pI s pos).length)(f:∀(j:Nat) m c,arr[j]?=some m->(pI s pos)[j]?=some c->m.key=c.1/\fC g H.length w m.val c.2):o=.stringIter s pos:=by
 have h0:0<arr.size:=by rw[hl];exact Nat.zero_lt_one
 obtain⟨k1,k2⟩:=f 0 arr[0] _ (jA h0) rfl;cases o<;>simp only[kX,reduceCtorEq]at h
 .split at h
  .rename_i k;cases h;have:=Array.all_eq_true.1 k.1 0 h0;rw[k1]at this;simp[jx]at this
  .cases h
 .cases h;simp only[eU,eJ,Value.tuple.injEq]at k1;have d:=bI (λa:Array Value=>a.toList) k1;simp only[List.cons.injEq,Value.string.injEq,and_true]at d;have e:=k2.toVal (u:=.int .i64 pos) rfl;simp only[eU,eJ,Value.int.injEq,true_and]at e;rw[d,show _=pos from Int.ofNat.inj e]
theorem Fv{ob:Obj}{arr:Array MapEntry}{es:List (Value×PV)}{q:PV}{v:fu}(u:kX ob=some arr)(hl:arr.size=es.length)(n:∀(j:Nat) m c,arr[j]?=some m->es[j]?=some c->m.key=c.1/\∀G N W,fC G N W m.val c.2)(x:fC (g.box H.length w.heap.size) (H++[fB.map es]).length (w.alloc ob) v q)(k:Qm P g B0 H.length H w)(hi:Inv B0 w0 S0 g w):Good P B0 w0 S0 H g w q (H++[.map es]) v (g.box H.length w.heap.size) (w.alloc ob):=by
 have e:=hi.alloc ob;have p:Ext H.length g w (g.box H.length w.heap.size) (w.alloc ob):=(Ext.alloc hi H.length _).trans (Ext.box H.length _ (j7 _)) (j7 _);have d:(g.box H.length w.heap.size).blk H.length=w.heap.size:=by simp[Gh.box]
 refine⟨p,by simp,x,?_,⟨e.below,e.size,e.old,e.lt⟩,Fr.old yA (λb f=>Below.heap_alloc w _ b f) λi b h f=>?_⟩
 .refine Qm.snoc (k.keep p yA (j7 _) (λi b f=>Below.heap_alloc w _ b (k.occ_lt f).2.1) (λ_ _ _ _ h=>h) (λ_ _=>rfl)) _ (λy h=>by cases h) (λ_ _ h=>by cases h) (λi b h r=>?_) (hmap:=λz h=>?_)
  .rw[iY (es:=es) yA,d]at r;cases r;have f:occ g H i=some w.heap.size:=gD (g:=g) h (λj l=>by simp only[Gh.box];rw[af y8]) (λj l=>rfl);exact jZ _ (k.occ_lt f).2.1
  .cases h;rw[d];exact⟨hi.size,⟨arr,ob,⟨World.alloc_heap_new w _,u⟩,hl,λj m c s t=>⟨(n j m c s t).1,(n j m c s t).2 _ _ _⟩⟩,λo A=>jZ _ (hi.lt _ o A)⟩
 .rcases sP h with h|⟨_,rfl⟩
  .exact⟨i,gD (g:=g) h (λj l=>by simp only[Gh.box];rw[af y8]) (λj l=>rfl)⟩
  .rw[d]at f;exact absurd f (jZ _)
theorem EJ{t:fq}(d:o.op=.makeMap t none)(e:Qm P g B0 H.length H w)(hi:Inv B0 w0 S0 g w):
  ∃v g' w',fQ P o a w v w'/\Good P B0 w0 S0 H g w (.mapv H.length) (H++[.map []]) v g' w':=by
 refine⟨.map (some w.heap.size),g.box H.length w.heap.size,w.alloc (.map #[] 0),.inl ?_,Fv (arr:=#[]) (by simp[kX,pd]) rfl (λj m c k f=>by simp at f) ?_ e hi⟩
 .simp only[execOp,d];simp[Instr.makeMap]
 .have:=fC.mapv (g:=g.box H.length w.heap.size) (N:=(H++[fB.map []]).length) (w:=w.alloc (.map #[] 0)) H.length ⟨by simp,.inl rfl⟩
  rwa [show(g.box H.length w.heap.size).blk H.length=w.heap.size by simp[Gh.box]]at this
theorem u5{q:PV}{v:fu}{i:Nat}{es f:List (Value×PV)}{o o':Obj}(hm:H[i]?=some (.map es))(d:Array MapEntry)(s:o.isCells=false/\o'.isCells=false)(z:kX o'=some d)(A:fC g H.length w v q)(hl:d.size=f.length)(t:∀(j:Nat) m c,d[j]?=some m->f[j]?=some c->m.key=c.1/\fC g H.length w m.val c.2)(u:w.heap[g.blk i]?=some o)(n:Qm P g B0 H.length H w)(hi:Inv B0 w0 S0 g w):Good P B0 w0 S0 H g w q (H.set i (.map f)) v g (w.putObj (g.blk i) o'):=by
 have k:i<H.length:=(ae.1 hm).1;have B:g.live i:=n.liveM hm;obtain⟨q1,_,q3⟩:=n.map i es hm;have r:Ext H.length g w g (w.putObj (g.blk i) o'):=Ext.put _ g u s.1 s.2
 refine⟨r,by simp,A.ext r yA,?_,⟨Below.putObj hi.below q1,by simpa using hi.size,hi.old,λb o h=>by simpa using hi.lt b o h⟩,
  ⟨by simp,λb _ hn=>World.putObj_heap_other (λe=>hn i (by rw[iY hm,e])),λj b p _=>?_,λb o h=>.inl h⟩⟩
 .refine n.turn r yA (j7 _) _ k (λj b p l=>World.putObj_heap_other (λe=>p (n.sep j i b l (by rw[iY hm,e]))))
   (λ_ _ _ _ _ h=>h) (λ_ _ _=>rfl) (λC hc=>by cases hc) (λ_ _ h=>by cases h) (λj b p l h=>?_) (hmap:=λD h=>?_)
  .rw[iY (es:=f) (by simp[k])]at h;cases h;exact p (n.sep j i _ l (iY hm))
  .cases h;exact⟨q1,⟨d,o',⟨World.putObj_heap_same (gX u),z⟩,hl,λj m c x y=>⟨(t j m c x y).1,(t j m c x y).2.ext r yA⟩⟩,q3⟩
 .rcases BD k p with⟨_,h⟩|⟨_,rfl⟩
  .exact⟨j,h⟩
  .exact⟨i,iY hm⟩
theorem wG(c:TypeDesc)(x y:fu):Instr.sameNow c x y=BF c x y:=by
 cases c<;>cases x<;>cases y<;>rfl
theorem sW{f:TypeDesc}{k:fu}:∀(l:List MapEntry) (es:List (Value×PV)) (i:Nat) (r:Option (Nat×PV)),l.length=es.length->(∀(j:Nat) m c,l[j]?=some m->es[j]?=some c->m.key=c.1)->ye f k es i=some r->
  (r=none/\Instr.findNow f k l i=some none)\/∃(j:Nat) (m:MapEntry) (c:Value×PV),r=some (i+j,c.2)/\l[j]?=some m/\es[j]?=some c/\Instr.findNow f k l i=some (some (i+j,m.val))/\BF f k c.1=some true
 |[],[],i,r,_,_,h=>by simp[ye]at h;exact .inl ⟨h.symm,rfl⟩
 |[],_::_,i,r,hl,_,h=>by simp at hl
 |_::_,[],i,r,hl,_,h=>by simp at hl
 |m::l,e::es,i,r,hl,p,h=>by
  have h0:m.key=e.1:=p 0 m e rfl rfl;simp only[ye]at h;split at h
  .rename_i d;cases h;exact .inr ⟨0,m,e,rfl,rfl,rfl,by simp only[Instr.findNow,wG,h0,d];rfl,d⟩
  .rename_i d;rcases sW l es (i+1) r (by simpa using hl) (λj m c v w=>p (j+1) m c (by simpa using v) (by simpa using w)) h with⟨g,n⟩|⟨j,q,c,g,n,s,t,u⟩
   .exact .inl ⟨g,by simp only[Instr.findNow,wG,h0,d];exact n⟩
   .exact .inr ⟨j+1,q,c,by rw[g,show i+1+j=i+(j+1) by omega],by simpa using n,by simpa using s,by simp only[Instr.findNow,wG,h0,d];rw[t,show i+1+j=i+(j+1) by omega],u⟩
  .cases h
theorem Dx{c:TypeDesc}{x y:fu}(h:BF c x y=some true):x=y/\∀n,Instr.sameBits n y x=true:=by
 unfold BF at h;split at h
 .split at h
  .rename_i d;subst d;simp at h;subst h;exact⟨rfl,λn=>by cases n<;>simp[Instr.sameBits]⟩
  .cases h
 .rename_i a b;simp only[j9]at h;have e:a=b:=MapKept.bytes_beq a b|>.1 h;subst e;exact⟨rfl,λn=>by cases n<;>(simp only[Instr.sameBits];exact h)⟩
 .simp at h;subst h;exact⟨rfl,λn=>by cases n<;>simp[Instr.sameBits]⟩
 .cases h
theorem wq{kt:fq}{c:TypeDesc}{k:fu}(d:P.underlying kt=some c)(f:xe c=true)(e:Bool)(n:Nat):(Instr.checkKey e (n+1) kt k).run P w=.ok () w:=by
 unfold Instr.checkKey;simp only[Sem.run_bind,run_underlying d,Result.andThen];cases c<;>first|(cases f;done)|(cases k<;>rfl)
theorem Gq{q:PV}{v u:fu}{N:Nat}(h:q.toVal=some u)(c:fC g N w v q):jx u=true:=by
 have d:=c.toVal h;subst d;unfold PV.toVal at h;split at h
 .cases h;have:=c.datInv;cases this;rename_i e;cases v<;>first|rfl|cases e
 .simp only[j5]at h;obtain⟨vs,_,rfl⟩:=h;rfl
 .cases h
structure PT (P:fm) (g:Gh) (N:Nat) (w:fk) (b:Nat) (es:List (Value×PV)) (kt:fq) (key:fu) (arr:Array MapEntry) (clock:Nat) (r:Option (Nat×PV)):Prop where
 at_:w.heap[b]?=some (.map arr clock)
 keys:arr.all (λe=>jx e.key)=true/\jx key=true
 st:pd arr clock
 size:arr.size=es.length
 rep:∀(j:Nat) m c,arr[j]?=some m->es[j]?=some c->m.key=c.1/\fC g N w m.val c.2
 check:∀e n,(Instr.checkKey e (n+1) kt key).run P w=.ok () w
 none:r=none->(Instr.findKey kt key arr.toList).run P w=.ok none w
 some:∀j v,r=some (j,v)->∃m c,arr[j]?=some m/\es[j]?=some c/\c.2=v/\(Instr.findKey kt key arr.toList).run P w=.ok (some (j,m.val)) w/\m.key=key/\∀n,Instr.sameBits n m.key key=true
theorem yf{t e:fq}{k:ft}{i:Nat}{es:List (Value×PV)}{A:fu}{r:Option (Nat×PV)}(hm:H[i]?=some (.map es))(hn:es.all (λe=>jx e.1)=true)(d:mM P ρ k t es=some (A,e,r))(I:Qm P g B0 H.length H w)(p:∀x,fC g H.length w (a.eval x) (ρ x)):∃kt arr clock,P.underlying t=some (.map kt e)/\a.eval k=A/\PT P g H.length w (g.blk i) es kt A arr clock r:=by
 unfold mM at d;split at d
 case h_2=>cases d
 rename_i kt e' J K q;split at d
 case h_2=>cases d
 rename_i Q l;split at d
 case isFalse=>cases d
 rename_i B;simp only[j5,jI]at d;obtain⟨C,D,rfl,rfl,rfl⟩:=d;obtain⟨_,⟨arr,o1,⟨q1,q0⟩,q2,q3⟩,_⟩:=I.map i es hm;obtain⟨clock,rfl,q4⟩:=pS q0 q2 (λj m c s u=>(q3 j m c s u).1) hn;have L:=(p k).toVal q;refine⟨kt,arr,clock,K,L,q1,⟨q4.1,Gq q (p k)⟩,q4.2,q2,q3,λe n=>wq l B e n,λhn=>?_,λj v E=>?_⟩
 .rcases sW arr.toList es 0 C (by simpa using q2) (λj m c s u=>(q3 j m c (by simpa using s) u).1) D with⟨_,z⟩|⟨j,m,c,f,_⟩
  .exact MapKept.run_findKey l z
  .rw[hn]at f;cases f
 .rcases sW arr.toList es 0 C (by simpa using q2) (λj m c s u=>(q3 j m c (by simpa using s) u).1) D with⟨f,_⟩|⟨R,m,c,f,z,F,G,M⟩
  .rw[E]at f;cases f
  .rw[E]at f;simp only[zY,j9,jI]at f G;obtain⟨rfl,rfl⟩:=f;obtain⟨N,O⟩:=Dx M;have y:m.key=c.1:=(q3 j m c (by simpa using z) F).1;exact⟨m,c,by simpa using z,F,rfl,MapKept.run_findKey l G,by rw[y,N],λn=>by rw[y];exact O n⟩
theorem GP{arr:Array MapEntry}{e:MapEntry}(h:arr.all (λe=>jx e.key)=true)(c:jx e.key=true):(arr.push e).all (λe=>jx e.key)=true:=by
 rw[Array.all_push,h,c];rfl
theorem CR{arr:Array MapEntry}{j:Nat}{k:fu}{f:MapEntry->fu}(h:arr.all (λe=>jx e.key)=true)(c:jx k=true):(arr.modify j λe=>{e with key:=k,val:=f e}).all (λe=>jx e.key)=true:=by
 rw[Array.all_eq_true]at h |-;intro i hi;rw[eV];split
 .exact c
 .exact h i (by simpa using hi)
theorem Dt{arr:Array MapEntry}{clock:Nat}(h:pd arr clock)(k v:fu):pd (arr.push {key:=k,val:=v,born:=clock}) (clock+1):=by
 refine⟨λx c=>?_,?_⟩
 .rw[Array.toList_push,aV,jX]at c;rcases c with c|rfl
  .exact Nat.lt_succ_of_lt (h.1 x c)
  .exact cZ _
 .rw[Array.toList_push,zL];refine List.nodup_append.2 ⟨h.2,by simp,λa d b e=>?_⟩;obtain⟨x,c,rfl⟩:=ar.1 d;have:=h.1 x c;simp at e;omega
theorem As{arr:Array MapEntry}{clock:Nat}(h:pd arr clock)(j:Nat)(f:MapEntry->MapEntry)(c:∀e,(f e).born=e.born):pd (arr.modify j f) clock:=by
 have e:(arr.modify j f).toList.map (·.born)=arr.toList.map (·.born):=by
  refine bW yA λi l m=>?_
  simp only[dT,Array.getElem_toList,eV];split <;>simp[c]
 refine⟨λx d=>?_,by rw[e];exact h.2⟩
 have:x.born∈arr.toList.map (·.born):=by rw[<-e];exact ar.2 ⟨x,d,rfl⟩
 obtain⟨y,g,k⟩:=ar.1 this;rw[<-k];exact h.1 y g
theorem mq{t e:fq}{m k x:ft}{i:Nat}{es:List (Value×PV)}{u:fu}{r:Option (Nat×PV)}(p:o.op=.mapUpdate t m k x\/o.op=.insert t m k x)(z:ρ m=.mapv i)(hm:H[i]?=some (.map es))(hn:es.all (λe=>jx e.1)=true)(L:mM P ρ k t es=some (u,e,r))(A:Qm P g B0 H.length H w)(hi:Inv B0 w0 S0 g w)(n:∀x,fC g H.length w (a.eval x) (ρ x)):
  ∃v g' w',fQ P o a w v w'/\Good P B0 w0 S0 H g w (.tup []) (H.set i (.map (match r with|some (j,_)=>es.set j (u,ρ x)|none=>es++[(u,ρ x)]))) v g' w':=by
 obtain⟨kt,arr,clock,D,E,F⟩:=yf hm hn L A n;have B:=n m;rw[z]at B;generalize G:a.eval m=v at B;cases B with
 |mapv _ M=>
  cases r with
  |none=>
   have s:=F.none rfl
   have l:(execOp a.eval o).run P w=.ok .skip (w.putObj (g.blk i) (.map (arr.push {key:=u,val:=a.eval x,born:=clock}) (clock+1))):=by
    rcases p with p|p<;>simp only[execOp,p,G,E]<;>simp[Instr.mapUpdate,run_underlying D,MapKept.run_getObj_map F.at_,F.check,s,MapKept.run_setObj_map _ F.at_,World.putObj]
   refine⟨undef,g,_,.inr ⟨l,rfl⟩,u5 hm _ ⟨rfl,rfl⟩ (ai ⟨GP F.keys.1 F.keys.2,Dt F.st _ _⟩) (.tup _ _ rfl λj v c h=>by simp at h) (by simp[F.size]) (λj I c f d=>?_) F.at_ A hi⟩;rw[Array.getElem?_push]at f;rw[jT]at d;by_cases y:j<es.length
   .rw[ai y]at d;rw[af (by rw[F.size];omega)]at f;exact F.rep j I c f d
   .rw[af y]at d;by_cases C:j=es.length
    .subst C;rw[ai F.size.symm]at f;simp at f d;subst f;subst d;exact⟨rfl,n x⟩
    .have:([(u,ρ x)]:List (Value×PV))[j - es.length]?=none:=aF y9
     rw[this]at d;cases d
  |some q=>
   obtain⟨j,v0⟩:=q;obtain⟨I,c,J,Q,R,N,S,O⟩:=F.some j v0 rfl
   have l:(execOp a.eval o).run P w=.ok .skip (w.putObj (g.blk i) (.map (arr.modify j λe=>{e with key:=u,val:=a.eval x}) clock)):=by
    rcases p with p|p<;>simp only[execOp,p,G,E]<;>simp[Instr.mapUpdate,run_underlying D,MapKept.run_getObj_map F.at_,F.check,N,MapKept.run_setObj_map _ F.at_,World.putObj,Instr.keyThatStays,J,O]
   refine⟨undef,g,_,.inr ⟨l,rfl⟩,u5 hm _ ⟨rfl,rfl⟩ (ai ⟨CR F.keys.1 F.keys.2,As F.st _ _ λ_=>rfl⟩) (.tup _ _ rfl λj v c h=>by simp at h) (by simp[F.size]) (λK m2 c2 f d=>?_) F.at_ A hi⟩;rw[eK]at f;rw[zE]at d;by_cases y:j=K
   .subst y;rw[ai rfl,J]at f;rw[ai rfl]at d;split at d
    .simp at f d;subst f;subst d;exact⟨rfl,n x⟩
    .cases d
   .rw[af y]at f d;exact F.rep K m2 c2 f d
theorem yl{t e:fq}{m k:ft}{ok:Bool}{i:Nat}{es:List (Value×PV)}{J:fu}{r:Option (Nat×PV)}(C:o.op=.lookup t m k ok)(s:ρ m=.mapv i)(hm:H[i]?=some (.map es))(hn:es.all (λe=>jx e.1)=true)(K:mM P ρ k t es=some (J,e,r)){q:PV}(D:match r with|some (_,v)=>q=v|none=>∃z,fL P e=some z/\q=.dat z)(y:Qm P g B0 H.length H w)(hi:Inv B0 w0 S0 g w)(n:∀x,fC g H.length w (a.eval x) (ρ x)):
  ∃v g' w',fQ P o a w v w'/\Good P B0 w0 S0 H g w (if ok then .tup [q,Qp r.isSome]else q) H v g' w':=by
 obtain⟨kt,arr,clock,E,G,F⟩:=yf hm hn K y n;have A:=n m;rw[s]at A;generalize I:a.eval m=v at A
 have fin:∀u b,fC g H.length w u q->fC g H.length w (if ok then .tuple #[u,.bool b]else u) (if ok then .tup [q,Qp b]else q):=λu b h=>by
  cases ok with
  |false=>exact h
  |true=>
   refine .tup _ _ rfl λj v c f d=>?_
   match j,f,d with
   |0,f,d=>simp at f d;subst f;subst d;exact h
   |1,f,d=>simp at f d;subst f;subst d;exact .dat _ _ (.raw _ rfl)
   |j+2,f,d=>simp at d
 cases A with
 |mapv _ L=>
  cases r with
  |none=>
   obtain⟨z,M,rfl⟩:=D;obtain⟨W,B,N,O,Q,_⟩:=gE M;have l:=F.none rfl;refine⟨if ok then .tuple #[B,.bool false]else B,g,w,.inl ?_,.same y hi (fin B false (.dat _ _ (Q w g.S)))⟩;simp only[execOp,C,I,G];simp[Instr.lookup,run_underlying E,MapKept.run_getObj_map F.at_,F.check,l,zeroValue,typeInfo,N,O]
  |some x=>
   obtain⟨j,v0⟩:=x;obtain⟨p,c,R,T,U,V,X,Y⟩:=F.some j v0 rfl;obtain rfl:q=v0:=D;refine⟨if ok then .tuple #[p.val,.bool true]else p.val,g,w,.inl ?_,.same y hi (fin p.val true (by rw[<-U];exact(F.rep j p c R T).2))⟩;simp only[execOp,C,I,G];simp[Instr.lookup,run_underlying E,MapKept.run_getObj_map F.at_,F.check,V]
theorem EI{x:ft}{ts:Array TypeId}{t kt k:fq}{i:Nat}{es:List (Value×PV)}(l:o.op=.call {callee:=.builtin .len,args:=#[x],argTypes:=ts})(n:ts[0]?=some t)(p:P.underlying t=some (.map kt k))(q:ρ x=.mapv i)(hm:mapOf H i=some es)(f:Qm P g B0 H.length H w)(hi:Inv B0 w0 S0 g w)(d:∀x,fC g H.length w (a.eval x) (ρ x)):
  ∃v g' w',fQ P o a w v w'/\Good P B0 w0 S0 H g w (Qd (es.length:Int)) H v g' w':=by
 have e:=d x;rw[q]at e;generalize r:a.eval x=v at e;cases e with
 |mapv _ s=>
  obtain⟨_,⟨arr,o1,⟨q1,q0⟩,q2,q3⟩,_⟩:=f.map i es (jz hm);obtain⟨clock,rfl,_⟩:=pS q0 q2 (λj m c u y=>(q3 j m c u y).1) (kx hm);refine⟨.int .i64 es.length,g,w,.inl ?_,.same f hi (.dat _ _ (.raw _ rfl))⟩;simp[execOp,l,resolve,invoke,builtin,Builtin.len_,n,run_underlying p,r,MapKept.run_getObj_map q1,goInt,q2]
theorem Cx{t:fq}{x:ft}{s:ByteArray}(l:o.op=.range t x)(n:P.underlying t=some .string)(p:ρ x=.dat (.raw (.string s)))(q:Qm P g B0 H.length H w)(hi:Inv B0 w0 S0 g w)(f:∀x,fC g H.length w (a.eval x) (ρ x)):
  ∃v g' w',fQ P o a w v w'/\Good P B0 w0 S0 H g w (.ptr H.length 0) (H++[.map (pI s 0)]) v g' w':=by
 have k:=f x;rw[p]at k;have r:=k.toVal (u:=.string s) rfl;refine⟨.pointer (some ⟨w.heap.size,0,none⟩),g.box H.length w.heap.size,w.alloc (.stringIter s 0),.inl ?_,Fv (arr:=#[{key:=.tuple #[.string s],val:=.int .i64 0,born:=0}]) rfl rfl (λj m c e d=>?_) ?_ q hi⟩
 .simp only[execOp,l,r];simp[Instr.range,run_underlying n]
 .match j,e,d with
  |0,e,d=>cases e;cases d;exact⟨rfl,λG N W=>.dat _ _ (.raw _ rfl)⟩
  |j+1,e,d=>simp[pI]at d
 .have:=fC.ptr (g:=g.box H.length w.heap.size) (N:=(H++[fB.map (pI s 0)]).length) (w:=w.alloc (.stringIter s 0)) H.length 0 ⟨by simp,.inl rfl⟩
  rwa [show(g.box H.length w.heap.size).blk H.length=w.heap.size by simp[Gh.box]]at this
theorem L5{x:ft}{i:Nat}{s:ByteArray}{pos:Nat}(p:o.op=.next x true)(t:ρ x=.ptr i 0)(hm:zh H i=some (s,pos))(k:Qm P g B0 H.length H w)(hi:Inv B0 w0 S0 g w)(l:∀x,fC g H.length w (a.eval x) (ρ x)):
  ∃v g' w',fQ P o a w v w'/\Good P B0 w0 S0 H g w (r8 s pos i H).1 (r8 s pos i H).2 v g' w':=by
 have n:=l x;rw[t]at n;have q:=C3 hm;generalize r:a.eval x=v at n;cases n with
 |ptr _ _ u=>
  obtain⟨_,⟨arr,o1,⟨q1,q0⟩,q2,q3⟩,_⟩:=k.map i _ q;obtain rfl:=Ad q0 q2 q3;by_cases f:pos<s.size
  .rw[r8,ai f];refine⟨.tuple #[.bool true,.int .i64 pos,.int .i32 (Utf8.decode s pos).1],_,_,.inl ?_,u5 (o':=.stringIter s (pos+(Utf8.decode s pos).2)) q _ ⟨rfl,rfl⟩ rfl (.tup _ _ rfl λj v c e d=>?_) rfl (λj m c e d=>?_) q1 k hi⟩
   .simp only[execOp,p,r,Sem.run_bind,Lib.run_next_any_at w _ s pos _ q1 f,Result.andThen];rfl
   .match j,e,d with
    |0,e,d=>cases e;cases d;exact .dat _ _ (.raw _ rfl)
    |1,e,d=>cases e;cases d;exact .dat _ _ (.raw _ rfl)
    |2,e,d=>cases e;cases d;exact .dat _ _ (.raw _ rfl)
    |j+3,e,d=>simp at d
   .match j,e,d with
    |0,e,d=>cases e;cases d;exact⟨rfl,.dat _ _ (.raw _ rfl)⟩
    |j+1,e,d=>simp[pI]at d
  .rw[r8,af f];refine⟨.tuple #[.bool false],g,w,.inl ?_,.same k hi (.tup #[.bool false] _ rfl λj v c e d=>?_)⟩
   .simp only[execOp,p,r,Sem.run_bind,Lib.run_next_end_at w _ s pos _ q1 f,Result.andThen];rfl
   .match j,e,d with
    |0,e,d=>cases e;cases d;exact .dat _ _ (.raw _ rfl)
    |j+1,e,d=>simp at d
theorem sS{t e:fq}{len size:Nat}{c:Array (Nat×Operand)}{ds:List fy}(p:o.op=.buildSlice t len c)(q:fA P t=some e)(r:fJ P e=some size)(s:(fL P e).isSome=true)(u:gp H (c.toList.map λ(_,x)=>ρ x)=some ds)(hl:c.size=len)(y:np 0 c.toList=true)(z:ds.all (fy.fits size)=true)(h0:0<size)(j:len*size<=16777216)(k:c.toList.any (λ(_,x)=>(ρ x).lends)=false)(f:ds=[])(n:Qm P g B0 H.length H w)(hi:Inv B0 w0 S0 g w)(l:∀x,fC g H.length w (a.eval x) (ρ x)):
  ∃v g' w',fQ P o a w v w'/\Good P B0 w0 S0 H g w (.ms H.length 0 0 0 0) (H++[.mt e 0 []]) v g' w':=by
 obtain⟨vals,A,F,B,G⟩:=mC (S0:=S0) (w0:=w0) p q r s u hl y z h0 j k n hi l;subst f;obtain rfl:len=0:=by simpa using B.symm
 have m:=hi.alloc (.cells vals e);have C:=n.alloc hi (j7 _) (.cells vals e);obtain⟨g',d⟩:=qD (P:=P) (S0:=S0) (w0:=w0) C m e (some ⟨w.heap.size,0,none⟩);have D:Ext H.length g w g (w.alloc (.cells vals e)):=Ext.alloc hi H.length _;exact⟨_,g',_,.inl A,D.trans d.ext (j7 _),d.len,d.rep,d.heap,d.inv,(Fr.old yA (λb E=>Below.heap_alloc w _ b E) λi b h _=>⟨i,h⟩).trans d.fr⟩
theorem DC{op:BinOp}{t C:fq}{x y:ft}{b:Bool}(s:o.op=.binOp op t x y C)(m:∀x,fC g H.length w (a.eval x) (ρ x))(f:ti P op t (ρ x) y=some b):
  (execOp a.eval o).run P w=.ok (.value (.bool b)) w:=by
 unfold ti at f;split at f
 .rename_i e D;simp only[jK]at f;obtain⟨c,hc,f⟩:=f;have j:=m x
  have key:∃ad n cap,a.eval x=.slice ad n cap/\ad.isNone=c:=by
   split at hc
   .rename_i F p;cases hc;rw[p]at j;generalize a.eval x=v at j;cases j with
    |empv b v u E=>
     cases l:c with
     |true=>exact⟨none,0,0,u l,rfl⟩
     |false=>obtain⟨a,cap,rfl⟩:=E l;exact⟨some a,0,cap,rfl,rfl⟩
   .rename_i d ds p;cases hc;rw[p]at j;have:=j.datInv;generalize a.eval x=v at this;cases this with
    |lst b off len cap k es G u=>exact⟨_,_,_,rfl,rfl⟩
   .cases hc
  obtain⟨ad,n,cap,z,q⟩:=key
  have r:∀d,(Op.equalIn (d+1) t (.slice ad n cap) (.slice none 0 0)).run P w=.ok c w:=λd=>by
   subst q;cases ad<;>simp[Op.equalIn,run_underlying D]
  have A:=r 9999;have B:a.eval (.const (.slice none 0 0))=.slice none 0 0:=rfl;split at f
  .cases f;simp only[execOp,s,z,B];simp[binOp,eqGuard,Op.equal,Op.maxDepth,A]
  .cases f;simp only[execOp,s,z,B];simp[binOp,eqGuard,Op.equal,Op.maxDepth,A]
  .cases f
 .cases f
theorem AP{t e:fq}{x:ft}{lo hi:Option Operand}{size i off len cap:Nat}(C:o.op=.slice t x lo hi none)(D:fA P t=some e)(s:fJ P e=some size)(E:ρ x=.arr i off len cap)(j:zu ρ lo hi size i off len cap=some p)(F:Qm P g B0 H.length H w)(u:Inv B0 w0 S0 g w)(f:∀x,fC g H.length w (a.eval x) (ρ x)):
  ∃v g' w',fQ P o a w v w'/\Good P B0 w0 S0 H g w p H v g' w':=by
 have y:=f x;rw[E]at y;generalize G:a.eval x=v at y;unfold zu at j;split at j
 .rename_i l h c d;split at j
  .rename_i hc;obtain⟨m,n⟩:=hc;cases y with
   |arr _ _ _ _ k1 k2=>
    have I:(Instr.sliceBounds true len cap (lo.map a.eval) (hi.map a.eval) none).run P w=.ok (l,h,cap) w:=by
     unfold Instr.sliceBounds;cases hi with
     |none=>
      cases lo with
      |none=>simp[iD]at c d;subst c d;simp
      |some lo=>
       obtain⟨k,z⟩:=jd (f lo) c;simp[iD]at d;subst d;simp[ia (P:=P) .sliceB z m w]
     |some hi=>
      obtain⟨J,q⟩:=jd (f hi) d;cases lo with
      |none=>simp[iD]at c;subst c;simp[ia (P:=P) .sliceAcap q n w]
      |some lo=>
       obtain⟨k,z⟩:=jd (f lo) c;simp[ia (P:=P) .sliceB z m w,ia (P:=P) .sliceAcap q n w]
    have r:fQ P o a w (.slice (if cap=l then some ⟨g.blk i,off,none⟩else(some (⟨g.blk i,off,none⟩:Addr)).map (·.add (l*size))) (h - l) (cap - l)) w:=.inl (by simp[execOp,C,Instr.sliceAt,Instr.slice,run_underlying (QM D),G,I,hZ s]);refine⟨_,g,w,r,.same F u ?_⟩;cases j;by_cases B:l=0\/l<h
    .rw[ai B]
     have A:(if cap=l then some ⟨g.blk i,off,none⟩else(some (⟨g.blk i,off,none⟩:Addr)).map (·.add (l*size)))=some ⟨g.blk i,off+l*size,none⟩:=by
      split
      .rename_i e
       have:l=0:=by omega
       subst this;simp
      .simp[iv]
     rw[A];exact .arr _ _ _ _ k1 y8
    .rw[af B]
     have:h - l=0:=by omega
     rw[this];refine .dat _ _ ?_;split <;>exact .empty _ _
  .cases j
 .cases j
theorem Hs{N:Nat}{v:fu}{p:PV}{es:List PV}(k:Qm P g B0 N H w)(h:fC g N w v p)(f:tE H p=some es)(e:es.all PV.cell=true):∃news,Ia g N w v es news:=by
 cases p with
 |arr i off len cap=>
  simp only[tE]at f;split at f
  .rename_i cs r;obtain⟨c1,c2,s⟩:=ka f;cases h with
   |arr _ _ _ _ k1 k2=>
    obtain⟨_,⟨vals,x,q1,q2,q3⟩,_⟩:=k.box i cs r;refine⟨(vals.toList.drop off).take len,.inr ⟨⟨g.blk i,off,none⟩,cap,by rw[c1],λj u l=>?_⟩,by simp only[zV,y6,aP];omega,λj u c m q=>?_⟩
    .rw[jR]at l;split at l
     .rw[iv,cell_of_row w _ _ vals x (0,0) q1];simpa using l
     .cases l
    .rw[jR]at m;split at m
     .rename_i y;rw[s j y]at q;exact q3 (off+j) u c (by simpa using m) q
     .cases m
  .cases f
 |dat d=>exact sf (P:=P) k h (by
   cases d with
   |lst n=>simp only[tE]at f;simp only[iR,iE];exact f
   |_=>cases f) e
 |vec t n=>exact sf (P:=P) k h (by simp only[tE]at f;simp only[iR,iE];exact f) e
 |ms t gg lo len cap=>exact sf (P:=P) k h f e
 |_=>cases f
theorem M0{x y:ft}{ts:Array TypeId}{t e:fq}{i off len cap:Nat}{cs es ds:List PV}(W:o.op=.call {callee:=.builtin .copy,args:=#[x,y],argTypes:=ts})(X:ts[0]?=some t)(Y:fA P t=some e)(C:fJ P e=some 1)(Z:ρ x=.arr i off len cap)(D:H[i]?=some (.box cs))(hy:tE H (ρ y)=some es)(hc:es.all PV.cell=true)(hp:nY cs off (es.take (min es.length len))=some ds)(E:Qm P g B0 H.length H w)(hi:Inv B0 w0 S0 g w)(F:∀x,fC g H.length w (a.eval x) (ρ x)):
  ∃v g' w',fQ P o a w v w'/\Good P B0 w0 S0 H g w (Qd ((min es.length len:Nat):Int)) (H.set i (.box ds)) v g' w':=by
 obtain⟨p1,U⟩:=rj hp;obtain⟨news,q⟩:=Hs (P:=P) E (F y) hy hc;have G:=q.one hc;have M:=F x;rw[Z]at M;generalize hv:a.eval x=v at M;generalize hn:min es.length len=n at *;have s:(es.take n).length=n:=by simp;omega
 rw[s]at p1;cases M with
 |arr _ _ _ _ f V=>
  obtain⟨f,hil⟩:=f;obtain⟨q1,⟨vals,N,k1,k2,k3⟩,q3⟩:=E.box i cs D;have O:news.length=es.length:=q.len;have hst:=run_storeCells_at P (g.blk i) off N (news.take n) 0 vals w k1 (by simp only[zV];omega) (λu B=>G u (zR B));simp only[zX]at hst;have k:(news.take n).length=n:=by simp;omega
  generalize r:(vals.toList.take off++news.take n++vals.toList.drop (off+(news.take n).length))=new at hst
  have I:∀j,new[j]?=if j<off then vals[j]? else if j<off+n then(news.take n)[j - off]? else vals[j]?:=λj=>by
   rw[<-r,gH _ _ _ (by rw[k];simp;omega),k];simp
  have Q:∀j,ds[j]?=if j<off then cs[j]? else if j<off+n then(es.take n)[j - off]? else cs[j]?:=λj=>by
   rw[U,gH _ _ _ (by rw[s];exact p1),s]
  have z:(w.setRow (g.blk i) new.toArray).heap[g.blk i]?=some (.cells new.toArray N (0,0)):=setRow_heap w _ _ _ _ _ k1
  have d:Ext H.length g w g (w.setRow (g.blk i) new.toArray):=⟨λ_ _ h=>h,λb o' C=>cell_setRow_other w _ _ _ (λe=>by
   simp only at e;subst e;exact q3 o' C),λ_ _ h=>⟨rfl,h⟩,λ_ _ v n h=>⟨v,n,h,j7 _,λ_=>rfl⟩⟩
  have R:∃m,(Builtin.lenOf (a.eval y)).run P w=.ok m w/\Nat.min m len=n/\(Builtin.firstCells 1 n (a.eval y)).run P w=.ok (news.take n).toArray w:=by
   rcases q.shape with⟨J,K⟩|⟨ad,c,J,K⟩
   .subst K;refine⟨0,by rw[J];rfl,by simp at hn;simp[<-hn],?_⟩
    have:n=0:=by simp at hn;omega
    subst this;rw[J];simp[Builtin.firstCells]
   .refine⟨es.length,by rw[J];rfl,hn,?_⟩;rw[J];simp only[Builtin.firstCells,aK]
    have hl:=run_loadCells_list (P:=P) w ad (news.take n) (λj u B=>by
     rw[jR]at B;split at B
     .exact K j u B
     .cases B)
    rw[k]at hl;exact hl
  obtain⟨m,f1,f2,f3⟩:=R;refine⟨.int .i64 n,g,_,.inl ?_,d,by simp,.dat _ _ (.raw _ rfl),?_,⟨?_,by simp;exact hi.size,hi.old,λb o' C=>by simp;exact hi.lt b o' C⟩,⟨by simp,λb _ hn=>setRow_other w _ _ _ (λe=>hn i (by rw[gw D,e])),λj b L _=>?_,λb o h=>.inl h⟩⟩
  .simp only[execOp,W];simp[resolve,invoke,builtin,Builtin.copy_,X,run_underlying (QM Y),hv,f1,f2,hZ C,f3,hst,goInt]
  .refine E.turn d yA (j7 _) _ f (λj b L A=>setRow_other w _ _ _ (λe=>L (E.sep j i b A (by rw[gw D,e]))))
    (λ_ _ _ _ _ h=>h) (λ_ _ _=>rfl) (λS hc=>?_) (λ_ _ h=>by cases h) (λj b L A h=>?_)
   .cases hc;refine⟨q1,⟨new.toArray,N,z,?_,λj u c l p=>?_⟩,q3⟩
    .rw[U,<-r];simp only[bK,jV,zV,y6,aP];omega
    .simp only[aO]at l;rw[I]at l;rw[Q]at p;split at l
     .rename_i h;rw[ai h]at p;exact(k3 j u c l p).ext d yA
     .rename_i h;rw[af h]at p;split at l
      .rename_i T;rw[ai T]at p;rw[jR]at l p;split at l
       .rename_i K;rw[ai K]at p;exact(q.rep _ u c l p).ext d yA
       .cases l
      .rename_i T;rw[af T]at p;exact(k3 j u c l p).ext d yA
   .rw[gw (cs:=ds) (by simp[f])]at h;cases h;exact L (E.sep j i _ A (gw D))
  .exact below_setRow hi.below q1 _
  .rcases rO f L with⟨_,h⟩|⟨_,⟨S,_,rfl⟩|⟨e,n,h,_⟩⟩
   .exact⟨j,h⟩
   .exact⟨i,gw D⟩
   .cases h
theorem CK{tt t len lo cap:Nat}{cs:List PV}{v:fu}(hm:mtOf H tt=some (t,0,cs))(k:lo=0)(c:len=0)(p:Qm P g B0 H.length H w)(u:fC g H.length w v (.ms tt 0 lo len cap)):
  (∃ad,v=.slice ad 0 0)/\∃v0,g.own tt=some (v0,0):=by
 subst k c;cases u with
 |ms _ _ _ _ _ _ v0 m k1 k2 k3 x y=>
  obtain⟨z,f,q⟩:=p.mt tt _ _ _ (Zb hm);obtain⟨v2,j,n⟩:=p.mt0 tt _ _ (Zb hm);simp only at f q j n;have d:=k2;rw[k2]at f j;simp only[j9,jI]at f j;obtain⟨rfl,rfl⟩:=f;obtain⟨rfl,_⟩:=j;obtain⟨r,_⟩:=x rfl;refine⟨?_,_,d⟩;rcases q with⟨_,rfl|⟨a,rfl⟩⟩|⟨b,l,s,cur,rfl,q0,q1,q2,q3,q4,q5,q6,q7,A⟩|e
  .exact⟨none,r⟩
  .exact⟨some (a.add 0),by rw[r];rfl⟩
  .simp[fG]at n;omega
  .exact absurd n e.pos
theorem NY{x:ft}{ts:Array TypeId}{t u:fq}{tt k lo len cap:Nat}{cs:List PV}(l:o.op=.call {callee:=.builtin .cap,args:=#[x],argTypes:=ts})(m:ts[0]?=some t)(n:P.underlying t=some (.slice u))(p:ρ x=.ms tt 0 lo len cap)(hm:mtOf H tt=some (k,0,cs))(d:lo=0)(c:len=0)(f:Qm P g B0 H.length H w)(hi:Inv B0 w0 S0 g w)(e:∀x,fC g H.length w (a.eval x) (ρ x)):
  ∃v g' w',fQ P o a w v w'/\Good P B0 w0 S0 H g w (Qd 0) H v g' w':=by
 have j:=e x;rw[p]at j;obtain⟨⟨ad,q⟩,_⟩:=CK hm d c f j;refine⟨.int .i64 0,g,w,.inl ?_,.same f hi (.dat _ _ (.raw _ rfl))⟩;simp[execOp,l,resolve,invoke,builtin,Builtin.cap_,m,run_underlying n,q,goInt]
theorem pC(w:fk)(t l r e:fq)(i:TypeInfo)(z:fu)(k s:IntKind)(u:P.underlying t=some (.slice e))(c:P.underlying l=some (.int s))(hi:P.info? e=some i)(v:i.zero=some z)(ad:Option Addr)(n:Nat)(h0:0<n)(x:0<i.size)(m:(n:Int)<=9223372036854775807)(p:n*i.bytes<=281474976710656):
  (Builtin.append_ #[t,l] r #[.slice ad 0 0,.int k n]).run P w=
   .ok (.slice (some ⟨w.heap.size,0,none⟩) n (grownCap w n 0 e)) (w.drew.alloc (.cells (Builtin.zeroCells z.cells n++Builtin.zeroCells z.cells (grownCap w n 0 e - n)) e)):=by
 cases ad with
 |none=>exact Lib.run_append_nil_zeros w t l r e i z k s u c hi v n h0 x m p
 |some ad=>
  have hn:n≠0:=by omega
  have hw:IntKind.i64.wrap (n:Int)=n:=by rw[IntKind.wrap_i64];omega
  have d:¬(9223372036854775807<(n:Int)):=by omega
  have f:¬(281474976710656<Builtin.nextslicecap n 0*i.bytes):=by rw[nextslicecap_zero h0];omega
  have g:¬(281474976710656<(n:Int)*(i.bytes:Int)):=by
   rw[<-bR];omega
  have j:¬((n:Int)<0):=by omega
  have q:¬(n*i.size=0):=Nat.mul_ne_zero hn y8;simp[Builtin.append_,run_underlying u,run_underlying c,sizeOf,typeInfo,zeroValue,hi,v,asInt,asIntOf,hw,hn,j,q,d,f,g,Question.forced,Builtin.firstCells,loadCells,loadCellsFrom,newRow,grownCap]
theorem uF{e bytes tt lo len cap:Nat}{n:Nat}{k Z:IntKind}{x s:ft}{ts D:fq}{z:fy}{p:Nat}{cs:List PV}(ho:o.op=.call {callee:=.builtin .append,args:=#[s,x],argTypes:=#[ts,D]})(E:fA P ts=some e)(F:P.underlying D=some (.int Z))(G:fJ P e=some 1)(hb:bytesOf P e=some bytes)(hz:fL P e=some z)(I:z.isCell=true)(J:0<bytes)(K:ρ s=.ms tt 0 lo len cap)(L:ρ x=.dat (.raw (.int k (n:Int))))(hm:mtOf H tt=some (p,0,cs))(M:p=e)(N:cs=[])(O:lo=0)(q:len=0)(h0:0<n)(d:n*bytes<=gO)(hH:Qm P g B0 H.length H w)(hi:Inv B0 w0 S0 g w)(r:∀x,fC g H.length w (a.eval x) (ρ x)):
  ∃v g' w',fQ P o a w v w'/\Good P B0 w0 S0 H g w (.ms tt 1 0 n n) (H.set tt (.mt e 1 (List.replicate n (.dat z)))) v g' w':=by
 subst M N;obtain⟨Q,l,R,i2,i3,_⟩:=gE hz;have T:Q.size=1:=by simp only[fJ,R,jN,j9]at G;exact G
 have U:Q.bytes=bytes:=by simp only[bytesOf,R,jN,j9]at hb;exact hb
 have t:fC g H.length w l (.dat z):=.dat _ _ (i3 w g.S);have f:(PV.dat z).cell=true:=by cases z<;>first|rfl|(simp[fy.isCell]at I)
 obtain⟨y1,_⟩:=vt t f;have hr:=r s;rw[K]at hr;obtain⟨⟨ad,hv⟩,v0,y⟩:=CK hm O q hH hr;have V:=kj (by rw[<-L];exact r x);have A:n<=gO:=jW (aD _ J) d;have B:n<=maxLen:=by simp only[gO]at A;simp only[maxLen];omega
 have C:=pC (P:=P) w ts D o.type p Q l k Z (QM E) F R i2 ad n h0 (by rw[T];decide) (by simp only[gO]at A;omega) (by rw[U];simp only[gO]at d;omega);have W:=grownCap_ge w n 0 p;have X:=grownCap_le_maxLen w n 0 p B
 have Y:∀m,(Builtin.zeroCells l.cells m).toList=List.replicate m l:=λm=>by
  rw[y1];simp[Builtin.zeroCells];apply bW
  .simp
  .intro i h1 h2;simp[dE]
 obtain⟨g',hg⟩:=zo (P:=P) (S0:=S0) (w0:=w0) (cs:=[]) (es:=List.replicate n (PV.dat z)) (olds:=[]) (news:=List.replicate n l) (zs:=Builtin.zeroCells l.cells (grownCap w n 0 p - n)) (cap:=grownCap w n 0 p) (Zb hm) y G (by simpa using W) rfl (by rw[j8];intro x V;rw[aH V];exact lq f) X (by simpa using h0) rfl yA
  (by simp[size_zeroCells,y1]) (λj u c h=>by simp at h) (λj u c g1 g2=>by
   rw[aH (jF g1),aH (jF g2)];exact t) hH hi (Builtin.zeroCells l.cells n++Builtin.zeroCells l.cells (grownCap w n 0 p - n)) (by
   have:Builtin.zeroCells l.cells n=(List.replicate n l).toArray:=by rw[<-Y n]
   rw[this];simp)
 simp only[jL,zY,jQ,zJ]at hg;exact⟨_,g',_,.inl (by simp[execOp,ho,resolve,invoke,builtin,hv,V,C]),hg⟩
def Gh.give0(g:Gh)(H:List fB)(t n m:Nat):Gh:={g with S:=λb o=>g.S b o\/(occ g H t=some b/\o<m),own:=λj=>if j=t then some (.slice none 0 0,n+1)else g.own j}
theorem AA{k:fq}{cs:List PV}{t n:Nat}(u:H[t]?=some (.mt k n cs))(l:Qm P g B0 H.length H w)(hi:Inv B0 w0 S0 g w):
  Ext H.length g w (g.give0 H t n (lK cs)) w/\Qm P (g.give0 H t n (lK cs)) B0 H.length (H.set t (.mt k (n+1) [])) w/\Inv B0 w0 S0 (g.give0 H t n (lK cs)) w/\Fr g H w (g.give0 H t n (lK cs)) (H.set t (.mt k (n+1) [])) w:=by
 have p:t<H.length:=(ae.1 u).1;obtain⟨z,k1,_⟩:=l.mt t _ _ _ u;have c:(g.give0 H t n (lK cs)).own t=some (.slice none 0 0,n+1):=by simp[Gh.give0]
 have x:Ext H.length g w (g.give0 H t n (lK cs)) w:=⟨λ_ _ h=>.inl h,λ_ _ _=>rfl,λ_ _ h=>⟨rfl,h⟩,λj _ v m h=>by
  by_cases e:j=t
  .subst e;rw[k1]at h;cases h;exact⟨_,_,c,by omega,λh=>by omega⟩
  .exact⟨v,m,by simpa[Gh.give0,e]using h,j7 _,λ_=>rfl⟩⟩
 have f:∀b,occ (g.give0 H t n (lK cs)) (H.set t (.mt k (n+1) [])) t≠some b:=λb h=>by
  rw[gJ (e:=k) (n:=n+1) (cs:=[]) (by simp[p]),c]at h;simp[fG]at h
 refine⟨x,?_,⟨hi.below,hi.size,λb o h=>?_,λb o h=>?_⟩,⟨j7 _,λ_ _ _=>rfl,λi b d _=>?_,λb o h=>?_⟩⟩
 .refine l.turn x (j7 _) (j7 _) _ p (λ_ _ _ _=>rfl) (λi b q r o h=>?_) (λj _ y=>by simp[Gh.give0,y]) (λs hc=>by cases hc) (λ_ _ h=>by cases h) (λi b q r h=>f b h) (λe' n' s hc=>?_)
  .rcases h with h|⟨h,_⟩
   .exact h
   .exact absurd (l.sep i t b r h) q
  .cases hc;exact⟨_,c,.inl ⟨rfl,.inl rfl⟩⟩
 .rcases h with h|⟨h,_⟩
  .exact hi.old b o h
  .exact .inr (l.occ_lt h).1
 .rcases h with h|⟨h,_⟩
  .exact hi.lt b o h
  .exact(l.occ_lt h).2.1
 .by_cases e:i=t
  .subst e;exact absurd d (f b)
  .refine⟨i,?_⟩;unfold occ at d |-;rw[dv (λh=>e h.symm)]at d
   simpa[Gh.give0,e]using d
 .rcases h with h|⟨h,_⟩
  .exact .inl h
  .exact .inr (.inr ⟨t,h⟩)
theorem Iy{t gg lo len cp:Nat}{v:fu}{p:fq}{cs:List PV}{d:fy}(j:H[t]?=some (.mt p gg cs))(s:Qm P g B0 H.length H w)(u:fC g H.length w v (.ms t gg lo len cp))(e:fR H (.ms t gg lo len cp)=some d):
  fY w (g.give0 H t gg (lK cs)).S v d:=by
 have q:∀b o,g.S b o->(g.give0 H t gg (lK cs)).S b o:=λ_ _ h=>.inl h
 have x:Ext 0 g w (g.give0 H t gg (lK cs)) w:=⟨q,λ_ _ _=>rfl,λ_ h=>absurd h (bL _),λ_ h=>absurd h (bL _)⟩;cases u with
 |ms t gg lo len cp v v0 n D r E y z=>
  have k:mtOf H t=some (p,gg,cs):=by simp[mtOf,j,fB.mtOf]
  simp only[fR,k,ak]at e;rw[jK]at e;obtain⟨ds,f,e⟩:=e;split at e
  .rename_i l;cases e;obtain⟨F,k1,k2⟩:=s.mt t _ _ _ j;rw[r]at k1;simp only[j9,jI]at k1;obtain⟨rfl,rfl⟩:=k1;exact Fm k2 (y rfl).1 f l (by obtain⟨a,c,A,_,B,_⟩:=z;exact⟨a,c,A,B⟩) q (λb o m C=>.inr ⟨by rw[gJ j,r];exact m,C⟩)
  .cases e
theorem lM:∀(cs:List PV) (vs:List Value) (g:Gh) (H:List fB) (ds:List fy) (H':List fB),Qm P g B0 H.length H w->Inv B0 w0 S0 g w->(∀(j:Nat) v c,vs[j]?=some v->cs[j]?=some c->fC g H.length w v c)->ga H cs=some (ds,H')->
  ∃g',H'.length=H.length/\Ext H.length g w g' w/\Qm P g' B0 H.length H' w/\Inv B0 w0 S0 g' w/\Fr g H w g' H' w/\ds.length=cs.length/\∀(j:Nat) v d,vs[j]?=some v->ds[j]?=some d->fY w g'.S v d
 |[],vs,g,H,ds,H',m,hi,p,h=>by
  simp only[ga,j9,jI]at h;obtain⟨rfl,rfl⟩:=h;exact⟨g,rfl,Ext.refl _ _ _,m,hi,Fr.refl _ _ _,rfl,λj v d _ h=>by simp at h⟩
 |c::cs,vs,g,H,ds,H',m,hi,p,h=>by
  simp only[ga]at h;cases e:gY H c with
  |none=>rw[e]at h;cases h
  |some x=>
   obtain⟨d,H1⟩:=x;rw[e]at h;simp only at h;cases q:ga H1 cs with
   |none=>rw[q]at h;cases h
   |some y=>
    obtain⟨ds',H2⟩:=y;rw[q]at h;simp only[j9,jI]at h;obtain⟨rfl,rfl⟩:=h
    have key:∃k,H1.length=H.length/\Ext H.length g w k w/\Qm P k B0 H.length H1 w/\Inv B0 w0 S0 k w/\Fr g H w k H1 w/\∀v,fC g H.length w v c->fY w k.S v d:=by
     cases c with
     |dat E=>
      simp only[gY,j9,jI]at e;obtain⟨rfl,rfl⟩:=e;exact⟨g,rfl,Ext.refl _ _ _,m,hi,Fr.refl _ _ _,λv f=>f.datInv⟩
     |vec t es=>
      simp only[gY,j9,jI]at e;obtain⟨rfl,rfl⟩:=e;exact⟨g,rfl,Ext.refl _ _ _,m,hi,Fr.refl _ _ _,λv f=>by cases f;assumption⟩
     |ms t gg lo len cp=>
      simp only[gY]at e;cases l:fR H (.ms t gg lo len cp)with
      |none=>rw[l]at e;cases e
      |some E=>
       cases hm:mtOf H t with
       |none=>rw[l,hm]at e;cases e
       |some z=>
        obtain⟨R,g',F⟩:=z;rw[l,hm]at e;simp only[j9,jI]at e;obtain⟨rfl,rfl⟩:=e
        have r:g'=gg:=by
         simp only[fR,hm]at l;split at l
         .assumption
         .cases l
        subst r;obtain⟨k1,k2,k3,G⟩:=AA (Zb hm) m hi;exact⟨_,by simp,k1,k2,k3,G,λv f=>Iy (Zb hm) m f l⟩
     |_=>simp[gY]at e
    obtain⟨k,l1,D,s,u,I,J⟩:=key
    obtain⟨K,l2,A,n,B,L,M,N⟩:=lM cs vs.tail k H1 ds' H2 (by rw[l1];exact s) u (λj v O f hc=>by
     have:=p (j+1) v O (by rw[List.getElem?_tail]at f;exact f) (by simpa using hc);rw[l1];exact this.ext D (j7 _)) q
    rw[l1]at l2 A n;refine⟨K,l2,D.trans A (j7 _),n,B,I.trans L,by simp[M],λj v Q f C=>?_⟩;cases j with
    |zero=>
     simp at C;subst C;exact(J v (p 0 v c f rfl)).ext A
    |succ j=>exact N j v Q (by rw[List.getElem?_tail];exact f) (by simpa using C)
end
end Go.Pm
