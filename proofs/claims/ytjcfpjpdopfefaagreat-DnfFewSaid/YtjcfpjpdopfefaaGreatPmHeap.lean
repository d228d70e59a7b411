/-
 The pure machine: how its heap stays right when the world turns.
-/
import Derived.Test.YtjcfpjpdopfefaaGreatPmOps1
namespace Go.Pm
open Go Go.RowKit
set_option linter.all false
variable{P:fm}{g g':Gh}{B0 N N':Nat}{H:List fB}{w w':fk}
theorem gX{w:fk}{b:Nat}{o:Obj}(h:w.heap[b]?=some o):b<w.heap.size:=(ay.1 h).1
theorem gw{i:Nat}{cs:List PV}(h:H[i]?=some (.box cs)):occ g H i=some (g.blk i):=by simp[occ,h]
theorem kh{i:Nat}{e:fq}{n:Nat}(h:H[i]?=some (.tok e n)):occ g H i=(g.own i).bind λx=>x.1.ownBlock:=by simp[occ,h]
theorem gJ{i:Nat}{e:fq}{n:Nat}{cs:List PV}(h:H[i]?=some (.mt e n cs)):occ g H i=(g.own i).bind λx=>fG x.1:=by simp[occ,h]
theorem iY{i:Nat}{es:List (Value×PV)}(h:H[i]?=some (.map es)):occ g H i=some (g.blk i):=by simp[occ,h]
theorem Qm.occ_lt(j:Qm P g B0 N H w){i b:Nat}(h:occ g H i=some b):B0<=b/\b<w.heap.size/\i<H.length:=by
 unfold occ at h;split at h
 .rename_i cs hi;cases h;obtain⟨c,⟨vals,q,d,_⟩,_⟩:=j.box i cs hi;exact⟨c,gX d,(ae.1 hi).1⟩
 .rename_i e n hi;obtain⟨v0,c,d⟩:=j.tok i e n hi;rw[c]at h;rcases d with⟨rfl,_⟩|⟨p,cap,cur,size,rfl,k,f,_⟩
  .simp[Value.ownBlock]at h
  .simp[Value.ownBlock]at h;subst h;exact⟨k,gX f,(ae.1 hi).1⟩
 .rename_i e n cs hi;obtain⟨v0,c,d⟩:=j.mt i e n cs hi;rw[c]at h;rcases d with⟨_,rfl|⟨a,rfl⟩⟩|⟨p,l,cap,cur,rfl,k,f,m,_⟩|⟨p,l,cap,cur,size,ds,rfl,k,f,m,_⟩
  .simp[fG]at h
  .simp[fG]at h
  .simp[fG]at h;obtain⟨_,rfl⟩:=h;exact⟨f,gX m,(ae.1 hi).1⟩
  .simp[fG]at h;obtain⟨_,rfl⟩:=h;exact⟨f,gX m,(ae.1 hi).1⟩
 .rename_i es hi;cases h;obtain⟨c,⟨arr,clock,d,_⟩,_⟩:=j.map i es hi;exact⟨c,gX d.1,(ae.1 hi).1⟩
 .cases h
 .cases h
theorem Qm.liveB(c:Qm P g B0 N H w){i:Nat}{cs:List PV}(h:H[i]?=some (.box cs)):g.live i:=(c.live i _ h).1 trivial
theorem Qm.liveM(c:Qm P g B0 N H w){i:Nat}{es:List (Value×PV)}(h:H[i]?=some (.map es)):g.live i:=(c.live i _ h).1 trivial
theorem Qm.noHole(c:Qm P g B0 N H w){i:Nat}(h:H[i]?=some .hole):¬g.live i/\g.own i=none:=(c.live i _ h).2 rfl
theorem pG.keep{e:fq}{cs:List PV}{v0:fu}(h:pG P g N B0 w e cs v0)(C:Ext N g w g' w')(F:N<=N')(D:∀b,fG v0=some b->w'.heap[b]?=w.heap[b]?)(E:∀b,fG v0=some b->∀o,g'.S b o->g.S b o):pG P g' N' B0 w' e cs v0:=by
 rcases h with h|⟨b,n,cap,cur,rfl,h0,k,l,m,p,q,r,s,t⟩|⟨b,n,cap,cur,size,ds,rfl,h0,k,l,m,x,p,y,f,q,r,s,t⟩
 .exact .inl h
 .have hm:fG (.slice (some ⟨b,0,none⟩) n cap)=some b:=by simp[fG];omega
  exact .inr (.inl ⟨b,n,cap,cur,rfl,h0,k,by rw[D b hm,l],m,p,q,r,λo z=>s o (E b hm o z),λj v c A B=>(t j v c A B).ext C F⟩)
 .have hm:fG (.slice (some ⟨b,0,none⟩) n cap)=some b:=by simp[fG];omega
  exact .inr (.inr ⟨b,n,cap,cur,size,ds,rfl,h0,k,by rw[D b hm,l],m,x,p,y,f,q,r,λo z=>s o (E b hm o z),λi j d u v A B G=>(t i j d u v A B G).ext C⟩)
theorem sx.keep{e:fq}{n:Nat}{v0:fu}(h:sx P g B0 w e n v0)(c:∀b,v0.ownBlock=some b->w'.heap[b]?=w.heap[b]?)(d:∀b,v0.ownBlock=some b->∀o,g'.S b o->g.S b o):sx P g' B0 w' e n v0:=by
 rcases h with h|⟨b,cap,cur,size,rfl,f,j,k,l,m,p,q⟩
 .exact .inl h
 .exact .inr ⟨b,cap,cur,size,rfl,f,by rw[c b (by simp[Value.ownBlock]),j],k,l,m,p,λo r=>q o (d b (by simp[Value.ownBlock]) o r)⟩
theorem Qm.keep(k:Qm P g B0 N H w)(q:Ext N g w g' w')(C:N<=N')(hl:H.length<=N)(r:∀i b,occ g H i=some b->w'.heap[b]?=w.heap[b]?)(y:∀i b,occ g H i=some b->∀o,g'.S b o->g.S b o)(f:∀t,t<H.length->g'.own t=g.own t)(u:∀i,i<H.length->g'.live i->g.live i:=by first|exact λ_ _ h=>h|exact λi hi h=>Or.resolve_left h y8):Qm P g' B0 N' H w':=by
 have d:∀{i:Nat} {b:fB},H[i]?=some b->i<H.length:=λh=>(ae.1 h).1
 have s:∀i,occ g' H i=occ g H i:=λi=>by
  unfold occ;split
  .rename_i hi;rw[(q.blk i (jP (d hi) hl) (k.liveB hi)).1]
  .rename_i hi;rw[f i (d hi)]
  .rename_i hi;rw[f i (d hi)]
  .rename_i hi;rw[(q.blk i (jP (d hi) hl) (k.liveM hi)).1]
  .rfl
  .rfl
 refine⟨λi cs hi=>?_,λi e n hi=>?_,λi e n cs hi=>?_,λi es hi=>?_,λi e cs hi=>by rw[f i (d hi)];exact k.mt0 i e cs hi,λi x hi=>⟨λG=>(q.blk i (jP (d hi) hl) ((k.live i x hi).1 G)).2,λF=>⟨λI=>((k.live i x hi).2 F).1 (u i (d hi) I),by rw[f i (d hi)];exact((k.live i x hi).2 F).2⟩⟩,λi j b l m=>k.sep i j b (by rw[<-s];exact l) (by rw[<-s];exact m)⟩
 .obtain⟨l,⟨vals,J,m,D,z⟩,E⟩:=k.box i cs hi;rw[(q.blk i (jP (d hi) hl) (k.liveB hi)).1];refine⟨l,⟨vals,J,by rw[r i _ (gw hi),m],D,λj v c A B=>(z j v c A B).ext q C⟩,λo p=>E o (y i _ (gw hi) o p)⟩
 .obtain⟨v0,l,m⟩:=k.tok i e n hi;have p:∀b,v0.ownBlock=some b->occ g H i=some b:=λb r=>by rw[kh hi,l];exact r
  exact⟨v0,by rw[f i (d hi),l],m.keep (λb h=>r i b (p b h)) (λb h=>y i b (p b h))⟩
 .obtain⟨v0,l,m⟩:=k.mt i e n cs hi;have p:∀b,fG v0=some b->occ g H i=some b:=λb r=>by rw[gJ hi,l];exact r
  exact⟨v0,by rw[f i (d hi),l],m.keep q C (λb h=>r i b (p b h)) (λb h=>y i b (p b h))⟩
 .obtain⟨l,⟨arr,clock,m,D,z⟩,E⟩:=k.map i es hi;rw[(q.blk i (jP (d hi) hl) (k.liveM hi)).1];exact⟨l,⟨arr,clock,⟨by rw[r i _ (iY hi),m.1],m.2⟩,D,λj v c A B=>⟨(z j v c A B).1,(z j v c A B).2.ext q C⟩⟩,λo p=>E o (y i _ (iY hi) o p)⟩
theorem Qm.snoc(l:Qm P g B0 N H w)(x:fB)(r:∀cs,x=.box cs->KU g N B0 w (g.blk H.length) cs)(s:∀e n,x=.tok e n->∃v0,g.own H.length=some (v0,n)/\sx P g B0 w e n v0)(k:∀i b,occ g H i=some b->occ g (H++[x]) H.length≠some b)(t:∀e n cs,x=.mt e n cs->∃v0,g.own H.length=some (v0,n)/\pG P g N B0 w e cs v0:=by intro _ _ _ h;cases h)(hmap:∀es,x=.map es->HS g N B0 w (g.blk H.length) es:=by intro _ h;cases h)(hmt0:∀e cs,x=.mt e 0 cs->∃v0,g.own H.length=some (v0,0)/\fG v0=none:=by intro _ _ h;cases h)(u:x.placed->g.live H.length:=by first|exact λh=>h.elim|exact λ_=>Or.inl rfl|exact λ_=>by assumption)(m:x=.hole->¬g.live H.length/\g.own H.length=none:=by intro h;cases h):Qm P g B0 N (H++[x]) w:=by
 have c:∀i,(H++[x])[i]?=if i<H.length then H[i]? else if i=H.length then some x else none:=λi=>by
  rw[jT];split
  .rfl
  .rename_i h;by_cases e:i=H.length
   .subst e;simp
   .simp[e];omega
 have d:∀i,i<H.length->occ g (H++[x]) i=occ g H i:=λi hi=>by simp[occ,c,hi]
 have f:∀i b,occ g (H++[x]) i=some b->i<=H.length:=λi b h=>by
  unfold occ at h;rw[c]at h;by_cases p:i<H.length
  .omega
  .by_cases q:i=H.length
   .omega
   .simp[p,q]at h
 refine⟨λi cs hi=>?_,λi e n hi=>?_,λi e n cs hi=>?_,λi es hi=>?_,λi e cs hi=>?_,λi y hi=>?_,λi j b p q=>?_⟩
 .rw[c]at hi;split at hi
  .exact l.box i cs hi
  .split at hi
   .rename_i e;subst e;exact r cs (by simpa using hi)
   .cases hi
 .rw[c]at hi;split at hi
  .exact l.tok i e n hi
  .split at hi
   .rename_i e';subst e';exact s e n (by simpa using hi)
   .cases hi
 .rw[c]at hi;split at hi
  .exact l.mt i e n cs hi
  .split at hi
   .rename_i e';subst e';exact t e n cs (by simpa using hi)
   .cases hi
 .rw[c]at hi;split at hi
  .exact l.map i es hi
  .split at hi
   .rename_i e';subst e';exact hmap es (by simpa using hi)
   .cases hi
 .rw[c]at hi;split at hi
  .exact l.mt0 i e cs hi
  .split at hi
   .rename_i e';subst e';exact hmt0 e cs (by simpa using hi)
   .cases hi
 .rw[c]at hi;split at hi
  .exact l.live i y hi
  .split at hi
   .rename_i e';subst e';obtain rfl:x=y:=by simpa using hi
    exact⟨u,m⟩
   .cases hi
 .have v:=f i b p;have z:=f j b q;by_cases c1:i<H.length<;>by_cases c2:j<H.length
  .exact l.sep i j b (by rw[<-d i c1];exact p) (by rw[<-d j c2];exact q)
  .obtain rfl:j=H.length:=by omega
   exact absurd q (k i b (by rw[<-d i c1];exact p))
  .obtain rfl:i=H.length:=by omega
   exact absurd p (k j b (by rw[<-d j c2];exact q))
  .omega
theorem Qm.turn(q:Qm P g B0 N H w)(z:Ext N g w g' w')(L:N<=N')(hl:H.length<=N){k:Nat}(x:fB)(U:k<H.length)(A:∀i b,i≠k->occ g H i=some b->w'.heap[b]?=w.heap[b]?)(G:∀i b,i≠k->occ g H i=some b->∀o,g'.S b o->g.S b o)(m:∀t,t<H.length->t≠k->g'.own t=g.own t)(E:∀cs,x=.box cs->KU g' N' B0 w' (g'.blk k) cs)(F:∀e n,x=.tok e n->∃v0,g'.own k=some (v0,n)/\sx P g' B0 w' e n v0)(B:∀i b,i≠k->occ g H i=some b->occ g' (H.set k x) k≠some b)(M:∀e n cs,x=.mt e n cs->∃v0,g'.own k=some (v0,n)/\pG P g' N' B0 w' e cs v0:=by intro _ _ _ h;cases h)(hmap:∀es,x=.map es->HS g' N' B0 w' (g'.blk k) es:=by intro _ h;cases h)(hmt0:∀e cs,x=.mt e 0 cs->∃v0,g'.own k=some (v0,0)/\fG v0=none:=by intro _ _ h;cases h)(O:x.placed->g'.live k:=by first|exact λh=>h.elim|exact λ_=>Or.inl rfl|exact λ_=>by assumption)(C:x≠.hole:=by intro h;cases h)(D:∀i,i<H.length->i≠k->g'.live i->g.live i:=by first|exact λ_ _ _ h=>h|exact λi hi _ h=>Or.resolve_left h y8):Qm P g' B0 N' (H.set k x) w':=by
 have f:∀{i:Nat} {b:fB},H[i]?=some b->i<H.length:=λh=>(ae.1 h).1
 have l:∀i,(H.set k x)[i]?=if i=k then some x else H[i]?:=λi=>by
  rw[zE];by_cases e:k=i
  .subst e;simp[U]
  .have e':i≠k:=λh=>e h.symm
   simp[e,e']
 have p:∀i,i≠k->occ g' (H.set k x) i=occ g H i:=λi hi=>by
  unfold occ;rw[l,af hi];split
  .rename_i h;rw[(z.blk i (jP (f h) hl) (q.liveB h)).1]
  .rename_i h;rw[m i (f h) hi]
  .rename_i h;rw[m i (f h) hi]
  .rename_i h;rw[(z.blk i (jP (f h) hl) (q.liveM h)).1]
  .rfl
  .rfl
 refine⟨λi cs hi=>?_,λi e n hi=>?_,λi e n cs hi=>?_,λi es hi=>?_,λi e cs hi=>?_,λi y hi=>?_,λi j b r s=>?_⟩
 .rw[l]at hi;split at hi
  .rename_i e;subst e;exact E cs (by simpa using hi)
  .rename_i d;obtain⟨r,⟨vals,V,s,Q,I⟩,R⟩:=q.box i cs hi;rw[(z.blk i (jP (f hi) hl) (q.liveB hi)).1];exact⟨r,⟨vals,V,by rw[A i _ d (gw hi),s],Q,λj v c J K=>(I j v c J K).ext z L⟩,λo u=>R o (G i _ d (gw hi) o u)⟩
 .rw[l]at hi;split at hi
  .rename_i e';subst e';exact F e n (by simpa using hi)
  .rename_i d;obtain⟨v0,r,s⟩:=q.tok i e n hi;have u:∀b,v0.ownBlock=some b->occ g H i=some b:=λb A=>by rw[kh hi,r];exact A
   exact⟨v0,by rw[m i (f hi) d,r],s.keep (λb h=>A i b d (u b h)) (λb h=>G i b d (u b h))⟩
 .rw[l]at hi;split at hi
  .rename_i e';subst e';exact M e n cs (by simpa using hi)
  .rename_i d;obtain⟨v0,r,s⟩:=q.mt i e n cs hi;have u:∀b,fG v0=some b->occ g H i=some b:=λb A=>by rw[gJ hi,r];exact A
   exact⟨v0,by rw[m i (f hi) d,r],s.keep z L (λb h=>A i b d (u b h)) (λb h=>G i b d (u b h))⟩
 .rw[l]at hi;split at hi
  .rename_i e';subst e';exact hmap es (by simpa using hi)
  .rename_i d;obtain⟨r,⟨arr,clock,s,Q,I⟩,R⟩:=q.map i es hi;rw[(z.blk i (jP (f hi) hl) (q.liveM hi)).1];exact⟨r,⟨arr,clock,⟨by rw[A i _ d (iY hi),s.1],s.2⟩,Q,λj v c J K=>⟨(I j v c J K).1,(I j v c J K).2.ext z L⟩⟩,λo u=>R o (G i _ d (iY hi) o u)⟩
 .rw[l]at hi;split at hi
  .rename_i e';subst e';exact hmt0 e cs (by simpa using hi)
  .rename_i d;rw[m i (f hi) d];exact q.mt0 i e cs hi
 .rw[l]at hi;split at hi
  .rename_i e';subst e';obtain rfl:x=y:=by simpa using hi
   exact⟨O,λe=>absurd e C⟩
  .rename_i d;exact⟨λW=>(z.blk i (jP (f hi) hl) ((q.live i y hi).1 W)).2,λT=>⟨λX=>((q.live i y hi).2 T).1 (D i (f hi) d X),by rw[m i (f hi) d];exact((q.live i y hi).2 T).2⟩⟩
 .by_cases c1:i=k<;>by_cases c2:j=k
  .omega
  .subst c1;exact absurd r (B j b c2 (by rw[<-p j c2];exact s))
  .subst c2;exact absurd s (B i b c1 (by rw[<-p i c1];exact r))
  .exact q.sep i j b (by rw[<-p i c1];exact r) (by rw[<-p j c2];exact s)
theorem wU{w:fk}(o:Obj){a:Addr}(h:a.block<w.heap.size):(w.alloc o).cell? a=w.cell? a:=
 World.cell?_of_block (Below.heap_alloc w o a.block h)
theorem Inv.alloc{w0:fk}{S0:Nat->Nat->Prop}(h:Inv B0 w0 S0 g w)(o:Obj):Inv B0 w0 S0 g (w.alloc o):=
 ⟨h.below.alloc h.size o,by simp;exact Nat.le_succ_of_le h.size,h.old,λb o' c=>by simp;exact Nat.lt_succ_of_lt (h.lt b o' c)⟩
def Gh.box(g:Gh)(i b:Nat):Gh:={g with blk:=λj=>if j=i then b else g.blk j,live:=λj=>j=i\/g.live j}
def Gh.pub(g:Gh)(b n:Nat):Gh:={g with S:=λc o=>g.S c o\/(c=b/\o<n)}
def Gh.give(g:Gh)(t:Nat)(v:fu)(n:Nat):Gh:={g with own:=λj=>if j=t then some (v,n)else g.own j}
theorem Ext.alloc{w0:fk}{S0:Nat->Nat->Prop}(h:Inv B0 w0 S0 g w)(N:Nat)(o:Obj):Ext N g w g (w.alloc o):=
 ⟨λ_ _ h=>h,λb o' c=>wU o (h.lt b o' c),λ_ _ h=>⟨rfl,h⟩,λ_ _ v n h=>⟨v,n,h,j7 _,λ_=>rfl⟩⟩
theorem Ext.box(N:Nat){i:Nat}(b:Nat)(hi:N<=i):Ext N g w (g.box i b) w:=
 ⟨λ_ _ h=>h,λ_ _ _=>rfl,λj c hl=>⟨by simp only[Gh.box];rw[af y8],.inr hl⟩,λ_ _ v n h=>⟨v,n,h,j7 _,λ_=>rfl⟩⟩
theorem Ext.pub(N b n:Nat):Ext N g w (g.pub b n) w:=
 ⟨λ_ _ h=>.inl h,λ_ _ _=>rfl,λj c hl=>⟨rfl,hl⟩,λ_ _ v n h=>⟨v,n,h,j7 _,λ_=>rfl⟩⟩
theorem Ext.giveNew(N:Nat){t:Nat}(v:fu)(n:Nat)(d:N<=t):Ext N g w (g.give t v n) w:=
 ⟨λ_ _ h=>h,λ_ _ _=>rfl,λj e hl=>⟨rfl,hl⟩,λf c v' n' h=>⟨v',n',by simp only[Gh.give];rw[af y8];exact h,j7 _,λ_=>rfl⟩⟩
theorem Qm.alloc{w0:fk}{S0:Nat->Nat->Prop}(c:Qm P g B0 N H w)(hi:Inv B0 w0 S0 g w)(hl:H.length<=N)(o:Obj):Qm P g B0 N H (w.alloc o):=
 c.keep (Ext.alloc hi N o) (j7 _) hl (λi b d=>Below.heap_alloc w o b (c.occ_lt d).2.1) (λ_ _ _ _ h=>h) (λ_ _=>rfl)
structure Fr (g:Gh) (H:List fB) (w:fk) (g':Gh) (H':List fB) (w':fk):Prop where
 size:w.heap.size<=w'.heap.size
 keep:∀b,b<w.heap.size->(∀i,occ g H i≠some b)->w'.heap[b]?=w.heap[b]?
 occ:∀i b,occ g' H' i=some b->b<w.heap.size->∃j,occ g H j=some b
 pub:∀b o,g'.S b o->g.S b o\/w.heap.size<=b\/∃i,Pm.occ g H i=some b
theorem Fr.refl(g:Gh)(H:List fB)(w:fk):Fr g H w g H w:=⟨j7 _,λ_ _ _=>rfl,λi b h _=>⟨i,h⟩,λ_ _ h=>.inl h⟩
theorem Fr.trans{g f l:Gh}{H H1 H2:List fB}{w m n:fk}(h:Fr g H w f H1 m)(k:Fr f H1 m l H2 n):Fr g H w l H2 n:=
 ⟨jW h.size k.size,λb c hn=>(k.keep b (jP c h.size) (λi hi=>by obtain⟨j,e⟩:=h.occ i b hi c;exact hn j e)).trans (h.keep b c hn),
  λi b hi c=>by obtain⟨j,e⟩:=k.occ i b hi (jP c h.size);exact h.occ j b e c,
  λb o d=>by
  rcases k.pub b o d with d|d|⟨i,hi⟩
  .exact h.pub b o d
  .exact .inr (.inl (jW h.size d))
  .by_cases c:b<w.heap.size
   .exact .inr (.inr (h.occ i b hi c))
   .exact .inr (.inl (cP c))⟩
theorem Fr.old{g g':Gh}{H H':List fB}{w w':fk}(c:w.heap.size<=w'.heap.size)(d:∀b,b<w.heap.size->w'.heap[b]?=w.heap[b]?)(e:∀i b,Pm.occ g' H' i=some b->b<w.heap.size->∃j,Pm.occ g H j=some b)(f:∀b o,g'.S b o->g.S b o\/w.heap.size<=b\/∃i,Pm.occ g H i=some b:=by exact λb o h=>.inl h):Fr g H w g' H' w':=⟨c,λb k _=>d b k,e,f⟩
theorem oh{x:fB}{i b:Nat}(h:occ g (H++[x]) i=some b)(c:∀e n cs,x≠.mt e n cs:=by intro _ _ _ h;cases h)(d:∀es,x≠.map es:=by intro _ h;cases h):occ g H i=some b\/(i=H.length/\((∃cs,x=.box cs/\b=g.blk H.length)\/(∃e n,x=.tok e n/\(g.own H.length).bind (λx=>x.1.ownBlock)=some b))):=by
 unfold occ at h |-;rw[jT]at h;by_cases hi:i<H.length
 .rw[ai hi]at h;exact .inl h
 .rw[af hi]at h;by_cases e:i=H.length
  .subst e;simp only[cB,bT]at h;right;refine⟨rfl,?_⟩;cases x with
   |box cs=>exact .inl ⟨cs,rfl,(jS h).symm⟩
   |tok e n=>exact .inr ⟨e,n,rfl,h⟩
   |mt e n cs=>exact absurd rfl (c e n cs)
   |map es=>exact absurd rfl (d es)
   |hole=>cases h
  .have:([x]:List fB)[i - H.length]?=none:=aF y9
   rw[this]at h;cases h
theorem gD{i b:Nat}(h:occ g' H i=some b)(d:∀j,j<H.length->g'.blk j=g.blk j)(e:∀j,j<H.length->g'.own j=g.own j):occ g H i=some b:=by
 have c:∀{x:fB},H[i]?=some x->i<H.length:=λh=>(ae.1 h).1
 unfold occ at h |-;split at h
 .rename_i hi;rw[d i (c hi)]at h;exact h
 .rename_i hi;rw[e i (c hi)]at h;exact h
 .rename_i hi;rw[e i (c hi)]at h;exact h
 .rename_i hi;rw[d i (c hi)]at h;exact h
 .cases h
 .cases h
theorem rO{x:fB}{k i b:Nat}(c:k<H.length)(h:occ g (H.set k x) i=some b)(d:∀e n cs,x≠.mt e n cs:=by intro _ _ _ h;cases h)(f:∀es,x≠.map es:=by intro _ h;cases h):(i≠k/\occ g H i=some b)\/(i=k/\((∃cs,x=.box cs/\b=g.blk k)\/(∃e n,x=.tok e n/\(g.own k).bind (λx=>x.1.ownBlock)=some b))):=by
 unfold occ at h |-;rw[zE]at h;by_cases e:k=i
 .subst e;rw[ai rfl,ai c]at h;right;refine⟨rfl,?_⟩;cases x with
  |box cs=>exact .inl ⟨cs,rfl,(jS h).symm⟩
  |tok e n=>exact .inr ⟨e,n,rfl,h⟩
  |mt e n cs=>exact absurd rfl (d e n cs)
  |map es=>exact absurd rfl (f es)
  |hole=>cases h
 .rw[af e]at h;exact .inl ⟨λe'=>e e'.symm,h⟩
theorem nw{c:fq}{n:Nat}{cs:List PV}{i b:Nat}(h:occ g (H++[.mt c n cs]) i=some b):occ g H i=some b\/(i=H.length/\(g.own H.length).bind (λx=>fG x.1)=some b):=by
 unfold occ at h |-;rw[jT]at h;by_cases hi:i<H.length
 .rw[ai hi]at h;exact .inl h
 .rw[af hi]at h;by_cases e:i=H.length
  .subst e;simp only[cB,bT]at h;exact .inr ⟨rfl,h⟩
  .have:([fB.mt c n cs]:List fB)[i - H.length]?=none:=aF y9
   rw[this]at h;cases h
theorem kU{c:fq}{n:Nat}{cs:List PV}{k i b:Nat}(d:k<H.length)(h:occ g (H.set k (.mt c n cs)) i=some b):(i≠k/\occ g H i=some b)\/(i=k/\(g.own k).bind (λx=>fG x.1)=some b):=by
 unfold occ at h |-;rw[zE]at h;by_cases e:k=i
 .subst e;rw[ai rfl,ai d]at h;exact .inr ⟨rfl,h⟩
 .rw[af e]at h;exact .inl ⟨λe'=>e e'.symm,h⟩
theorem sP{es:List (Value×PV)}{i b:Nat}(h:occ g (H++[.map es]) i=some b):occ g H i=some b\/(i=H.length/\b=g.blk H.length):=by
 unfold occ at h |-;rw[jT]at h;by_cases hi:i<H.length
 .rw[ai hi]at h;exact .inl h
 .rw[af hi]at h;by_cases e:i=H.length
  .subst e;simp only[cB,bT,j9]at h;exact .inr ⟨rfl,h.symm⟩
  .have:([fB.map es]:List fB)[i - H.length]?=none:=aF y9
   rw[this]at h;cases h
theorem BD{es:List (Value×PV)}{k i b:Nat}(c:k<H.length)(h:occ g (H.set k (.map es)) i=some b):(i≠k/\occ g H i=some b)\/(i=k/\b=g.blk k):=by
 unfold occ at h |-;rw[zE]at h;by_cases e:k=i
 .subst e;rw[ai rfl,ai c]at h;simp only[j9]at h;exact .inr ⟨rfl,h.symm⟩
 .rw[af e]at h;exact .inl ⟨λe'=>e e'.symm,h⟩
end Go.Pm
