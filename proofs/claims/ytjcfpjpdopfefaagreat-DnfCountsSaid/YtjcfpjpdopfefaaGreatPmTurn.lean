/-
 The pure machine: indices of the heap renamed; a call that sees a stretch of the heap alone.
-/
import Derived.Test.YtjcfpjpdopfefaaGreatPmFrame
namespace Go.Pm
open Go Go.RowKit
set_option linter.unusedVariables false
set_option linter.unusedSimpArgs false

theorem rens_map (f:Nat→Nat):∀ cs,PV.rens f cs=cs.map (PV.ren f)
 | []=>rfl
 | c::r=>by simp [PV.rens,rens_map f r]

theorem map_dat (f:Nat→Nat) (ds:List Dat):(ds.map PV.dat).map (PV.ren f)=ds.map PV.dat:=by
 simp [PV.ren]

theorem cells_ren (f:Nat→Nat) (p:PV):(p.ren f).cells=p.cells.map (PV.ren f):=by
 cases p <;> simp [PV.ren,PV.cells,rens_map]

theorem allDat_ren (f:Nat→Nat):∀ cs,allDat (cs.map (PV.ren f))=allDat cs
 | []=>rfl
 | .dat d::r=>by simp [allDat,PV.ren,allDat_ren f r]
 | .agg _::_|.tup _::_|.vec ..::_|.ptr ..::_|.iptr _::_|.arr ..::_|.fn ..::_|.ms ..::_|.mp ..::_|.mapv _::_|.empv _::_|.undef::_=>by simp [allDat,PV.ren]

theorem mkAgg_ren (f:Nat→Nat) (cs:List PV):mkAgg (cs.map (PV.ren f))=(mkAgg cs).ren f:=by
 unfold mkAgg;rw [allDat_ren];cases allDat cs with
 | some ds=>rfl
 | none=>simp [PV.ren,rens_map]

theorem paste_map {α β:Type} (f:α→β) (cs vs:List α) (o:Nat):paste (cs.map f) o (vs.map f)=(paste cs o vs).map (List.map f):=by
 unfold paste;simp only [jY];split <;> simp

theorem fillA_map {α β:Type} (f:α→β) (pl:Nat→Option (Nat × Nat)):∀ (ps:List (Nat × List α)) (cs:List α),fillA pl (cs.map f) (ps.map fun x=>(x.1,x.2.map f))=(fillA pl cs ps).map (List.map f)
 | [],cs=>rfl
 | (i,vs)::r,cs=>by
  simp only [zS,fillA];cases pl i with
  | none=>rfl
  | some x =>
   simp only [jY];split
   ·rw [paste_map];cases paste cs x.1 vs with
    | none=>rfl
    | some cs'=>simpa using fillA_map f pl r cs'
   ·rfl

theorem ren_nil {f:Nat→Nat} {c:PV} (h:c.ren f=.dat (.lst [])):c=.dat (.lst []):=by
 cases c <;> simp_all [PV.ren]

theorem tokCells_ren (f:Nat→Nat):∀ (ow:List (Nat × TypeId)) (k k2:Nat) (cs2 cs':List PV) (bs:List Blk),(∀ i,f (k2+i)=k+i)→tokCells k (cs2.map (PV.ren f)) ow=some (cs',bs) →
  ∃ cs2',tokCells k2 cs2 ow=some (cs2',bs)∧cs'=cs2'.map (PV.ren f)
 | [],k,k2,cs2,cs',bs,hf,h=>by cases h; exact ⟨cs2,rfl,rfl⟩
 | (j,e)::r,k,k2,cs2,cs',bs,hf,h=>by
  unfold tokCells at h ⊢;split at h
  ·rename_i hj;rw [jD,j5] at hj;obtain ⟨c,hc,hj⟩:=hj;rw [ren_nil hj] at hc;rw [hc];split at h
   ·rename_i cs1 bs1 hr;cases h
    have e1:(cs2.map (PV.ren f)).set j (.vec k [])=(cs2.set j (.vec k2 [])).map (PV.ren f):=by
     rw [List.map_set]; simp [PV.ren];have:=hf 0; simp at this; rw [this]
    rw [e1] at hr;obtain ⟨cs2',h1,h2⟩:=tokCells_ren f r (k+1) (k2+1) _ _ _ (fun i=>by have:=hf (1+i); rw [Nat.add_assoc,Nat.add_assoc]; exact this) hr;exact ⟨cs2',by simp only [h1],h2⟩
   ·cases h
  ·cases h

theorem tokCells_toks:∀ (ow:List (Nat × TypeId)) (k:Nat) (cs cs':List PV) (bs:List Blk),tokCells k cs ow=some (cs',bs)→∀ f,bs.map (Blk.ren f)=bs∧∀ x∈bs,x≠.hole
 | [],k,cs,cs',bs,h,f=>by cases h; exact ⟨rfl,by simp⟩
 | (j,e)::r,k,cs,cs',bs,h,f=>by
  unfold tokCells at h;split at h
  ·split at h
   ·rename_i hr;cases h;obtain ⟨h1,h2⟩:=tokCells_toks r _ _ _ _ hr f;refine ⟨by simp [Blk.ren,h1],fun x hx=>?_⟩;rcases List.mem_cons.1 hx with rfl|hx
    ·intro h; cases h
    ·exact h2 x hx
   ·cases h
  ·cases h

structure Turn (f:Nat→Nat) (g:Gh) (N:Nat) (g':Gh) (N':Nat):Prop where
 S:g'.S=g.S
 blk:∀ i,i < N→g.live i→f i < N'∧g'.live (f i)∧g'.blk (f i)=g.blk i
 own:∀ t,t < N→∀ x,g.own t=some x→f t < N'∧g'.own (f t)=some x

section
variable {f:Nat→Nat} {g g':Gh} {N N' B0:Nat} {P:Program} {H H':List Blk} {w:World}

theorem RepV.ren (ht:Turn f g N g' N') {v:Value} {p:PV} (h:RepV g N w v p):RepV g' N' w v (p.ren f):=by
 have hS:∀ {v d},RepD w g.S v d→RepD w g'.S v d:=fun h=>by rw [ht.S]; exact h
 induction h with
 | dat v d h=>exact .dat _ _ (hS h)
 | agg vs cs h1 h2 ih =>
  simp only [PV.ren,rens_map];refine .agg vs _ (by simpa using h1) fun j v c g1 g2=>?_
  rw [jD,j5] at g2;obtain ⟨c',g2,rfl⟩:=g2;exact ih j v c' g1 g2
 | tup vs cs h1 h2 ih =>
  simp only [PV.ren,rens_map];refine .tup vs _ (by simpa using h1) fun j v c g1 g2=>?_
  rw [jD,j5] at g2;obtain ⟨c',g2,rfl⟩:=g2;exact ih j v c' g1 g2
 | vec v t es v0 n h1 h2 h3 h4 h5 =>
  obtain ⟨k1,k2⟩:=ht.own t h1 _ h3;exact .vec v _ es v0 n k1 (hS h2) k2 h4 h5
 | ptr i o hi =>
  obtain ⟨k1,k2,k3⟩:=ht.blk i hi.1 hi.2;rw [← k3]; exact .ptr _ o ⟨k1,k2⟩
 | iptr b o cs c h1 h2=>exact .iptr b o cs c (fun i hi=>⟨(h1 i hi).1,by rw [ht.S]; exact (h1 i hi).2⟩) (fun i u hu=>hS (h2 i u hu))
 | arr i o len cap hi hc =>
  obtain ⟨k1,k2,k3⟩:=ht.blk i hi.1 hi.2;rw [← k3]; exact .arr _ o len cap ⟨k1,k2⟩ hc
 | fn fi vs cs h1 h2 ih =>
  simp only [PV.ren,rens_map];refine .fn fi vs _ (by simpa using h1) fun j v c g1 g2=>?_
  rw [jD,j5] at g2;obtain ⟨c',g2,rfl⟩:=g2;exact ih j v c' g1 g2
 | ms t gg lo len cp v v0 n h1 h2 h3 h4 h5 =>
  obtain ⟨k1,k2⟩:=ht.own t h1 _ h2;exact .ms _ gg lo len cp v v0 n k1 k2 h3 h4 h5
 | mp t gg j v v0 n h1 h2 h3 h4 h5 =>
  obtain ⟨k1,k2⟩:=ht.own t h1 _ h2;exact .mp _ gg j v v0 n k1 k2 h3 h4 h5
 | mapv i hi =>
  obtain ⟨k1,k2,k3⟩:=ht.blk i hi.1 hi.2;rw [← k3]; exact .mapv _ ⟨k1,k2⟩
 | empv b v h1 h2=>exact .empv b v h1 h2
 | undef v=>exact .undef v

theorem rens_fix {vs:Array Value} {cs:List PV} (h1:vs.size=cs.length) (ih:∀ (j:Nat) v c,vs[j]? = some v→cs[j]? = some c→c.ren f=c):cs.map (PV.ren f)=cs:=by
 apply List.ext_getElem?;intro j;rw [jD];cases hc:cs[j]? with
 | none=>rfl
 | some c =>
  have hj:j < vs.size:=by rw [h1]; exact (List.getElem?_eq_some_iff.1 hc).1
  simp [ih j _ c (jA hj) hc]

theorem RepV.fix (hf:∀ i,i < N→f i=i) {v:Value} {p:PV} (h:RepV g N w v p):p.ren f=p:=by
 induction h with
 | agg vs cs h1 h2 ih=>simp only [PV.ren,rens_map,rens_fix h1 ih]
 | tup vs cs h1 h2 ih=>simp only [PV.ren,rens_map,rens_fix h1 ih]
 | fn fi vs cs h1 h2 ih=>simp only [PV.ren,rens_map,rens_fix h1 ih]
 | vec v t es v0 n h1=>simp [PV.ren,hf t h1]
 | ptr i o hi=>simp [PV.ren,hf i hi.1]
 | arr i o len cap hi=>simp [PV.ren,hf i hi.1]
 | ms t gg lo len cp v v0 n h1=>simp [PV.ren,hf t h1]
 | mp t gg j v v0 n h1=>simp [PV.ren,hf t h1]
 | mapv i hi=>simp [PV.ren,hf i hi.1]
 | _=>rfl

theorem Ql.fix (hH:Ql P g B0 N H w) (hf:∀ i,i < N→f i=i) {i:Nat} {x:Blk} (h:H[i]? = some x):x.ren f=x:=by
 cases x with
 | box cs =>
  obtain ⟨_,⟨vals,ty,_,h2,h3⟩,_⟩:=hH.box i cs h;simp only [Blk.ren,rens_fix h2 fun j v c a b=>(h3 j v c a b).fix hf]
 | tok e n=>rfl
 | mt e n cs =>
  obtain ⟨v0,_,h1⟩:=hH.mt i e n cs h;rcases h1 with ⟨rfl,_⟩|⟨b,l,cap,cur,_,_,_,_,_,q4,_,q6,_,q8⟩|⟨b,l,cap,cur,size,da,_,_,_,_,_,_,rfl,_⟩
  rotate_right
  ·simp only [Blk.ren,zD]; rfl
  ·rfl
  ·have:cs.map (PV.ren f)=cs:=by
    apply List.ext_getElem?;intro j;rw [jD];cases hc:cs[j]? with
    | none=>rfl
    | some c =>
     have hj:j < cur.size:=by have:=(List.getElem?_eq_some_iff.1 hc).1; omega
     simp [(q8 j _ c (jA hj) hc).fix hf]
   simp only [Blk.ren,this]
 | map es =>
  obtain ⟨_,⟨arr,clock,_,h2,h3⟩,_⟩:=hH.map i es h
  have:(es.map fun x=>(x.1,x.2.ren f))=es:=by
   apply List.ext_getElem?;intro j;rw [jD];cases hc:es[j]? with
   | none=>rfl
   | some c =>
    have hj:j < arr.size:=by rw [h2]; exact (List.getElem?_eq_some_iff.1 hc).1
    simp [(h3 j _ c (jA hj) hc).2.fix hf]
  simp only [Blk.ren,this]
 | hole=>rfl

def From (f:Nat→Nat) (g':Gh) (H H':List Blk):Prop :=
 ∀ (i:Nat) y,H'[i]? = some y→(y=.hole∧¬ g'.live i∧g'.own i=none)∨∃ (j:Nat) (x:Blk),H[j]? = some x∧x≠.hole∧f j=i∧y=x.ren f

theorem occ_ren (ht:Turn f g N g' N') (hH:Ql P g B0 N H w) (hl:H.length≤N) (hs:From f g' H H') {i b:Nat} (h:occ g' H' i=some b):∃ j,f j=i∧occ g H j=some b:=by
 have hlt:∀ {x:Blk} {j:Nat},H[j]? = some x→j < N:=fun h=>jP (List.getElem?_eq_some_iff.1 h).1 hl
 unfold occ at h;split at h
 ·rename_i cs hi;rcases hs i _ hi with ⟨e,_⟩|⟨j,x,h1,h2,rfl,h4⟩
  ·cases e
  ·cases x <;> simp only [Blk.ren,reduceCtorEq] at h4
   rw [(ht.blk j (hlt h1) (hH.liveB h1)).2.2] at h;exact ⟨j,rfl,by rw [occ_box h1]; exact h⟩
 ·rename_i e n hi;rcases hs i _ hi with ⟨e,_⟩|⟨j,x,h1,h2,rfl,h4⟩
  ·cases e
  ·cases x <;> simp only [Blk.ren,reduceCtorEq] at h4
   obtain ⟨v0,k1,k2⟩:=hH.tok j _ _ h1;rw [(ht.own j (hlt h1) _ k1).2] at h;exact ⟨j,rfl,by rw [occ_tok h1,k1]; exact h⟩
 ·rename_i e n cs hi;rcases hs i _ hi with ⟨e,_⟩|⟨j,x,h1,h2,rfl,h4⟩
  ·cases e
  ·cases x <;> simp only [Blk.ren,reduceCtorEq] at h4
   obtain ⟨v0,k1,k2⟩:=hH.mt j _ _ _ h1;rw [(ht.own j (hlt h1) _ k1).2] at h;exact ⟨j,rfl,by rw [occ_mt h1,k1]; exact h⟩
 ·rename_i es hi;rcases hs i _ hi with ⟨e,_⟩|⟨j,x,h1,h2,rfl,h4⟩
  ·cases e
  ·cases x <;> simp only [Blk.ren,reduceCtorEq] at h4
   rw [(ht.blk j (hlt h1) (hH.liveM h1)).2.2] at h;exact ⟨j,rfl,by rw [occ_map h1]; exact h⟩
 ·cases h
 ·cases h

theorem Ql.ren (ht:Turn f g N g' N') (hH:Ql P g B0 N H w) (hl:H.length≤N) (hs:From f g' H H'):Ql P g' B0 N' H' w:=by
 have hlt:∀ {x:Blk} {j:Nat},H[j]? = some x→j < N:=fun h=>jP (List.getElem?_eq_some_iff.1 h).1 hl
 refine ⟨fun i cs hi=>?_,fun i e n hi=>?_,fun i e n cs hi=>?_,fun i es hi=>?_,fun i e cs hi=>?_,fun i y hi=>?_,fun i i' b h1 h2=>?_⟩
 ·rcases hs i _ hi with ⟨e,_⟩|⟨j,x,h1,h2,rfl,h4⟩
  ·cases e
  ·cases x <;> simp only [Blk.ren,reduceCtorEq] at h4
   cases h4;rw [(ht.blk j (hlt h1) (hH.liveB h1)).2.2];obtain ⟨b1,⟨vals,ty,b2,b3,b4⟩,b5⟩:=hH.box j _ h1;refine ⟨b1,⟨vals,ty,b2,by simpa using b3,fun k v c g1 g2=>?_⟩,by rw [ht.S]; exact b5⟩;rw [jD,j5] at g2;obtain ⟨c',g2,rfl⟩:=g2;exact (b4 k v c' g1 g2).ren ht
 ·rcases hs i _ hi with ⟨e,_⟩|⟨j,x,h1,h2,rfl,h4⟩
  ·cases e
  ·cases x <;> simp only [Blk.ren,reduceCtorEq] at h4
   cases h4;obtain ⟨v0,k1,k2⟩:=hH.tok j _ _ h1;refine ⟨v0,(ht.own j (hlt h1) _ k1).2,?_⟩;rcases k2 with k2|⟨b,cap,cur,size,a1,a2,a3,a4,a5,a6,a7,a8⟩
   ·exact .inl k2
   ·exact .inr ⟨b,cap,cur,size,a1,a2,a3,a4,a5,a6,a7,by rw [ht.S]; exact a8⟩
 ·rcases hs i _ hi with ⟨e,_⟩|⟨j,x,h1,h2,rfl,h4⟩
  ·cases e
  ·cases x <;> simp only [Blk.ren,reduceCtorEq] at h4
   cases h4;obtain ⟨v0,k1,k2⟩:=hH.mt j _ _ _ h1;refine ⟨v0,(ht.own j (hlt h1) _ k1).2,?_⟩;rcases k2 with ⟨rfl,k2⟩|⟨b,l,cap,cur,a1,q0,q1,q2,q3,q4,q5,q6,q7,q8⟩|⟨b,l,cap,cur,size,da,a1,q0,q1,q2,q3,q3',rfl,q4,q4',q5,q6,q7,q8⟩
   ·exact .inl ⟨rfl,k2⟩
   ·refine .inr (.inl ⟨b,l,cap,cur,a1,q0,q1,q2,q3,⟨by simpa using q4.1,by
     rw [List.all_map,j8];intro x hx;have:=List.all_eq_true.1 q4.2 x hx;cases x <;> first|exact this|rfl⟩,q5,q6,by rw [ht.S]; exact q7,fun k v c g1 g2=>?_⟩)
    rw [jD,j5] at g2;obtain ⟨c',g2,rfl⟩:=g2;exact (q8 k v c' g1 g2).ren ht
   ·refine .inr (.inr ⟨b,l,cap,cur,size,da,a1,q0,q1,q2,q3,q3',by rw [zD]; rfl,q4,q4',q5,q6,by rw [ht.S]; exact q7,fun i j d u v g1 g2 g3=>by rw [ht.S]; exact q8 i j d u v g1 g2 g3⟩)
 ·rcases hs i _ hi with ⟨e,_⟩|⟨j,x,h1,h2,rfl,h4⟩
  ·cases e
  ·cases x <;> simp only [Blk.ren,reduceCtorEq] at h4
   cases h4;rw [(ht.blk j (hlt h1) (hH.liveM h1)).2.2];obtain ⟨b1,⟨arr,clock,b2,b3,b4⟩,b5⟩:=hH.map j _ h1;refine ⟨b1,⟨arr,clock,b2,by simpa using b3,fun k v c g1 g2=>?_⟩,by rw [ht.S]; exact b5⟩;rw [jD,j5] at g2;obtain ⟨c',g2,rfl⟩:=g2;exact ⟨(b4 k v c' g1 g2).1,(b4 k v c' g1 g2).2.ren ht⟩
 ·rcases hs i _ hi with ⟨e,_⟩|⟨j,x,h1,h2,rfl,h4⟩
  ·cases e
  ·cases x <;> simp only [Blk.ren,reduceCtorEq] at h4
   cases h4;obtain ⟨v0,k1,k2⟩:=hH.mt0 j _ _ h1;exact ⟨v0,(ht.own j (hlt h1) _ k1).2,k2⟩
 ·rcases hs i _ hi with ⟨rfl,h1,h2⟩|⟨j,x,h1,h2,rfl,rfl⟩
  ·exact ⟨fun h=>h.elim,fun _=>⟨h1,h2⟩⟩
  ·refine ⟨fun hp=>(ht.blk j (hlt h1) ((hH.live j x h1).1 ?_)).2.1,fun hx=>absurd ?_ h2⟩
   ·cases x <;> first|trivial|exact hp
   ·cases x <;> simp [Blk.ren] at hx ⊢
 ·obtain ⟨j,rfl,a1⟩:=occ_ren ht hH hl hs h1;obtain ⟨j',rfl,a2⟩:=occ_ren ht hH hl hs h2;rw [hH.sep j j' b a1 a2]
end

theorem wdn_wup {b n i:Nat} (h:b≤n):wdn b n (wup b n i)=i:=by
 unfold wdn wup;split <;> (try split) <;> (try split) <;> (try split) <;> omega
theorem wup_wdn {b n i:Nat} (h:b≤n):wup b n (wdn b n i)=i:=by
 unfold wdn wup;split <;> (try split) <;> (try split) <;> (try split) <;> omega
mutual
theorem ren_ren {f k:Nat→Nat} (h:∀ i,k (f i)=i):∀ p:PV,(p.ren f).ren k=p
 | .dat d=>rfl
 | .agg cs=>by simp only [PV.ren]; rw [rens_rens h cs]
 | .tup vs=>by simp only [PV.ren]; rw [rens_rens h vs]
 | .vec t es=>by simp only [PV.ren,h]
 | .ptr i o=>by simp only [PV.ren,h]
 | .iptr cs=>rfl
 | .arr i o l c=>by simp only [PV.ren,h]
 | .fn g cap=>by simp only [PV.ren]; rw [rens_rens h cap]
 | .ms t g lo len cap=>by simp only [PV.ren,h]
 | .mp t g j=>by simp only [PV.ren,h]
 | .mapv i=>by simp only [PV.ren,h]
 | .empv b=>rfl
 | .undef=>rfl
theorem rens_rens {f k:Nat→Nat} (h:∀ i,k (f i)=i):∀ l:List PV,PV.rens k (PV.rens f l)=l
 | []=>rfl
 | c::r=>by simp only [PV.rens]; rw [ren_ren h c,rens_rens h r]
end
theorem blk_ren {f k:Nat→Nat} (h:∀ i,k (f i)=i) (x:Blk):(x.ren f).ren k=x:=by
 cases x with
 | box cs=>simp only [Blk.ren,zD]; congr 1; exact (List.map_congr_left fun c _=>ren_ren h c).trans (List.map_id _)
 | tok e n=>rfl
 | mt e g cs=>simp only [Blk.ren,zD]; congr 1; exact (List.map_congr_left fun c _=>ren_ren h c).trans (List.map_id _)
 | map es=>simp only [Blk.ren,zD]; congr 1; exact (List.map_congr_left fun c _=>by simp only [Function.comp,ren_ren h]; rfl).trans (List.map_id _)
 | hole=>rfl
theorem hole_ren {f:Nat→Nat} {x:Blk} (h:x.ren f=.hole):x=.hole:=by cases x <;> simp [Blk.ren] at h ⊢
def Gh.via (g:Gh) (k:Nat→Nat):Gh:={ blk:=fun i=>g.blk (k i),live:=fun i=>g.live (k i),own:=fun i=>g.own (k i),S:=g.S }
section
variable {P:Program} {B0 N:Nat} {g:Gh} {H H':List Blk} {w:World} {f k:Nat→Nat}
theorem turn_via (h:∀ i,k (f i)=i) (hN:∀ i,i < N→f i < N):Turn f g N (g.via k) N :=
 ⟨rfl,fun i hi hl=>⟨hN i hi,by show g.live (k (f i)); rw [h]; exact hl,by show g.blk (k (f i))=_; rw [h]⟩,fun t ht x hx=>⟨hN t ht,by show g.own (k (f t))=_; rw [h]; exact hx⟩⟩
theorem from_via (h:∀ i,f (k i)=i) (hH:Ql P g B0 N H w) (hget:∀ i,H'[i]? = (H[k i]?).map (Blk.ren f)):From f (g.via k) H H':=fun i y hi=>by
 rw [hget,j5] at hi;obtain ⟨x,hx,rfl⟩:=hi;by_cases hh:x=.hole
 ·subst hh;exact .inl ⟨rfl,(hH.live _ _ hx).2 rfl⟩
 ·exact .inr ⟨k i,x,hx,hh,h i,rfl⟩
end
theorem frameRun_app {call:CallF} {f:FuncId} {args:List PV} {m:Nat} {A Y R:List Blk} {p:PV} (hm:A.length=m) (h:frameRun call f args m A=some (p,R)):frameRun call f args m (A++Y)=some (p,R++Y):=by
 have h1:(A++Y).take m=A:=by rw [← hm]; exact List.take_left
 have h2:(A++Y).drop m=Y:=by rw [← hm]; exact List.drop_left
 have h3:A.take m=A:=by rw [← hm]; exact List.take_length
 have h4:A.drop m=[]:=by rw [← hm]; exact List.drop_length
 unfold frameRun at h ⊢;rw [h1,h2];rw [h3,h4] at h;split at h
 case isFalse=>cases h
 rename_i hc;rw [if_pos ⟨by rw [jV]; omega,hc.2⟩];split at h
 case h_2=>cases h
 rename_i p1 H1 hcl;split at h
 case isFalse=>cases h
 rename_i hq;rw [if_pos hq];simp only [jU,j9,jI] at h;rw [h.1,h.2]
theorem win_get {A B C:List Blk} {b m i:Nat} {F:Blk→Blk} (hA:A.length=b) (hB:B.length=m):(B.map F++(A.map F++C.map F))[i]? = ((A++(B++C))[wdn b (b+m) i]?).map F:=by
 unfold wdn;rw [show b+m - b=m by omega];by_cases h1:i < m
 ·rw [if_pos h1,zM (by simpa [hB] using h1),zL y5,hA,show i+b - b=i by omega,zM y5,jD]
 ·rw [if_neg h1,zL (by simp [hB]; omega),jY,hB];by_cases h2:i < b+m
  ·rw [if_pos h2,zM (by simp [hA]; omega),zM y5,jD]
  ·rw [if_neg h2,zL (by simp [hA]; omega),jY,hA,zL y5,hA,zL y5,hB,jD];congr 2; omega
theorem win_back {A C R:List Blk} {b m i:Nat} {φ ψ:Nat→Nat} (hA:A.length=b) (hR:R.length=m) (h:∀ i,ψ (φ i)=i):(A++R.map (Blk.ren ψ)++C)[i]? = ((R++(A.map (Blk.ren φ)++C.map (Blk.ren φ)))[wup b (b+m) i]?).map (Blk.ren ψ):=by
 have hid:∀ o:Option Blk,(o.map (Blk.ren φ)).map (Blk.ren ψ)=o:=fun o=>by cases o <;> simp [blk_ren h]
 unfold wup;rw [List.append_assoc,show b+m - b=m by omega];by_cases h1:i < b
 ·rw [if_pos h1,zM y5,zL y5,hR,show i+m - m=i by omega,zM y6,jD,hid]
 ·rw [if_neg h1,zL y5,hA];by_cases h2:i < b+m
  ·rw [if_pos h2,zM y6,zM y5,jD]
  ·rw [if_neg h2,zL y6,jY,hR,zL y5,hR,zL y6,jY,hA,jD,hid];congr 1; omega
section
variable {P:Program} {B0:Nat} {w0:World} {S0:Nat→Nat→Prop} {pf:FuncId→Bool} {call:CallF}
theorem win_ok (hcall:CallOK P pf call) {f:FuncId} {args:List PV} {b n:Nat} {H H2:List Blk} {g:Gh} {w:World} {p:PV} {vals:Array Value} (hf:winRun call f args b n H=some (p,H2))
  (hn:vals.size=args.length) (hr:∀ (j:Nat) v q,vals[j]? = some v→args[j]? = some q→RepV g H.length w v q) (hH:Ql P g B0 H.length H w) (hi:Inv B0 w0 S0 g w) (hG:GlobRep g w) :
  (∃ fn c, P.funcs[f]? = some fn ∧ fn.body = some c ∧ (fn.name == "runtime.NumGoroutine") = false) ∧ Calls P f vals w fun e w' => ∃ v g', e = .returned v ∧ Good P B0 w0 S0 H g w p H2 v g' w' := by
 unfold winRun at hf;split at hf
 case isFalse=>cases hf
 rename_i hc;obtain ⟨hbn,hnl⟩:=hc;split at hf
 case h_2=>cases hf
 rename_i p1 R hfr;simp only [j9,jI] at hf;obtain ⟨rfl,rfl⟩:=hf;obtain ⟨m,rfl⟩:∃ m,n=b+m:=⟨n - b,by omega⟩
 obtain ⟨A,B,C,rfl,hA,hB⟩:∃ A B C,H=A++(B++C)∧A.length=b∧B.length=m:=⟨H.take b,(H.drop b).take m,H.drop (b+m),by
  rw [show H.drop (b+m)=(H.drop b).drop m by rw [List.drop_drop],y3,y3],by rw [zT]; omega,by rw [zT,zZ]; omega⟩
 have t1:((A++(B++C)).take (b+m)).drop b=B:=by
  rw [← hA,← hB,← List.append_assoc,← jV,List.take_left,List.drop_left]
 have t2:(A++(B++C)).take b=A:=by rw [← hA]; exact List.take_left
 have t3:(A++(B++C)).drop (b+m)=C:=by rw [← hA,← hB,← List.append_assoc,← jV]; exact List.drop_left
 rw [t1,show b+m - b=m by omega] at hfr;rw [t2,t3];have hud:∀ i,wdn b (b+m) (wup b (b+m) i)=i:=fun i=>wdn_wup hbn
 have hdu:∀ i,wup b (b+m) (wdn b (b+m) i)=i:=fun i=>wup_wdn hbn
 have hN:(A++(B++C)).length=b+m+C.length:=by simp [hA,hB]; omega
 have nu:∀ i,i < (A++(B++C)).length→wup b (b+m) i < (A++(B++C)).length:=fun i h=>by rw [hN] at h ⊢; unfold wup; split <;> (try split) <;> omega
 have nd:∀ i,i < (A++(B++C)).length→wdn b (b+m) i < (A++(B++C)).length:=fun i h=>by rw [hN] at h ⊢; unfold wdn; split <;> (try split) <;> omega
 have ht:=turn_via (g:=g) hud nu;have hfrom:=from_via (f:=wup b (b+m)) (k:=wdn b (b+m)) (H':=B.map (Blk.ren (wup b (b+m)))++(A.map (Blk.ren (wup b (b+m)))++C.map (Blk.ren (wup b (b+m))))) hdu hH (fun i=>win_get hA hB);have hl1:(B.map (Blk.ren (wup b (b+m)))++(A.map (Blk.ren (wup b (b+m)))++C.map (Blk.ren (wup b (b+m))))).length=(A++(B++C)).length:=by simp [hA,hB]; omega
 have hH1:=Ql.ren ht hH (j7 _) hfrom;have hfr2:=frameRun_app (Y:=A.map (Blk.ren (wup b (b+m)))++C.map (Blk.ren (wup b (b+m)))) (by simpa using hB) hfr
 obtain ⟨k1,k2⟩:=frame_ok hcall (B0:=B0) (w0:=w0) (S0:=S0) (g:=g.via (wdn b (b+m))) (w:=w) (vals:=vals) hfr2 (by simpa using hn) (fun j v q a1 a2=>by
  rw [jD,j5] at a2;obtain ⟨q',a2,rfl⟩:=a2;rw [hl1];exact (hr j v q' a1 a2).ren ht) (by rw [hl1]; exact hH1) ⟨hi.below,hi.size,hi.old,hi.lt⟩ (hG.ofS fun _ _ h=>h)
 refine ⟨k1,k2.mono fun e w' he=>?_⟩;obtain ⟨v,g1,rfl,hg⟩:=he
 have hRl:R.length=m:=by
  unfold frameRun at hfr;split at hfr
  case isFalse=>cases hfr
  split at hfr
  case h_2=>cases hfr
  rename_i p2 H3 hcl;split at hfr
  case isFalse=>cases hfr
  simp only [j9,jI] at hfr;have:=hg.len;rw [hl1,hN,← hfr.2] at this;rw [← hfr.2];simp only [jV,zT,zZ,jY,hA,hB] at this ⊢;omega
 have hl2:(R++(A.map (Blk.ren (wup b (b+m)))++C.map (Blk.ren (wup b (b+m))))).length=(A++(B++C)).length:=by simp [hA,hB,hRl]; omega
 have hl3:(A++R.map (Blk.ren (wdn b (b+m)))++C).length=(A++(B++C)).length:=by simp [hA,hB,hRl]
 have hrep:=hg.rep;have hheap:=hg.heap;rw [hl2] at hrep hheap;have ht2:=turn_via (g:=g1) hdu nd;have hfrom2:=from_via (f:=wdn b (b+m)) (k:=wup b (b+m)) (H':=A++R.map (Blk.ren (wdn b (b+m)))++C) hud hheap (fun i=>win_back hA hRl hud);have hext:=hg.ext;rw [hl1] at hext;refine ⟨v,g1.via (wup b (b+m)),rfl,⟨hext.S,hext.cell,fun i hi2 hl=>?_,fun t ht3 v' n' ho=>?_⟩,by omega,?_,?_,⟨hg.inv.below,hg.inv.size,hg.inv.old,hg.inv.lt⟩,⟨hg.fr.size,fun x hx hnx=>?_,fun i x ho hx=>?_,fun x o hs=>?_⟩⟩
 ·obtain ⟨a1,a2⟩:=hext.blk (wup b (b+m) i) (nu i hi2) (by show g.live (wdn b (b+m) (wup b (b+m) i)); rw [hud]; exact hl);exact ⟨a1.trans (by show g.blk (wdn b (b+m) (wup b (b+m) i))=_; rw [hud]),a2⟩
 ·exact hext.own (wup b (b+m) t) (nu t ht3) v' n' (by show g.own (wdn b (b+m) (wup b (b+m) t))=_; rw [hud]; exact ho)
 ·rw [hl3]; exact hrep.ren ht2
 ·rw [hl3]; exact Ql.ren ht2 hheap (by rw [hl2]; exact j7 _) hfrom2
 ·refine hg.fr.keep x hx fun i hi2=>?_
  obtain ⟨j,_,hj⟩:=occ_ren ht hH (j7 _) hfrom hi2;exact hnx j hj
 ·obtain ⟨j,_,hj⟩:=occ_ren ht2 hheap (by rw [hl2]; exact j7 _) hfrom2 ho;obtain ⟨j',hj'⟩:=hg.fr.occ j x hj hx;obtain ⟨j2,_,hj2⟩:=occ_ren ht hH (j7 _) hfrom hj';exact ⟨j2,hj2⟩
 ·rcases hg.fr.pub x o hs with h|h|⟨j,h⟩
  ·exact .inl h
  ·exact .inr (.inl h)
  ·obtain ⟨j2,_,hj2⟩:=occ_ren ht hH (j7 _) hfrom h;exact .inr (.inr ⟨j2,hj2⟩)
theorem app_get2 {A C:List Blk} {i:Nat} {x:Blk} (h:(A++C)[i]? = some x):(i < A.length∧A[i]? = some x)∨∃ j,i=j+A.length∧C[j]? = some x:=by
 rcases app_get rfl h with h|⟨h1,h2⟩
 ·exact .inl h
 ·exact .inr ⟨i - A.length,by omega,h2⟩
theorem new_ok (hcall:CallOK P pf call) {f:FuncId} {args:List PV} {H H2:List Blk} {g:Gh} {w:World} {p:PV} {vals:Array Value} (hf:newRun call f args H=some (p,H2))
  (hn:vals.size=args.length) (hr:∀ (j:Nat) v q,vals[j]? = some v→args[j]? = some q→RepV g H.length w v q) (hH:Ql P g B0 H.length H w) (hi:Inv B0 w0 S0 g w) (hG:GlobRep g w) :
  (∃ fn c, P.funcs[f]? = some fn ∧ fn.body = some c ∧ (fn.name == "runtime.NumGoroutine") = false) ∧ Calls P f vals w fun e w' => ∃ v g', e = .returned v ∧ Good P B0 w0 S0 H g w p H2 v g' w' := by
 unfold newRun at hf;split at hf
 case isFalse=>cases hf
 rename_i hba;split at hf
 case h_2=>cases hf
 rename_i p1 R hcl;simp only [j9,jI] at hf;obtain ⟨rfl,rfl⟩:=hf;obtain ⟨k1,_,k3⟩:=hcall _ _ _ _ _ hcl;refine ⟨k1,(k3 B0 w0 S0 g w vals hn (fun j v q a1 a2=>(hr j v q a1 a2).turn (Alike.refl 0 g) (j7 0) (unders_get hba a2)) (hH.first (n:=0) (Alike.refl 0 g) (j7 0) rfl) hi hG).mono fun e w' he=>?_⟩;obtain ⟨v,g1,rfl,hg⟩:=he
 let g2:Gh:={ blk:=fun i=>if i < H.length then g.blk i else g1.blk (i - H.length),live:=fun i=>if i < H.length then g.live i else g1.live (i - H.length),own:=fun i=>if i < H.length then g.own i else g1.own (i - H.length),S:=g1.S }
 have n1:∀ i,¬ (i+H.length < H.length):=fun i=>by omega
 have n2:∀ i,i+H.length - H.length=i:=fun i=>by omega
 have eb:∀ i,g2.blk (i+H.length)=g1.blk i:=fun i=>by show (if _ then _ else _)=_; rw [if_neg (n1 i),n2]
 have el:∀ i,g2.live (i+H.length)=g1.live i:=fun i=>by show (if _ then _ else _)=_; rw [if_neg (n1 i),n2]
 have eo:∀ i,g2.own (i+H.length)=g1.own i:=fun i=>by show (if _ then _ else _)=_; rw [if_neg (n1 i),n2]
 have ob:∀ i,i < H.length→g2.blk i=g.blk i:=fun i h=>if_pos h
 have ol:∀ i,i < H.length→g2.live i=g.live i:=fun i h=>if_pos h
 have oo:∀ i,i < H.length→g2.own i=g.own i:=fun i h=>if_pos h
 have hlen:(H++R.map (Blk.ren (·+H.length))).length=R.length+H.length:=by simp; omega
 have ht:Turn (·+H.length) g1 R.length g2 (R.length+H.length) :=
  ⟨rfl,fun i hi2 hl=>⟨by show i+H.length < _; omega,by rw [el]; exact hl,eb i⟩,fun t ht3 x hx=>⟨by show t+H.length < _; omega,by rw [eo]; exact hx⟩⟩
 have hext:Ext H.length g w g2 w':=⟨hg.ext.S,hg.ext.cell,fun i hi2 hl=>⟨ob i hi2,by rw [ol i hi2]; exact hl⟩,fun t ht3 v' n' ho=>⟨v',n',by rw [oo t ht3]; exact ho,j7 _,fun _=>rfl⟩⟩;have hle:H.length≤R.length+H.length:=Nat.le_add_left _ _;have hno:∀ i b,occ g ([]:List Blk) i≠some b:=fun i b h=>by simp [occ] at h
 have hocc:∀ {i b:Nat},occ g H i=some b→b < w.heap.size:=fun h=>(hH.occ_lt h).2.1
 have hkeep:∀ {i b:Nat},occ g H i=some b→w'.heap[b]? = w.heap[b]?:=fun ho=>hg.fr.keep _ (hocc ho) fun i=>hno i _
 have hpub:∀ {i b:Nat},occ g H i=some b→∀ o,g2.S b o→g.S b o:=fun ho o hs=>by
  rcases hg.fr.pub _ o hs with h|h|⟨j,h⟩
  ·exact h
  ·have:=hocc ho; omega
  ·exact absurd h (hno j _)
 have hnew:∀ {j:Nat} {y:Blk},(R.map (Blk.ren (·+H.length)))[j]? = some y→∃ x,R[j]? = some x∧y=x.ren (·+H.length):=fun h=>by
  rw [jD,j5] at h;obtain ⟨x,h1,h2⟩:=h;exact ⟨x,h1,h2.symm⟩
 have hheap:Ql P g2 B0 (R.length+H.length) (H++R.map (Blk.ren (·+H.length))) w':=by
  have hsplit:∀ {i b:Nat},occ g2 (H++R.map (Blk.ren (·+H.length))) i=some b→(i < H.length∧occ g H i=some b)∨∃ j,i=j+H.length∧occ g1 R j=some b:=fun {i b} h=>by
   by_cases c:i < H.length
   ·refine .inl ⟨c,?_⟩;rw [← h];unfold occ;rw [zM c,ob i c,oo i c]
   ·obtain ⟨j,rfl⟩:∃ j,i=j+H.length:=⟨i - H.length,by omega⟩;refine .inr ⟨j,rfl,?_⟩;rw [← h];unfold occ;rw [zL y5,n2,jD,eb,eo];cases R[j]? with
    | none=>rfl
    | some x=>cases x <;> rfl
  refine ⟨fun i cs h=>?_,fun i e k h=>?_,fun i e k cs h=>?_,fun i es h=>?_,fun i e cs h=>?_,fun i x h=>?_,fun i j b h1 h2=>?_⟩
  ·rcases app_get2 h with ⟨hlt,hx⟩|⟨j,rfl,hx⟩
   ·obtain ⟨h1,⟨vals',ty,h2,h3,h4⟩,h5⟩:=hH.box i cs hx;rw [ob i hlt];exact ⟨h1,⟨vals',ty,by rw [hkeep (occ_box hx),h2],h3,fun j v c a1 a2=>(h4 j v c a1 a2).ext hext hle⟩,fun o ho=>h5 o (hpub (occ_box hx) o ho)⟩
   ·obtain ⟨x,h3,h4⟩:=hnew hx;cases x <;> simp only [Blk.ren,reduceCtorEq] at h4
    cases h4;rw [eb];obtain ⟨b1,⟨vals,ty,b2,b3,b4⟩,b5⟩:=hg.heap.box j _ h3;refine ⟨b1,⟨vals,ty,b2,by simpa using b3,fun k v c q1 q2=>?_⟩,b5⟩;rw [jD,j5] at q2;obtain ⟨c',q2,rfl⟩:=q2;exact (b4 k v c' q1 q2).ren ht
  ·rcases app_get2 h with ⟨hlt,hx⟩|⟨j,rfl,hx⟩
   ·obtain ⟨v0,h1,h2⟩:=hH.tok i e k hx;have ho:∀ b,v0.ownBlock=some b→occ g H i=some b:=fun b hb=>by rw [occ_tok hx,h1]; exact hb
    exact ⟨v0,by rw [oo i hlt]; exact h1,h2.keep (fun b hb=>hkeep (ho b hb)) (fun b hb=>hpub (ho b hb))⟩
   ·obtain ⟨x,h3,h4⟩:=hnew hx;cases x <;> simp only [Blk.ren,reduceCtorEq] at h4
    cases h4;obtain ⟨v0,k1,k2⟩:=hg.heap.tok j _ _ h3;refine ⟨v0,by rw [eo]; exact k1,?_⟩;rcases k2 with k2|⟨b,cap,cur,size,a1,a2,a3,a4,a5,a6,a7,a8⟩
    ·exact .inl k2
    ·exact .inr ⟨b,cap,cur,size,a1,a2,a3,a4,a5,a6,a7,a8⟩
  ·rcases app_get2 h with ⟨hlt,hx⟩|⟨j,rfl,hx⟩
   ·obtain ⟨v0,h1,h2⟩:=hH.mt i e k cs hx;have ho:∀ b,mtBlock v0=some b→occ g H i=some b:=fun b hb=>by rw [occ_mt hx,h1]; exact hb
    exact ⟨v0,by rw [oo i hlt]; exact h1,h2.keep hext hle (fun b hb=>hkeep (ho b hb)) (fun b hb=>hpub (ho b hb))⟩
   ·obtain ⟨x,h3,h4⟩:=hnew hx;cases x <;> simp only [Blk.ren,reduceCtorEq] at h4
    cases h4;obtain ⟨v0,k1,k2⟩:=hg.heap.mt j _ _ _ h3;refine ⟨v0,by rw [eo]; exact k1,?_⟩;rcases k2 with ⟨rfl,k2⟩|⟨b,l,cap,cur,a1,q0,q1,q2,q3,q4,q5,q6,q7,q8⟩|⟨b,l,cap,cur,size,da,a1,q0,q1,q2,q3,q3',rfl,q4,q4',q5,q6,q7,q8⟩
    ·exact .inl ⟨rfl,k2⟩
    ·refine .inr (.inl ⟨b,l,cap,cur,a1,q0,q1,q2,q3,⟨by simpa using q4.1,by
      rw [List.all_map,j8];intro x hx;have:=List.all_eq_true.1 q4.2 x hx;cases x <;> first|exact this|rfl⟩,q5,q6,q7,fun k v c z1 z2=>?_⟩)
     rw [jD,j5] at z2;obtain ⟨c',z2,rfl⟩:=z2;exact (q8 k v c' z1 z2).ren ht
    ·exact .inr (.inr ⟨b,l,cap,cur,size,da,a1,q0,q1,q2,q3,q3',by rw [zD]; rfl,q4,q4',q5,q6,q7,q8⟩)
  ·rcases app_get2 h with ⟨hlt,hx⟩|⟨j,rfl,hx⟩
   ·obtain ⟨h1,⟨arr,clock,h2,h3,h4⟩,h5⟩:=hH.map i es hx;rw [ob i hlt];exact ⟨h1,⟨arr,clock,⟨by rw [hkeep (occ_map hx),h2.1],h2.2⟩,h3,fun j v c a1 a2=>⟨(h4 j v c a1 a2).1,(h4 j v c a1 a2).2.ext hext hle⟩⟩,fun o ho=>h5 o (hpub (occ_map hx) o ho)⟩
   ·obtain ⟨x,h3,h4⟩:=hnew hx;cases x <;> simp only [Blk.ren,reduceCtorEq] at h4
    cases h4;rw [eb];obtain ⟨b1,⟨arr,clock,b2,b3,b4⟩,b5⟩:=hg.heap.map j _ h3;refine ⟨b1,⟨arr,clock,b2,by simpa using b3,fun k v c q1 q2=>?_⟩,b5⟩;rw [jD,j5] at q2;obtain ⟨c',q2,rfl⟩:=q2;exact ⟨(b4 k v c' q1 q2).1,(b4 k v c' q1 q2).2.ren ht⟩
  ·rcases app_get2 h with ⟨hlt,hx⟩|⟨j,rfl,hx⟩
   ·obtain ⟨v0,h1,h2⟩:=hH.mt0 i e cs hx;exact ⟨v0,by rw [oo i hlt]; exact h1,h2⟩
   ·obtain ⟨x,h3,h4⟩:=hnew hx;cases x <;> simp only [Blk.ren,reduceCtorEq] at h4
    cases h4;obtain ⟨v0,k1,k2⟩:=hg.heap.mt0 j _ _ h3;exact ⟨v0,by rw [eo]; exact k1,k2⟩
  ·rcases app_get2 h with ⟨hlt,hx⟩|⟨j,rfl,hx⟩
   ·rw [ol i hlt,oo i hlt];exact hH.live i x hx
   ·obtain ⟨y,h3,rfl⟩:=hnew hx;obtain ⟨q1,q2⟩:=hg.heap.live j y h3;rw [el,eo];refine ⟨fun hp=>q1 ?_,fun hx2=>q2 (hole_ren hx2)⟩;cases y <;> first|trivial|exact hp
  ·rcases hsplit h1 with ⟨c1,o1⟩|⟨i',rfl,o1⟩ <;> rcases hsplit h2 with ⟨c2,o2⟩|⟨j',rfl,o2⟩
   ·exact hH.sep i j b o1 o2
   ·obtain ⟨z,hz⟩:=hg.fr.occ j' b o2 (hocc o1);exact absurd hz (hno z b)
   ·obtain ⟨z,hz⟩:=hg.fr.occ i' b o1 (hocc o2);exact absurd hz (hno z b)
   ·rw [hg.heap.sep i' j' b o1 o2]
 refine ⟨v,g2,rfl,hext,by omega,by rw [hlen]; exact hg.rep.ren ht,by rw [hlen]; exact hheap,⟨hg.inv.below,hg.inv.size,hg.inv.old,hg.inv.lt⟩,⟨hg.fr.size,fun b hb hnb=>hg.fr.keep b hb fun i=>hno i b,fun i b ho hb=>?_,fun b o hs=>?_⟩⟩
 ·by_cases c:i < H.length
  ·refine ⟨i,?_⟩;rw [← ho];unfold occ;rw [zM c,ob i c,oo i c]
  ·obtain ⟨j,rfl⟩:∃ j,i=j+H.length:=⟨i - H.length,by omega⟩
   have h2:occ g1 R j=some b:=by
    rw [← ho];unfold occ;rw [zL y5,n2,jD,eb,eo];cases R[j]? with
    | none=>rfl
    | some x=>cases x <;> rfl
   obtain ⟨z,hz⟩:=hg.fr.occ j b h2 hb;exact absurd hz (hno z b)
 ·rcases hg.fr.pub b o hs with h|h|⟨j,h⟩
  ·exact .inl h
  ·exact .inr (.inl h)
  ·exact absurd h (hno j b)
end
end Go.Pm
