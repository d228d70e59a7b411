/-
 The pure machine: indices of the heap renamed; an operation that makes the heap longer does so at any place.
-/
import Derived.Test.YtblnlodlilcnaaaGreatPmDraw
namespace Go.Pm
open Go Go.RowKit
set_option linter.unusedVariables false
set_option linter.unusedSimpArgs false

mutual
def PV.ren (f:Nat→Nat):PV→PV
 | .dat d=>.dat d
 | .agg cs=>.agg (PV.rens f cs)
 | .tup vs=>.tup (PV.rens f vs)
 | .vec t es=>.vec (f t) es
 | .ptr i o=>.ptr (f i) o
 | .iptr cs=>.iptr cs
 | .arr i o l c=>.arr (f i) o l c
 | .fn g cap=>.fn g (PV.rens f cap)
 | .ms t g lo len cap=>.ms (f t) g lo len cap
 | .mp t g j=>.mp (f t) g j
 | .mapv i=>.mapv (f i)
 | .empv b=>.empv b
 | .undef=>.undef
def PV.rens (f:Nat→Nat):List PV→List PV
 | []=>[]
 | c::r=>PV.ren f c::PV.rens f r
end
theorem rens_map (f:Nat→Nat):∀ cs,PV.rens f cs=cs.map (PV.ren f)
 | []=>rfl
 | c::r=>by simp [PV.rens,rens_map f r]

def Blk.ren (f:Nat→Nat):Blk→Blk
 | .box cs=>.box (cs.map (PV.ren f))
 | .tok e n=>.tok e n
 | .mt e g cs=>.mt e g (cs.map (PV.ren f))
 | .map es=>.map (es.map fun x=>(x.1,x.2.ren f))
 | .hole=>.hole

theorem map_dat (f:Nat→Nat) (ds:List Dat):(ds.map PV.dat).map (PV.ren f)=ds.map PV.dat:=by
 simp [PV.ren]

theorem cells_ren (f:Nat→Nat) (p:PV):(p.ren f).cells=p.cells.map (PV.ren f):=by
 cases p <;> simp [PV.ren,PV.cells,rens_map]

theorem allDat_ren (f:Nat→Nat):∀ cs,allDat (cs.map (PV.ren f))=allDat cs
 | []=>rfl
 | .dat d::r=>by simp [allDat,PV.ren,allDat_ren f r]
 | .agg _::_|.tup _::_|.vec ..::_|.ptr ..::_|.iptr _::_|.arr ..::_|.fn ..::_|.ms ..::_|.mp ..::_|.mapv _::_|.empv _::_|.undef::_=>by simp [allDat,PV.ren]

theorem mkAgg_ren (f:Nat→Nat) (cs:List PV):mkAgg (cs.map (PV.ren f))=(mkAgg cs).ren f:=by
 unfold mkAgg
 rw [allDat_ren]
 cases allDat cs with
 | some ds=>rfl
 | none=>simp [PV.ren,rens_map]

theorem paste_map {α β:Type} (f:α→β) (cs vs:List α) (o:Nat):paste (cs.map f) o (vs.map f)=(paste cs o vs).map (List.map f):=by
 unfold paste
 simp only [List.length_map]
 split <;> simp

theorem fillA_map {α β:Type} (f:α→β) (pl:Nat→Option (Nat × Nat)):∀ (ps:List (Nat × List α)) (cs:List α),fillA pl (cs.map f) (ps.map fun x=>(x.1,x.2.map f))=(fillA pl cs ps).map (List.map f)
 | [],cs=>rfl
 | (i,vs)::r,cs=>by
  simp only [List.map_cons,fillA]
  cases pl i with
  | none=>rfl
  | some x =>
   simp only [List.length_map]
   split
   ·rw [paste_map]
    cases paste cs x.1 vs with
    | none=>rfl
    | some cs'=>simpa using fillA_map f pl r cs'
   ·rfl

theorem ren_nil {f:Nat→Nat} {c:PV} (h:c.ren f=.dat (.lst [])):c=.dat (.lst []):=by
 cases c <;> simp_all [PV.ren]

theorem tokCells_ren (f:Nat→Nat):∀ (ow:List (Nat × TypeId)) (k k2:Nat) (cs2 cs':List PV) (bs:List Blk),(∀ i,f (k2+i)=k+i)→tokCells k (cs2.map (PV.ren f)) ow=some (cs',bs) →
  ∃ cs2',tokCells k2 cs2 ow=some (cs2',bs)∧cs'=cs2'.map (PV.ren f)
 | [],k,k2,cs2,cs',bs,hf,h=>by cases h; exact ⟨cs2,rfl,rfl⟩
 | (j,e)::r,k,k2,cs2,cs',bs,hf,h=>by
  unfold tokCells at h ⊢
  split at h
  ·rename_i hj
   rw [List.getElem?_map,Option.map_eq_some_iff] at hj
   obtain ⟨c,hc,hj⟩:=hj
   rw [ren_nil hj] at hc
   rw [hc]
   split at h
   ·rename_i cs1 bs1 hr
    cases h
    have e1:(cs2.map (PV.ren f)).set j (.vec k [])=(cs2.set j (.vec k2 [])).map (PV.ren f):=by
     rw [List.map_set]; simp [PV.ren]
     have:=hf 0; simp at this; rw [this]
    rw [e1] at hr
    obtain ⟨cs2',h1,h2⟩:=tokCells_ren f r (k+1) (k2+1) _ _ _ (fun i=>by have:=hf (1+i); rw [Nat.add_assoc,Nat.add_assoc]; exact this) hr
    exact ⟨cs2',by simp only [h1],h2⟩
   ·cases h
  ·cases h

theorem tokCells_toks:∀ (ow:List (Nat × TypeId)) (k:Nat) (cs cs':List PV) (bs:List Blk),tokCells k cs ow=some (cs',bs)→∀ f,bs.map (Blk.ren f)=bs∧∀ x∈bs,x≠.hole
 | [],k,cs,cs',bs,h,f=>by cases h; exact ⟨rfl,by simp⟩
 | (j,e)::r,k,cs,cs',bs,h,f=>by
  unfold tokCells at h
  split at h
  ·split at h
   ·rename_i hr
    cases h
    obtain ⟨h1,h2⟩:=tokCells_toks r _ _ _ _ hr f
    refine ⟨by simp [Blk.ren,h1],fun x hx=>?_⟩
    rcases List.mem_cons.1 hx with rfl|hx
    ·intro h; cases h
    ·exact h2 x hx
   ·cases h
  ·cases h

structure Turn (f:Nat→Nat) (g:Gh) (N:Nat) (g':Gh) (N':Nat):Prop where
 S:g'.S=g.S
 blk:∀ i,i < N→g.live i→f i < N'∧g'.live (f i)∧g'.blk (f i)=g.blk i
 own:∀ t,t < N→∀ x,g.own t=some x→f t < N'∧g'.own (f t)=some x

section
variable {f:Nat→Nat} {g g':Gh} {N N' B0:Nat} {P:Program} {H H':List Blk} {w:World}

theorem RepV.ren (ht:Turn f g N g' N') {v:Value} {p:PV} (h:RepV g N w v p):RepV g' N' w v (p.ren f):=by
 have hS:∀ {v d},RepD w g.S v d→RepD w g'.S v d:=fun h=>by rw [ht.S]; exact h
 induction h with
 | dat v d h=>exact .dat _ _ (hS h)
 | agg vs cs h1 h2 ih =>
  simp only [PV.ren,rens_map]
  refine .agg vs _ (by simpa using h1) fun j v c g1 g2=>?_
  rw [List.getElem?_map,Option.map_eq_some_iff] at g2
  obtain ⟨c',g2,rfl⟩:=g2
  exact ih j v c' g1 g2
 | tup vs cs h1 h2 ih =>
  simp only [PV.ren,rens_map]
  refine .tup vs _ (by simpa using h1) fun j v c g1 g2=>?_
  rw [List.getElem?_map,Option.map_eq_some_iff] at g2
  obtain ⟨c',g2,rfl⟩:=g2
  exact ih j v c' g1 g2
 | vec v t es v0 n h1 h2 h3 h4 h5 =>
  obtain ⟨k1,k2⟩:=ht.own t h1 _ h3
  exact .vec v _ es v0 n k1 (hS h2) k2 h4 h5
 | ptr i o hi =>
  obtain ⟨k1,k2,k3⟩:=ht.blk i hi.1 hi.2
  rw [← k3]; exact .ptr _ o ⟨k1,k2⟩
 | iptr b o cs c h1 h2=>exact .iptr b o cs c (fun i hi=>⟨(h1 i hi).1,by rw [ht.S]; exact (h1 i hi).2⟩) (fun i u hu=>hS (h2 i u hu))
 | arr i o len cap hi hc =>
  obtain ⟨k1,k2,k3⟩:=ht.blk i hi.1 hi.2
  rw [← k3]; exact .arr _ o len cap ⟨k1,k2⟩ hc
 | fn fi vs cs h1 h2 ih =>
  simp only [PV.ren,rens_map]
  refine .fn fi vs _ (by simpa using h1) fun j v c g1 g2=>?_
  rw [List.getElem?_map,Option.map_eq_some_iff] at g2
  obtain ⟨c',g2,rfl⟩:=g2
  exact ih j v c' g1 g2
 | ms t gg lo len cp v v0 n h1 h2 h3 h4 h5 =>
  obtain ⟨k1,k2⟩:=ht.own t h1 _ h2
  exact .ms _ gg lo len cp v v0 n k1 k2 h3 h4 h5
 | mp t gg j v v0 n h1 h2 h3 h4 h5 =>
  obtain ⟨k1,k2⟩:=ht.own t h1 _ h2
  exact .mp _ gg j v v0 n k1 k2 h3 h4 h5
 | mapv i hi =>
  obtain ⟨k1,k2,k3⟩:=ht.blk i hi.1 hi.2
  rw [← k3]; exact .mapv _ ⟨k1,k2⟩
 | empv b v h1 h2=>exact .empv b v h1 h2
 | undef v=>exact .undef v

theorem rens_fix {vs:Array Value} {cs:List PV} (h1:vs.size=cs.length) (ih:∀ (j:Nat) v c,vs[j]? = some v→cs[j]? = some c→c.ren f=c):cs.map (PV.ren f)=cs:=by
 apply List.ext_getElem?
 intro j
 rw [List.getElem?_map]
 cases hc:cs[j]? with
 | none=>rfl
 | some c =>
  have hj:j < vs.size:=by rw [h1]; exact (List.getElem?_eq_some_iff.1 hc).1
  simp [ih j _ c (Array.getElem?_eq_getElem hj) hc]

theorem RepV.fix (hf:∀ i,i < N→f i=i) {v:Value} {p:PV} (h:RepV g N w v p):p.ren f=p:=by
 induction h with
 | agg vs cs h1 h2 ih=>simp only [PV.ren,rens_map,rens_fix h1 ih]
 | tup vs cs h1 h2 ih=>simp only [PV.ren,rens_map,rens_fix h1 ih]
 | fn fi vs cs h1 h2 ih=>simp only [PV.ren,rens_map,rens_fix h1 ih]
 | vec v t es v0 n h1=>simp [PV.ren,hf t h1]
 | ptr i o hi=>simp [PV.ren,hf i hi.1]
 | arr i o len cap hi=>simp [PV.ren,hf i hi.1]
 | ms t gg lo len cp v v0 n h1=>simp [PV.ren,hf t h1]
 | mp t gg j v v0 n h1=>simp [PV.ren,hf t h1]
 | mapv i hi=>simp [PV.ren,hf i hi.1]
 | _=>rfl

theorem Qg.fix (hH:Qg P g B0 N H w) (hf:∀ i,i < N→f i=i) {i:Nat} {x:Blk} (h:H[i]? = some x):x.ren f=x:=by
 cases x with
 | box cs =>
  obtain ⟨_,⟨vals,ty,_,h2,h3⟩,_⟩:=hH.box i cs h
  simp only [Blk.ren,rens_fix h2 fun j v c a b=>(h3 j v c a b).fix hf]
 | tok e n=>rfl
 | mt e n cs =>
  obtain ⟨v0,_,h1⟩:=hH.mt i e n cs h
  rcases h1 with ⟨rfl,_⟩|⟨b,l,cap,cur,_,_,_,_,_,q4,_,q6,_,q8⟩|⟨b,l,cap,cur,size,da,_,_,_,_,_,_,rfl,_⟩
  rotate_right
  ·simp only [Blk.ren,List.map_map]; rfl
  ·rfl
  ·have:cs.map (PV.ren f)=cs:=by
    apply List.ext_getElem?
    intro j
    rw [List.getElem?_map]
    cases hc:cs[j]? with
    | none=>rfl
    | some c =>
     have hj:j < cur.size:=by have:=(List.getElem?_eq_some_iff.1 hc).1; omega
     simp [(q8 j _ c (Array.getElem?_eq_getElem hj) hc).fix hf]
   simp only [Blk.ren,this]
 | map es =>
  obtain ⟨_,⟨arr,clock,_,h2,h3⟩,_⟩:=hH.map i es h
  have:(es.map fun x=>(x.1,x.2.ren f))=es:=by
   apply List.ext_getElem?
   intro j
   rw [List.getElem?_map]
   cases hc:es[j]? with
   | none=>rfl
   | some c =>
    have hj:j < arr.size:=by rw [h2]; exact (List.getElem?_eq_some_iff.1 hc).1
    simp [(h3 j _ c (Array.getElem?_eq_getElem hj) hc).2.fix hf]
  simp only [Blk.ren,this]
 | hole=>rfl

def From (f:Nat→Nat) (g':Gh) (H H':List Blk):Prop :=
 ∀ (i:Nat) y,H'[i]? = some y→(y=.hole∧¬ g'.live i∧g'.own i=none)∨∃ (j:Nat) (x:Blk),H[j]? = some x∧x≠.hole∧f j=i∧y=x.ren f

theorem occ_ren (ht:Turn f g N g' N') (hH:Qg P g B0 N H w) (hl:H.length≤N) (hs:From f g' H H') {i b:Nat} (h:occ g' H' i=some b):∃ j,f j=i∧occ g H j=some b:=by
 have hlt:∀ {x:Blk} {j:Nat},H[j]? = some x→j < N:=fun h=>Nat.lt_of_lt_of_le (List.getElem?_eq_some_iff.1 h).1 hl
 unfold occ at h
 split at h
 ·rename_i cs hi
  rcases hs i _ hi with ⟨e,_⟩|⟨j,x,h1,h2,rfl,h4⟩
  ·cases e
  ·cases x <;> simp only [Blk.ren,reduceCtorEq] at h4
   rw [(ht.blk j (hlt h1) (hH.liveB h1)).2.2] at h
   exact ⟨j,rfl,by rw [occ_box h1]; exact h⟩
 ·rename_i e n hi
  rcases hs i _ hi with ⟨e,_⟩|⟨j,x,h1,h2,rfl,h4⟩
  ·cases e
  ·cases x <;> simp only [Blk.ren,reduceCtorEq] at h4
   obtain ⟨v0,k1,k2⟩:=hH.tok j _ _ h1
   rw [(ht.own j (hlt h1) _ k1).2] at h
   exact ⟨j,rfl,by rw [occ_tok h1,k1]; exact h⟩
 ·rename_i e n cs hi
  rcases hs i _ hi with ⟨e,_⟩|⟨j,x,h1,h2,rfl,h4⟩
  ·cases e
  ·cases x <;> simp only [Blk.ren,reduceCtorEq] at h4
   obtain ⟨v0,k1,k2⟩:=hH.mt j _ _ _ h1
   rw [(ht.own j (hlt h1) _ k1).2] at h
   exact ⟨j,rfl,by rw [occ_mt h1,k1]; exact h⟩
 ·rename_i es hi
  rcases hs i _ hi with ⟨e,_⟩|⟨j,x,h1,h2,rfl,h4⟩
  ·cases e
  ·cases x <;> simp only [Blk.ren,reduceCtorEq] at h4
   rw [(ht.blk j (hlt h1) (hH.liveM h1)).2.2] at h
   exact ⟨j,rfl,by rw [occ_map h1]; exact h⟩
 ·cases h
 ·cases h

theorem Qg.ren (ht:Turn f g N g' N') (hH:Qg P g B0 N H w) (hl:H.length≤N) (hs:From f g' H H'):Qg P g' B0 N' H' w:=by
 have hlt:∀ {x:Blk} {j:Nat},H[j]? = some x→j < N:=fun h=>Nat.lt_of_lt_of_le (List.getElem?_eq_some_iff.1 h).1 hl
 refine ⟨fun i cs hi=>?_,fun i e n hi=>?_,fun i e n cs hi=>?_,fun i es hi=>?_,fun i e cs hi=>?_,fun i y hi=>?_,fun i i' b h1 h2=>?_⟩
 ·rcases hs i _ hi with ⟨e,_⟩|⟨j,x,h1,h2,rfl,h4⟩
  ·cases e
  ·cases x <;> simp only [Blk.ren,reduceCtorEq] at h4
   cases h4
   rw [(ht.blk j (hlt h1) (hH.liveB h1)).2.2]
   obtain ⟨b1,⟨vals,ty,b2,b3,b4⟩,b5⟩:=hH.box j _ h1
   refine ⟨b1,⟨vals,ty,b2,by simpa using b3,fun k v c g1 g2=>?_⟩,by rw [ht.S]; exact b5⟩
   rw [List.getElem?_map,Option.map_eq_some_iff] at g2
   obtain ⟨c',g2,rfl⟩:=g2
   exact (b4 k v c' g1 g2).ren ht
 ·rcases hs i _ hi with ⟨e,_⟩|⟨j,x,h1,h2,rfl,h4⟩
  ·cases e
  ·cases x <;> simp only [Blk.ren,reduceCtorEq] at h4
   cases h4
   obtain ⟨v0,k1,k2⟩:=hH.tok j _ _ h1
   refine ⟨v0,(ht.own j (hlt h1) _ k1).2,?_⟩
   rcases k2 with k2|⟨b,cap,cur,size,a1,a2,a3,a4,a5,a6,a7,a8⟩
   ·exact .inl k2
   ·exact .inr ⟨b,cap,cur,size,a1,a2,a3,a4,a5,a6,a7,by rw [ht.S]; exact a8⟩
 ·rcases hs i _ hi with ⟨e,_⟩|⟨j,x,h1,h2,rfl,h4⟩
  ·cases e
  ·cases x <;> simp only [Blk.ren,reduceCtorEq] at h4
   cases h4
   obtain ⟨v0,k1,k2⟩:=hH.mt j _ _ _ h1
   refine ⟨v0,(ht.own j (hlt h1) _ k1).2,?_⟩
   rcases k2 with ⟨rfl,k2⟩|⟨b,l,cap,cur,a1,q0,q1,q2,q3,q4,q5,q6,q7,q8⟩|⟨b,l,cap,cur,size,da,a1,q0,q1,q2,q3,q3',rfl,q4,q4',q5,q6,q7,q8⟩
   ·exact .inl ⟨rfl,k2⟩
   ·refine .inr (.inl ⟨b,l,cap,cur,a1,q0,q1,q2,q3,⟨by simpa using q4.1,by
     rw [List.all_map,List.all_eq_true]
     intro x hx
     have:=List.all_eq_true.1 q4.2 x hx
     cases x <;> first|exact this|rfl⟩,q5,q6,by rw [ht.S]; exact q7,fun k v c g1 g2=>?_⟩)
    rw [List.getElem?_map,Option.map_eq_some_iff] at g2
    obtain ⟨c',g2,rfl⟩:=g2
    exact (q8 k v c' g1 g2).ren ht
   ·refine .inr (.inr ⟨b,l,cap,cur,size,da,a1,q0,q1,q2,q3,q3',by rw [List.map_map]; rfl,q4,q4',q5,q6,by rw [ht.S]; exact q7,fun i j d u v g1 g2 g3=>by rw [ht.S]; exact q8 i j d u v g1 g2 g3⟩)
 ·rcases hs i _ hi with ⟨e,_⟩|⟨j,x,h1,h2,rfl,h4⟩
  ·cases e
  ·cases x <;> simp only [Blk.ren,reduceCtorEq] at h4
   cases h4
   rw [(ht.blk j (hlt h1) (hH.liveM h1)).2.2]
   obtain ⟨b1,⟨arr,clock,b2,b3,b4⟩,b5⟩:=hH.map j _ h1
   refine ⟨b1,⟨arr,clock,b2,by simpa using b3,fun k v c g1 g2=>?_⟩,by rw [ht.S]; exact b5⟩
   rw [List.getElem?_map,Option.map_eq_some_iff] at g2
   obtain ⟨c',g2,rfl⟩:=g2
   exact ⟨(b4 k v c' g1 g2).1,(b4 k v c' g1 g2).2.ren ht⟩
 ·rcases hs i _ hi with ⟨e,_⟩|⟨j,x,h1,h2,rfl,h4⟩
  ·cases e
  ·cases x <;> simp only [Blk.ren,reduceCtorEq] at h4
   cases h4
   obtain ⟨v0,k1,k2⟩:=hH.mt0 j _ _ h1
   exact ⟨v0,(ht.own j (hlt h1) _ k1).2,k2⟩
 ·rcases hs i _ hi with ⟨rfl,h1,h2⟩|⟨j,x,h1,h2,rfl,rfl⟩
  ·exact ⟨fun h=>h.elim,fun _=>⟨h1,h2⟩⟩
  ·refine ⟨fun hp=>(ht.blk j (hlt h1) ((hH.live j x h1).1 ?_)).2.1,fun hx=>absurd ?_ h2⟩
   ·cases x <;> first|trivial|exact hp
   ·cases x <;> simp [Blk.ren] at hx ⊢
 ·obtain ⟨j,rfl,a1⟩:=occ_ren ht hH hl hs h1
  obtain ⟨j',rfl,a2⟩:=occ_ren ht hH hl hs h2
  rw [hH.sep j j' b a1 a2]
end

def shf (n k i:Nat):Nat:=if i < n then i else k+(i - n)
theorem shf_end (n k i:Nat):shf n k (n+i)=k+i:=by
 unfold shf; rw [if_neg (by omega)]; congr 1; omega
theorem shf_old {n k i:Nat} (h:i < n):shf n k i=i:=by unfold shf; rw [if_pos h]

section
variable {P:Program} {call:CallF} {pf:FuncId→Bool} {ow:List (Nat × TypeId)} {o:Oper} {ρ:Operand→PV} {H H' H2:List Blk} {p:PV}

def Placed (P:Program) (call:CallF) (ow:List (Nat × TypeId)) (o:Oper) (ρ:Operand→PV) (H H2 H':List Blk) (p:PV):Prop :=
 ∃ p2 bs2,sem P call ow o ρ H2=some (p2,H2++bs2)∧p=p2.ren (shf H2.length H.length)∧H'=H++bs2.map (Blk.ren (shf H2.length H.length))∧∀ x∈bs2,x≠Blk.hole

theorem sem_place (hs:sens pf ow o ρ=2) (h:sem P call ow o ρ H=some (p,H')) (hρ:∀ x,(ρ x).ren (shf H2.length H.length)=ρ x):Placed P call ow o ρ H H2 H' p:=by
 have h0:shf H2.length H.length H2.length=H.length:=shf_end _ _ 0
 have hcells:∀ x,(ρ x).cells.map (PV.ren (shf H2.length H.length))=(ρ x).cells:=fun x=>by rw [← cells_ren,hρ]
 have hnh:∀ b:Blk,b≠.hole→∀ x∈[b],x≠Blk.hole:=fun b hb x hx=>by rw [List.mem_singleton.1 hx]; exact hb
 unfold Placed
 cases ho:o.op with
 | alloc e =>
  simp only [sem,ho] at h ⊢
  split at h
  ·rename_i z hz
   split at h
   ·rename_i cs bs ht
    cases h
    rw [← map_dat (shf H2.length H.length)] at ht
    obtain ⟨cs2,h1,rfl⟩:=tokCells_ren _ ow (H.length+1) (H2.length+1) _ _ _ (fun i=>by rw [Nat.add_assoc,shf_end,Nat.add_assoc]) ht
    obtain ⟨t1,t2⟩:=tokCells_toks _ _ _ _ _ h1 (shf H2.length H.length)
    simp only [h1]
    refine ⟨_,_,rfl,by simp [PV.ren,h0],by simp [Blk.ren,t1],fun x hx=>?_⟩
    rcases List.mem_cons.1 hx with rfl|hx
    ·intro h; cases h
    ·exact t2 x hx
   ·cases h
  ·cases h
 | box e x =>
  cases ow with
  | cons=>simp [sens,ho] at hs
  | nil =>
  simp only [sem,ho] at h ⊢
  split at h
  ·rename_i hc
   cases h
   rw [if_pos hc]
   exact ⟨_,_,rfl,by simp [PV.ren,h0],by simp [Blk.ren,hcells],hnh _ (by intro h; cases h)⟩
  ·cases h
 | makeSlice t x y =>
  simp only [sem,ho] at h ⊢
  split at h
  ·split at h
   ·split at h
    ·split at h
     ·rename_i hc
      cases h
      simp only [*,and_self,if_true]
      exact ⟨_,_,rfl,by simp [PV.ren,h0],by simp [Blk.ren,PV.ren],hnh _ (by intro h; cases h)⟩
     ·cases h
    ·cases h
   ·cases h
  ·rename_i jj ee ow'
   have h80:¬ 8000≤jj:=fun hc=>by simp [sens,ho,hc] at hs
   rw [if_neg h80] at h
   rw [if_neg h80]
   by_cases h10:jj=1000
   ·rw [if_pos h10] at h
    rw [if_pos h10]
    split at h
    ·split at h
     ·split at h
      ·rename_i hc
       simp only [*,and_self,if_true]
       unfold ownMake at h ⊢
       split at h
       ·rename_i hc1
        rw [if_pos hc1]
        split at h
        ·rename_i hc2
         cases h
         rw [if_pos hc2]
         exact ⟨_,_,rfl,by simp [PV.ren,h0],by simp [Blk.ren],hnh _ (by intro h; cases h)⟩
        ·rename_i hc2
         cases h
         rw [if_neg hc2]
         exact ⟨_,_,rfl,by simp [PV.ren,h0],by simp [Blk.ren,PV.ren],hnh _ (by intro h; cases h)⟩
       ·cases h
      ·cases h
     ·cases h
    ·cases h
   rw [if_neg h10] at h
   rw [if_neg h10]
   split at h
   ·split at h
    ·split at h
     ·rename_i hc
      cases h
      simp only [*,and_self,if_true]
      exact ⟨_,_,rfl,by simp [PV.ren,h0],by simp [Blk.ren,PV.ren],hnh _ (by intro h; cases h)⟩
     ·cases h
    ·cases h
   ·cases h
 | assign x =>
  cases ow with
  | nil=>simp [sens,ho] at hs
  | cons =>
   simp only [sem,ho] at h ⊢
   split at h
   ·split at h <;> rename_i hc <;> cases h <;> simp only [hc] <;> exact ⟨_,_,rfl,by simp [PV.ren,h0],by simp [Blk.ren],hnh _ (by intro h; cases h)⟩
   ·cases h
 | slice t x lo hi mx =>
  cases ow with
  | nil=>cases hi <;> cases mx <;> simp [sens,ho] at hs
  | cons =>
   cases hi with
   | none=>cases mx <;> simp [sens,ho] at hs
   | some hi =>
    cases mx with
    | none=>simp [sens,ho] at hs
    | some mx =>
     simp only [sem,ho] at h ⊢
     split at h
     ·split at h
      ·split at h
       ·rename_i hc
        simp only [*,and_self,if_true]
        split at h
        ·rename_i hl
         rw [if_pos hl]
         split at h
         ·rename_i hl0
          cases h
          rw [if_pos hl0]
          exact ⟨_,_,rfl,by simp [PV.ren,h0],by simp [Blk.ren],hnh _ (by intro h; cases h)⟩
         ·cases h
        ·rename_i hl
         cases h
         rw [if_neg hl]
         exact ⟨.undef,[],by simp,by simp [PV.ren],by simp,by simp⟩
       ·cases h
      ·cases h
     ·cases h
 | build t ps =>
  have hg:giveHint ow=false:=by
   cases ow with
   | nil=>rfl
   | cons x xs =>
    simp only [sens,ho] at hs
    split at hs
    ·cases hs
    ·rename_i hj; simpa [giveHint] using hj
  simp only [sem,ho,buildSem,hg,Bool.false_eq_true,if_false] at h ⊢
  split at h
  ·rename_i z pl hz hpl
   split at h
   ·rename_i cs hfill
    split at h
    ·rename_i hall
     split at h
     ·rename_i hunc
      split at h
      ·rename_i cs1 bs ht
       cases h
       simp only [hz,hpl,hfill,hall,hunc,if_true]
       have hcs:cs.map (PV.ren (shf H2.length H.length))=cs:=by
        have:=fillA_map (PV.ren (shf H2.length H.length)) pl (ps.toList.map fun (i,x)=>(i,(ρ x).cells)) (z.cells.map PV.dat)
        rw [map_dat,hfill] at this
        have e:(List.map (fun x:Nat × List PV=>(x.1,x.2.map (PV.ren (shf H2.length H.length)))) (ps.toList.map fun (i,x)=>(i,(ρ x).cells)))=ps.toList.map fun (i,x)=>(i,(ρ x).cells):=by
         rw [List.map_map]
         apply List.map_congr_left
         intro x _
         simp [hcells]
        rw [e,hfill] at this
        simpa using this.symm
       rw [← hcs] at ht
       obtain ⟨cs2,h1,rfl⟩:=tokCells_ren _ ow H.length H2.length _ _ _ (fun i=>shf_end _ _ i) ht
       obtain ⟨t1,t2⟩:=tokCells_toks _ _ _ _ _ h1 (shf H2.length H.length)
       simp only [h1]
       exact ⟨_,_,rfl,by rw [mkAgg_ren],by rw [t1],t2⟩
      ·cases h
     ·cases h
    ·cases h
   ·cases h
  ·cases h
 | buildSlice t n ps =>
  cases ow with
  | nil=>simp [sens,ho] at hs
  | cons jj xs =>
   simp only [sem,ho] at h ⊢
   split at h
   ·rename_i e he
    split at h
    ·rename_i har
     split at h
     ·rename_i size hsz
      split at h
      ·rename_i hc
       cases h
       rw [if_pos har,if_pos hc]
       refine ⟨_,_,rfl,by simp [PV.ren,h0],?_,hnh _ (by intro h; cases h)⟩
       simp only [List.map_cons,List.map_nil,Blk.ren,List.map_flatMap,hcells]
      ·cases h
     ·cases h
    rename_i har
    rw [if_neg har]
    split at h
    ·rename_i hf
     split at h
     ·rename_i hc
      cases h
      simp only [hf,hc,if_true]
      refine ⟨_,_,rfl,by simp [PV.ren,h0],?_,hnh _ (by intro h; cases h)⟩
      simp only [List.map_cons,List.map_nil,Blk.ren,List.map_map]
      congr 3
      apply List.map_congr_left
      intro x _
      exact (hρ x.2).symm
     ·cases h
    ·rename_i hf
     split at h
     ·rename_i size ds hsz hp
      split at h
      ·rename_i hc
       have hnl:(ps.toList.map fun (_,x)=>ρ x).any PV.lends=false:=by
        have:=hc.2.2.2.2.2.2
        rw [List.any_map]
        simpa [Function.comp_def] using this
       have hp2:=pures_indep (H2:=H2) _ _ hp hnl
       simp only [hf,hsz,hp2,hc,if_false,if_true,Bool.false_eq_true,and_self,not_true_eq_false] at h ⊢
       split at h
       ·rename_i he'
        simp only [he',if_true]
        split at h
        ·rename_i hj
         simp only [hj,if_true]
         split at h
         ·rename_i hd
          cases h
          simp only [hd,if_true]
          exact ⟨_,_,rfl,by simp [PV.ren,h0],by simp [Blk.ren],hnh _ (by intro h; cases h)⟩
         ·rename_i hd
          split at h
          ·rename_i hel
           cases h
           rw [if_neg hd,if_pos hel]
           exact ⟨_,_,rfl,by simp [PV.ren,h0],by simp [Blk.ren,PV.ren],hnh _ (by intro h; cases h)⟩
          ·cases h
        ·rename_i hj
         cases h
         simp only [hj,if_false]
         exact ⟨_,_,rfl,by simp [PV.ren,h0],by simp [Blk.ren],hnh _ (by intro h; cases h)⟩
       ·cases h
      ·cases h
     ·cases h
   ·cases h
 | makeMap t r =>
  cases r with
  | none =>
   simp only [sem,ho] at h ⊢
   split at h
   ·cases h
    exact ⟨_,_,rfl,by simp [PV.ren,h0],by simp [Blk.ren],hnh _ (by intro h; cases h)⟩
   ·cases h
  | some r=>simp [sem,ho] at h
 | load t x =>
  cases ow with
  | cons=>simp [sens,ho] at hs
  | nil =>
  simp only [sens,ho] at hs
  split at hs <;> cases hs
 | call c =>
  obtain ⟨callee,args,ts⟩:=c
  cases callee with
  | value f =>
   cases ow with
   | cons jj xs =>
    have h13:¬ 13000≤jj.1:=fun hc=>by simp only [sens,ho,if_pos hc] at hs; cases hs
    have h12:¬ 12000≤jj.1:=fun hc=>by simp only [sens,ho,if_neg h13,if_pos hc] at hs; cases hs
    have h6:¬ 6000≤jj.1:=fun hc=>by simp only [sens,ho,if_neg h13,if_neg h12,if_pos hc] at hs; cases hs
    have hn:¬ 2000≤jj.1:=fun hc=>by simp only [sens,ho,if_neg h13,if_neg h12,if_neg h6,if_pos hc] at hs; cases hs
    have hl:(args.toList.map ρ).any PV.lends=false:=by
     simp only [sens,ho,if_neg h13,if_neg h12,if_neg h6,if_neg hn] at hs
     split at hs
     ·cases hs
     ·rename_i hl; simpa using hl
    simp only [sem,ho] at h ⊢
    rw [if_neg h13,if_neg h12,if_neg (show ¬ jj.1=7000 by omega),if_neg h6] at h ⊢
    split at h
    ·rename_i fi x1 x2 hfi
     rw [if_neg (show ¬ jj.1=5000 by omega),if_neg hn] at h ⊢
     unfold freshCall at h ⊢
     split at h
     ·rename_i ds hp
      rw [pures_indep (H2:=H2) _ _ hp hl]
      simp only
      split at h
      ·split at h
       ·split at h
        ·rename_i hcc
         cases h
         rw [if_pos hcc]
         refine ⟨_,_,rfl,by simp [PV.ren,h0],?_,hnh _ (by intro h; cases h)⟩
         obtain ⟨d1,d2⟩:=Option.isSome_iff_exists.1 hcc.2.2.1
         simp only [List.map_cons,List.map_nil,Blk.ren]
         congr 3
         symm
         refine (List.map_congr_left (g:=id) fun c hcm=>?_).trans (List.map_id _)
         obtain ⟨d,rfl⟩:=allDat_mem _ hcc.2.2.1 c hcm
         rfl
        ·cases h
       ·cases h
      ·split at h
       ·rename_i hcc
        cases h
        rw [if_pos hcc]
        refine ⟨_,_,rfl,by simp [PV.ren,h0],?_,hnh _ (by intro h; cases h)⟩
        simp only [List.map_cons,List.map_nil,Blk.ren]
        congr 3
        symm
        refine (List.map_congr_left (g:=id) fun c hcm=>?_).trans (List.map_id _)
        have hp:=List.all_eq_true.1 hcc.2 c hcm
        obtain ⟨k,v⟩:=c
        cases v <;> first|rfl|(simp [PV.plainCell] at hp)
       ·cases h
      ·cases h
     ·cases h
    ·cases h
   | nil =>
   simp only [sens,ho] at hs
   split at hs
   ·split at hs
    ·split at hs <;> cases hs
    ·cases hs
   ·cases hs
  | builtin b =>
   cases b with
   | len=>simp only [sens,ho] at hs; split at hs <;> cases hs
   | append=>simp only [sens,ho] at hs; split at hs <;> cases hs
   | _=>simp [sens,ho] at hs
  | invoke x n=>simp [sens,ho] at hs
 | move x=>simp only [sens,ho] at hs; split at hs <;> cases hs
 | _=>simp [sens,ho] at hs
end

section
variable {P:Program} {pf:FuncId→Bool} {ow:List (Nat × TypeId)} {o:Oper} {ρ ρ':Operand→PV} {B0:Nat} {w0:World} {S0:Nat→Nat→Prop} {Nb:Nat} {g g2:Gh} {s:List PV} {H:List Blk} {a:Act} {w w':World}

theorem sens_congr (h:∀ x∈o.op.operands,ρ x=ρ' x):sens pf ow o ρ=sens pf ow o ρ':=by
 unfold sens
 cases ho:o.op with
 | load t x=>simp only; rw [h x (by simp [ho,Op.operands])]
 | call c =>
  obtain ⟨callee,args,ts⟩:=c
  have ha:args.toList.map ρ=args.toList.map ρ':=args_congr fun x hx=>h x (by simp only [ho,Op.operands,Call.operands]; simp; exact .inr (by simpa using hx))
  cases callee with
  | value f=>simp only; rw [h f (by simp [ho,Op.operands,Call.operands]),ha]
  | builtin b=>simp only; rw [ha]; cases b <;> rfl
  | invoke x n=>rfl
 | slice t x lo hi mx=>cases hi <;> cases mx <;> rfl
 | _=>rfl

theorem StOK.holes (hst:StOK P B0 w0 S0 Nb g ⟨s,H⟩ a w) (d:Nat):∃ g',Ext H.length g w g' w∧Fr g H w g' (H++List.replicate d .hole) w∧StOK P B0 w0 S0 Nb g' ⟨s,H++List.replicate d .hole⟩ a w:=by
 obtain ⟨h1,h2,h3,h4⟩:=hst
 let g':Gh:={ g with live:=fun i=>i < H.length∧g.live i,own:=fun i=>if i < H.length then g.own i else none }
 have ht:Turn id g H.length g' (H++List.replicate d Blk.hole).length :=
  ⟨rfl,fun i hi hl=>⟨by simp only [id]; simp; omega,⟨hi,hl⟩,rfl⟩,fun t ht x hx=>⟨by simp only [id]; simp; omega,by simp only [g',id]; rw [if_pos ht]; exact hx⟩⟩
 have hs:From id g' H (H++List.replicate d Blk.hole):=fun i y hy=>by
  rw [List.getElem?_append] at hy
  split at hy
  ·rename_i hi
   by_cases e:y=.hole
   ·subst e
    obtain ⟨k1,k2⟩:=h1.noHole hy
    exact .inl ⟨rfl,fun hl=>k1 hl.2,by simp only [g']; rw [if_pos hi]; exact k2⟩
   ·exact .inr ⟨i,y,hy,e,rfl,(h1.fix (fun _ _=>rfl) hy).symm⟩
  ·rename_i hi
   rw [List.getElem?_replicate] at hy
   split at hy
   ·cases hy
    exact .inl ⟨rfl,fun hl=>hi hl.1,by simp only [g']; rw [if_neg hi]⟩
   ·cases hy
 have he:Ext H.length g w g' w:=⟨fun _ _ h=>h,fun _ _ _=>rfl,fun i hi hl=>⟨rfl,hi,hl⟩,fun t ht v n hv=>⟨v,n,by simp only [g']; rw [if_pos ht]; exact hv,Nat.le_refl _,fun _=>rfl⟩⟩
 refine ⟨g',he,⟨Nat.le_refl _,fun _ _ _=>rfl,fun i b hb _=>?_,fun _ _ h=>.inl h⟩,⟨h1.ren ht (Nat.le_refl _) hs,⟨h2.below,h2.size,h2.old,h2.lt⟩,h3.ext he (by simp),by simp only [List.length_append]; exact Nat.le_trans h4 (Nat.le_add_right _ _)⟩⟩
 obtain ⟨j,_,hj⟩:=occ_ren ht h1 (Nat.le_refl _) hs hb
 exact ⟨j,hj⟩

theorem StOK.place {p2:PV} {u:Value} {bs2 bs:List Blk} {k0:Nat} (hst:StOK P B0 w0 S0 Nb g ⟨s,H⟩ a w) (hg:Good P B0 w0 S0 H g w p2 (H++bs2) u g2 w')
  (hbs:bs=bs2.map (Blk.ren (shf H.length k0))) (hne:∀ x∈bs2,x≠.hole) (hk:k0+bs.length≤H.length) (hhole:∀ i,k0≤i→i < k0+bs.length→H[i]? = some .hole) (d:Option Tmp) :
  ∃ g3,Ext H.length g w g3 w'∧Fr g H w g3 (H.take k0++bs++H.drop (k0+bs.length)) w' ∧
   StOK P B0 w0 S0 Nb g3 ⟨putS s d (p2.ren (shf H.length k0)),H.take k0++bs++H.drop (k0+bs.length)⟩ (a.put d u) w':=by
 obtain ⟨h1,h2,h3,h4⟩:=hst
 have hbl:bs.length=bs2.length:=by rw [hbs]; simp
 have hlen:(H.take k0++bs++H.drop (k0+bs.length)).length=H.length:=by simp; omega
 let seg:Nat→Prop:=fun i=>k0≤i∧i < k0+bs.length
 let g3:Gh:={ g2 with blk:=fun i=>if k0≤i∧i < k0+bs.length then g2.blk (H.length+(i - k0)) else g2.blk i,live:=fun i=>if k0≤i∧i < k0+bs.length then g2.live (H.length+(i - k0)) else g2.live i,own:=fun i=>if k0≤i∧i < k0+bs.length then g2.own (H.length+(i - k0)) else g2.own i }
 -- no hole has been alive
 have hdead2:∀ i,k0≤i→i < k0+bs.length→¬ g2.live i∧g2.own i=none:=fun i a1 a2=>hg.heap.noHole (by
  rw [List.getElem?_append,if_pos (by omega)]; exact hhole i a1 a2)
 have hdead:∀ i,k0≤i→i < k0+bs.length→¬ g.live i∧g.own i=none:=fun i a1 a2=>h1.noHole (hhole i a1 a2)
 have ht:Turn (shf H.length k0) g2 (H++bs2).length g3 H.length:=by
  refine ⟨rfl,fun i hi hl=>?_,fun t ht x hx=>?_⟩
  ·by_cases c:i < H.length
   ·have hns:¬ (k0≤i∧i < k0+bs.length):=fun hs=>(hdead2 i hs.1 hs.2).1 hl
    rw [shf_old c]
    exact ⟨c,by simp only [g3]; rw [if_neg hns]; exact hl,by simp only [g3]; rw [if_neg hns]⟩
   ·have e:i=H.length+(i - H.length):=by omega
    have hi':i - H.length < bs.length:=by simp at hi; omega
    have e2:shf H.length k0 i=k0+(i - H.length):=by rw [e,shf_end]; congr 1; omega
    have e3:H.length+(k0+(i - H.length) - k0)=i:=by omega
    rw [e2]
    refine ⟨by omega,?_,?_⟩
    ·simp only [g3]; rw [if_pos (by omega),e3]; exact hl
    ·simp only [g3]; rw [if_pos (by omega),e3]
  ·by_cases c:t < H.length
   ·have hns:¬ (k0≤t∧t < k0+bs.length):=fun hs=>by rw [(hdead2 t hs.1 hs.2).2] at hx; cases hx
    rw [shf_old c]
    exact ⟨c,by simp only [g3]; rw [if_neg hns]; exact hx⟩
   ·have e:t=H.length+(t - H.length):=by omega
    have hi':t - H.length < bs.length:=by simp at ht; omega
    have e2:shf H.length k0 t=k0+(t - H.length):=by rw [e,shf_end]; congr 1; omega
    have e3:H.length+(k0+(t - H.length) - k0)=t:=by omega
    rw [e2]
    exact ⟨by omega,by simp only [g3]; rw [if_pos (by omega),e3]; exact hx⟩
 have hs:From (shf H.length k0) g3 (H++bs2) (H.take k0++bs++H.drop (k0+bs.length)):=fun i y hy=>by
  rw [pasted_get _ _ _ (by omega)] at hy
  by_cases hsg:k0≤i∧i < k0+bs.length
  ·rw [if_neg (by omega),if_pos hsg.2,hbs,List.getElem?_map,Option.map_eq_some_iff] at hy
   obtain ⟨x,hx,rfl⟩:=hy
   refine .inr ⟨H.length+(i - k0),x,by rw [List.getElem?_append_right (by omega)]; simpa using hx,hne x (List.mem_of_getElem? hx),by rw [shf_end]; omega,rfl⟩
  ·have hy':H[i]? = some y:=by
    by_cases c:i < k0
    ·rwa [if_pos c] at hy
    ·rwa [if_neg c,if_neg (by omega)] at hy
   have hil:i < H.length:=(List.getElem?_eq_some_iff.1 hy').1
   have hy2:(H++bs2)[i]? = some y:=by rw [List.getElem?_append,if_pos hil]; exact hy'
   by_cases e:y=.hole
   ·subst e
    obtain ⟨k1,k2⟩:=hg.heap.noHole hy2
    exact .inl ⟨rfl,by simp only [g3]; rw [if_neg hsg]; exact k1,by simp only [g3]; rw [if_neg hsg]; exact k2⟩
   ·exact .inr ⟨i,y,hy2,e,shf_old hil,(h1.fix (fun _ h=>shf_old h) hy').symm⟩
 have he:Ext H.length g w g3 w':=by
  refine ⟨hg.ext.S,hg.ext.cell,fun i hi hl=>?_,fun t ht v n hv=>?_⟩
  ·have hns:¬ (k0≤i∧i < k0+bs.length):=fun hs=>(hdead i hs.1 hs.2).1 hl
   obtain ⟨k1,k2⟩:=hg.ext.blk i hi hl
   exact ⟨by simp only [g3]; rw [if_neg hns]; exact k1,by simp only [g3]; rw [if_neg hns]; exact k2⟩
  ·have hns:¬ (k0≤t∧t < k0+bs.length):=fun hs=>by rw [(hdead t hs.1 hs.2).2] at hv; cases hv
   obtain ⟨v',n',k1,k2⟩:=hg.ext.own t ht v n hv
   exact ⟨v',n',by simp only [g3]; rw [if_neg hns]; exact k1,k2⟩
 refine ⟨g3,he,⟨hg.fr.size,hg.fr.keep,fun i b hb hlt=>?_,hg.fr.pub⟩,⟨?_,⟨hg.inv.below,hg.inv.size,hg.inv.old,hg.inv.lt⟩,?_,by rw [hlen]; exact h4⟩⟩
 ·obtain ⟨j,_,hj⟩:=occ_ren ht hg.heap (Nat.le_refl _) hs hb
  exact hg.fr.occ j b hj hlt
 ·rw [hlen]; exact hg.heap.ren ht (Nat.le_refl _) hs
 ·rw [hlen]; exact (h3.ext he (Nat.le_refl _)).put d (hg.rep.ren ht)
end
end Go.Pm
