/-
 The pure machine: what its data and its values are in the model's memory.
-/
import Derived.Test.YtjcfpjpdopfefaaGreatPmDef
namespace Go.Pm
open Go Go.RowKit

structure Gh where
 blk:Nat→Nat
 live:Nat→Prop
 own:Nat→Option (Value × Nat)
 S:Nat→Nat→Prop

inductive RepD (w:World) (S:Nat→Nat→Prop):Value→Dat→Prop
 | raw (v:Value):isRaw v=true→RepD w S v (.raw v)
 | nil:RepD w S (.slice none 0 0) (.lst [])
 | empty (a:Addr) (cap:Nat):RepD w S (.slice (some a) 0 cap) (.lst [])
 | lst (b off len cap k:Nat) (es:List Dat) (c:Nat→Value):len=es.length→len≤cap→(∀ d,d∈es→d.num=k) →
   (∀ i,i < len * k→w.cell? ⟨b,off+i,none⟩=some (c i)∧S b (off+i)) →
   (∀ (i j:Nat) d u,es[i]? = some d→d.cells[j]? = some u→RepD w S (c (i * k+j)) u) →
   RepD w S (.slice (some ⟨b,off,none⟩) len cap) (.lst es)
 | agg (vs:Array Value) (cs:List Dat):vs.size=cs.length→(∀ (j:Nat) v c,vs[j]? = some v→cs[j]? = some c→RepD w S v c) →
   RepD w S (.agg vs) (.agg cs)

theorem RepD.mono {w w':World} {S S':Nat→Nat→Prop} (hS:∀ b o,S b o→S' b o) (hc:∀ b o,S b o→w'.cell? ⟨b,o,none⟩=w.cell? ⟨b,o,none⟩)
  {v:Value} {d:Dat} (h:RepD w S v d):RepD w' S' v d:=by
 induction h with
 | raw v h=>exact .raw v h
 | nil=>exact .nil
 | empty a cap=>exact .empty a cap
 | lst b off len cap k es c h1 h1' h2 h3 h4 ih =>
  exact .lst b off len cap k es c h1 h1' h2 (fun i hi=>⟨(hc _ _ (h3 i hi).2).trans (h3 i hi).1,hS _ _ (h3 i hi).2⟩) ih
 | agg vs cs h1 h2 ih=>exact .agg vs cs h1 ih

def subOf (v0:Value) (lo len:Nat):Value :=
 match v0 with
 | .slice (some a) _ cap=>.slice (some (a.add lo)) len (cap - lo)
 | v=>v

def base0 (v0:Value):Prop:=v0=.slice none 0 0∨(∃ a,v0=.slice (some a) 0 0)∨∃ b l c,v0=.slice (some ⟨b,0,none⟩) l c

inductive RepV (g:Gh) (N:Nat) (w:World):Value→PV→Prop
 | dat (v:Value) (d:Dat):RepD w g.S v d→RepV g N w v (.dat d)
 | agg (vs:Array Value) (cs:List PV):vs.size=cs.length→(∀ (j:Nat) v c,vs[j]? = some v→cs[j]? = some c→RepV g N w v c)→RepV g N w (.agg vs) (.agg cs)
 | tup (vs:Array Value) (cs:List PV):vs.size=cs.length→(∀ (j:Nat) v c,vs[j]? = some v→cs[j]? = some c→RepV g N w v c)→RepV g N w (.tuple vs) (.tup cs)
 | vec (v:Value) (t:Nat) (es:List Dat) (v0:Value) (n:Nat):t < N→RepD w g.S v (.lst es)→g.own t=some (v0,n)→es.length≤n→(es.length=n→v=v0)→RepV g N w v (.vec t es)
 | ptr (i o:Nat):i < N∧g.live i→RepV g N w (.pointer (some ⟨g.blk i,o,none⟩)) (.ptr i o)
 | iptr (b o:Nat) (cs:List Dat) (c:Nat→Value):(∀ i,i < cs.length→w.cell? ⟨b,o+i,none⟩=some (c i)∧g.S b (o+i)) →
   (∀ (i:Nat) u,cs[i]? = some u→RepD w g.S (c i) u)→RepV g N w (.pointer (some ⟨b,o,none⟩)) (.iptr cs)
 | arr (i o len cap:Nat):i < N∧g.live i→len≤cap→RepV g N w (.slice (some ⟨g.blk i,o,none⟩) len cap) (.arr i o len cap)
 | fn (f:FuncId) (vs:Array Value) (cs:List PV):vs.size=cs.length→(∀ (j:Nat) v c,vs[j]? = some v→cs[j]? = some c→RepV g N w v c)→RepV g N w (.func (.func f) #[] vs) (.fn f cs)
 | ms (t gg lo len cp:Nat) (v v0:Value) (n:Nat):t < N→g.own t=some (v0,n)→gg≤n→(gg=n→v=subOf v0 lo len∧base0 v0)→(∃ a c,v=.slice a len c∧cp≤c∧len≤c∧(0 < c→a.isSome=true))→RepV g N w v (.ms t gg lo len cp)
 | mp (t gg j:Nat) (v v0:Value) (n:Nat):t < N→g.own t=some (v0,n)→gg≤n→(gg=n→∃ b l cap,v0=.slice (some ⟨b,0,none⟩) l cap∧v=.pointer (some ⟨b,j,none⟩))→(∃ a,v=.pointer a)→RepV g N w v (.mp t gg j)
 | mapv (i:Nat):i < N∧g.live i→RepV g N w (.map (some (g.blk i))) (.mapv i)
 | empv (b:Bool) (v:Value):(b=true→v=.slice none 0 0)→(b=false→∃ a cap,v=.slice (some a) 0 cap)→RepV g N w v (.empv b)
 | undef (v:Value):RepV g N w v .undef

structure Ext (N:Nat) (g:Gh) (w:World) (g':Gh) (w':World):Prop where
 S:∀ b o,g.S b o→g'.S b o
 cell:∀ b o,g.S b o→w'.cell? ⟨b,o,none⟩=w.cell? ⟨b,o,none⟩
 blk:∀ i,i < N→g.live i→g'.blk i=g.blk i∧g'.live i
 own:∀ t,t < N→∀ v n,g.own t=some (v,n)→∃ v' n',g'.own t=some (v',n')∧n≤n'∧(n'=n→v'=v)

theorem Ext.refl (N:Nat) (g:Gh) (w:World):Ext N g w g w:=⟨fun _ _ h=>h,fun _ _ _=>rfl,fun _ _ h=>⟨rfl,h⟩,fun _ _ v n h=>⟨v,n,h,j7 _,fun _=>rfl⟩⟩
theorem Ext.trans {N N':Nat} {g g1 g2:Gh} {w w1 w2:World} (h:Ext N g w g1 w1) (k:Ext N' g1 w1 g2 w2) (hN:N≤N'):Ext N g w g2 w2 :=
 ⟨fun b o hs=>k.S b o (h.S b o hs),fun b o hs=>(k.cell b o (h.S b o hs)).trans (h.cell b o hs),fun i hi hl=>⟨(k.blk i (jP hi hN) (h.blk i hi hl).2).1.trans (h.blk i hi hl).1,(k.blk i (jP hi hN) (h.blk i hi hl).2).2⟩,fun t ht v n hv=>by
  obtain ⟨v1,n1,h1,h2,h3⟩:=h.own t ht v n hv;obtain ⟨v2,n2,k1,k2,k3⟩:=k.own t (jP ht hN) v1 n1 h1
  exact ⟨v2,n2,k1,jW h2 k2,fun e=>by
   have e1:n1=n:=by omega
   have e2:n2=n1:=by omega
   rw [k3 e2,h3 e1]⟩⟩
theorem Ext.less {N N':Nat} {g g':Gh} {w w':World} (h:Ext N' g w g' w') (hN:N≤N'):Ext N g w g' w' :=
 ⟨h.S,h.cell,fun i hi=>h.blk i (jP hi hN),fun t ht=>h.own t (jP ht hN)⟩

theorem RepD.ext {N:Nat} {g g':Gh} {w w':World} (h:Ext N g w g' w') {v:Value} {d:Dat} (hr:RepD w g.S v d):RepD w' g'.S v d:=hr.mono h.S h.cell

theorem RepV.ext {N N':Nat} {g g':Gh} {w w':World} (h:Ext N g w g' w') (hN:N≤N') {v:Value} {p:PV} (hr:RepV g N w v p):RepV g' N' w' v p:=by
 induction hr with
 | dat v d hd=>exact .dat v d (hd.ext h)
 | agg vs cs h1 _ ih=>exact .agg vs cs h1 ih
 | tup vs cs h1 _ ih=>exact .tup vs cs h1 ih
 | vec v t es v0 n h1 h2 h3 h4 h5 =>
  obtain ⟨v',n',k1,k2,k3⟩:=h.own t h1 v0 n h3
  exact .vec v t es v' n' (jP h1 hN) (h2.ext h) k1 (jW h4 k2) (fun e=>by
   have e1:n'=n:=by omega
   rw [k3 e1]; exact h5 y5)
 | ptr i o hi=>rw [← (h.blk i hi.1 hi.2).1]; exact .ptr i o ⟨jP hi.1 hN,(h.blk i hi.1 hi.2).2⟩
 | iptr b o cs c h1 h2=>exact .iptr b o cs c (fun i hi=>⟨(h.cell _ _ (h1 i hi).2).trans (h1 i hi).1,h.S _ _ (h1 i hi).2⟩) (fun i u hu=>(h2 i u hu).ext h)
 | arr i o len cap hi hc=>rw [← (h.blk i hi.1 hi.2).1]; exact .arr i o len cap ⟨jP hi.1 hN,(h.blk i hi.1 hi.2).2⟩ hc
 | fn f vs cs h1 _ ih=>exact .fn f vs cs h1 ih
 | ms t gg lo len cp v v0 n h1 h2 h3 h4 h5 =>
  obtain ⟨v',n',k1,k2,k3⟩:=h.own t h1 v0 n h2;exact .ms t gg lo len cp v v' n' (jP h1 hN) k1 (jW h3 k2) (fun e=>by rw [k3 y5]; exact h4 y5) h5
 | mp t gg j v v0 n h1 h2 h3 h4 h5 =>
  obtain ⟨v',n',k1,k2,k3⟩:=h.own t h1 v0 n h2;exact .mp t gg j v v' n' (jP h1 hN) k1 (jW h3 k2) (fun e=>by rw [k3 y5]; exact h4 y5) h5
 | mapv i hi=>rw [← (h.blk i hi.1 hi.2).1]; exact .mapv i ⟨jP hi.1 hN,(h.blk i hi.1 hi.2).2⟩
 | empv b v h1 h2=>exact .empv b v h1 h2
 | undef v=>exact .undef v

def TokOK (P:Program) (g:Gh) (B0:Nat) (w:World) (e:TypeId) (n:Nat) (v0:Value):Prop :=
 (v0=.slice none 0 0∧n=0) ∨
 ∃ b cap cur size,v0=.slice (some ⟨b,0,none⟩) n cap∧B0≤b∧w.heap[b]? = some (.cells cur e (0,0))∧szOf P e=some size∧n≤cap∧cap≤maxLen∧cur.size=cap * size∧∀ o,g.S b o→o < n * size

def BoxOK (g:Gh) (N B0:Nat) (w:World) (b:Nat) (cs:List PV):Prop :=
 B0≤b∧(∃ vals ty,w.heap[b]? = some (.cells vals ty (0,0))∧vals.size=cs.length∧∀ (j:Nat) v c,vals[j]? = some v→cs[j]? = some c→RepV g N w v c)∧∀ o,¬ g.S b o

def mtBlock:Value→Option Nat
 | .slice (some a) _ cap=>if cap=0 then none else some a.block
 | _=>none
def MulOK (P:Program) (g:Gh) (B0:Nat) (w:World) (e:TypeId) (cs:List PV) (v0:Value):Prop :=
 ∃ (b n cap:Nat) (cur:Array Value) (size:Nat) (ds:List Dat),v0=.slice (some ⟨b,0,none⟩) n cap∧0 < cap∧B0≤b∧w.heap[b]? = some (.cells cur e (0,0))∧szOf P e=some size∧1 < size∧cs=ds.map PV.dat∧ds.all (Dat.fits size)=true∧ds.length≤cap∧cap≤maxLen∧cur.size=cap * size∧(∀ o,¬ g.S b o) ∧
  ∀ (i j:Nat) d u v,ds[i]? = some d→d.cells[j]? = some u→cur[i * size+j]? = some v→RepD w g.S v u
def MtOK (P:Program) (g:Gh) (N B0:Nat) (w:World) (e:TypeId) (cs:List PV) (v0:Value):Prop :=
 (cs=[]∧(v0=.slice none 0 0∨∃ a,v0=.slice (some a) 0 0)) ∨
 (∃ b n cap cur,v0=.slice (some ⟨b,0,none⟩) n cap∧0 < cap∧B0≤b∧w.heap[b]? = some (.cells cur e (0,0))∧(∃ size,szOf P e=some size∧0 < size∧cur.size=cap * size)∧(cs.length≤cur.size∧cs.all PV.flat=true)∧cap≤maxLen∧cap≤cur.size∧(∀ o,¬ g.S b o) ∧
  ∀ (j:Nat) v c,cur[j]? = some v→cs[j]? = some c→RepV g N w v c)∨MulOK P g B0 w e cs v0

theorem one_row {P:Program} {e:TypeId} {n cap l:Nat} {F:Prop} (q:∃ size,szOf P e=some size∧0 < size∧n=cap * size) (hs:szOf P e=some 1) (q4:l≤n∧F):szOf P e=some 1∧(l≤cap∧F)∧n=cap:=by
 obtain ⟨size,h1,h2,h3⟩:=q;rw [hs] at h1; cases h1;exact ⟨hs,⟨by omega,q4.2⟩,by omega⟩
def stampE (arr:Array MapEntry) (clock:Nat):Prop:=(∀ x∈arr.toList,x.born < clock)∧(arr.toList.map (·.born)).Nodup
open Classical in
noncomputable def entriesOf:Obj→Option (Array MapEntry)
 | .map arr clock=>if arr.all (fun e=>notTup e.key)=true∧stampE arr clock then some arr else none
 | .stringIter s pos=>some #[{ key:=.tuple #[.string s],val:=.int .i64 pos,born:=0 }]
 | _=>none
def MapOK (g:Gh) (N B0:Nat) (w:World) (b:Nat) (es:List (Value × PV)):Prop :=
 B0≤b∧(∃ arr o,(w.heap[b]? = some o∧entriesOf o=some arr)∧arr.size=es.length∧∀ (j:Nat) m c,arr[j]? = some m→es[j]? = some c→m.key=c.1∧RepV g N w m.val c.2)∧∀ o,¬ g.S b o

def occ (g:Gh) (H:List Blk) (i:Nat):Option Nat :=
 match H[i]? with
 | some (.box _)=>some (g.blk i)
 | some (.tok _ _)=>(g.own i).bind fun x=>x.1.ownBlock
 | some (.mt _ _ _)=>(g.own i).bind fun x=>mtBlock x.1
 | some (.map _)=>some (g.blk i)
 | some .hole=>none
 | none=>none

def Blk.placed:Blk→Prop
 | .box _=>True
 | .map _=>True
 | _=>False

structure Ql (P:Program) (g:Gh) (B0 N:Nat) (H:List Blk) (w:World):Prop where
 box:∀ i cs,H[i]? = some (.box cs)→BoxOK g N B0 w (g.blk i) cs
 tok:∀ i e n,H[i]? = some (.tok e n)→∃ v0,g.own i=some (v0,n)∧TokOK P g B0 w e n v0
 mt:∀ i e n cs,H[i]? = some (.mt e n cs)→∃ v0,g.own i=some (v0,n)∧MtOK P g N B0 w e cs v0
 map:∀ i es,H[i]? = some (.map es)→MapOK g N B0 w (g.blk i) es
 mt0:∀ i e cs,H[i]? = some (.mt e 0 cs)→∃ v0,g.own i=some (v0,0)∧mtBlock v0=none
 live:∀ i x,H[i]? = some x→(x.placed→g.live i)∧(x=.hole→¬ g.live i∧g.own i=none)
 sep:∀ i j b,occ g H i=some b→occ g H j=some b→i=j

structure Inv (B0:Nat) (w0:World) (S0:Nat→Nat→Prop) (g:Gh) (w:World):Prop where
 below:Below B0 w0 w
 size:B0≤w.heap.size
 old:∀ b o,g.S b o→S0 b o∨B0≤b
 lt:∀ b o,g.S b o→b < w.heap.size

end Go.Pm
