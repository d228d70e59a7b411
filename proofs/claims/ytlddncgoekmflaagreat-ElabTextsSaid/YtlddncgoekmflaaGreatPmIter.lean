/-
 The pure machine: two parties (an iterator, and the loop that ranges over it), and soundness of the iterator's code.
-/
import Derived.Test.YtlddncgoekmflaaGreatPmPrune
import Derived.RangeFuncOwn
namespace Go.Pm
open Go Go.RowKit
set_option linter.unusedVariables false

section
variable {P:Program} {B0 N:Nat} {w0 w:World} {S0:Nat→Nat→Prop} {g g0:Gh} {H H0:List Blk} {r:Nat} {o o':Obj}

def isMapObj:Obj→Bool
 | .map _ _|.stringIter _ _=>true
 | _=>false
theorem Qr.occ_cells {W:World} (hH:Qr P g B0 N H W) {i b:Nat} (h:occ g H i=some b):∃ x,W.heap[b]? = some x∧(x.isCells=true∨isMapObj x=true):=by
 unfold occ at h
 split at h
 ·rename_i cs hi
  cases h
  obtain ⟨h1,⟨vals,ty,h2,_⟩,_⟩:=hH.box i cs hi
  exact ⟨_,h2,.inl rfl⟩
 ·rename_i e n hi
  obtain ⟨v0,h1,h2⟩:=hH.tok i e n hi
  rw [h1] at h
  rcases h2 with ⟨rfl,_⟩|⟨b',cap,cur,size,rfl,h3,h4,_⟩
  ·simp [Value.ownBlock] at h
  ·simp [Value.ownBlock] at h; subst h; exact ⟨_,h4,.inl rfl⟩
 ·rename_i e n cs hi
  obtain ⟨v0,h1,h2⟩:=hH.mt i e n cs hi
  rw [h1] at h
  rcases h2 with ⟨_,rfl|⟨a,rfl⟩⟩|⟨b',l,cap,cur,rfl,h3,h4,h5,_⟩|⟨b',l,cap,cur,size,ds,rfl,h3,h4,h5,_⟩
  ·simp [mtBlock] at h
  ·simp [mtBlock] at h
  ·simp [mtBlock] at h; obtain ⟨_,rfl⟩:=h; exact ⟨_,h5,.inl rfl⟩
  ·simp [mtBlock] at h; obtain ⟨_,rfl⟩:=h; exact ⟨_,h5,.inl rfl⟩
 ·rename_i es hi
  cases h
  obtain ⟨h1,⟨arr,o,⟨h2,h3⟩,_⟩,_⟩:=hH.map i es hi
  exact ⟨_,h2,.inr (by cases o <;> first|rfl|cases h3)⟩
 ·cases h
 ·cases h

theorem Qr.occ_not {W:World} (hH:Qr P g B0 N H W) (h:W.heap[r]? = some o) (ho:o.isCells=false) (hom:isMapObj o=false) (i:Nat):occ g H i≠some r:=fun e=>by
 obtain ⟨x,hc,hx⟩:=hH.occ_cells e
 rw [h] at hc; cases hc; rcases hx with hx|hx <;> simp_all

theorem Qr.put {W:World} (hH:Qr P g B0 N H W) (hl:H.length≤N) (h:W.heap[r]? = some o) (ho:o.isCells=false) (ho':o'.isCells=false) (hom:isMapObj o=false:=by rfl):Qr P g B0 N H (W.putObj r o') :=
 hH.keep (Ext.put N g h ho ho') (Nat.le_refl _) hl (fun i b hb=>World.putObj_heap_other fun e=>hH.occ_not h ho hom i (by rw [hb,e])) (fun _ _ _ _ h=>h) (fun _ _=>rfl)

theorem Inv.put {W:World} (hi:Inv B0 w0 S0 g W) (hr:B0≤r):Inv B0 w0 S0 g (W.putObj r o') :=
 ⟨Below.putObj hi.below hr,by simpa using hi.size,hi.old,fun b o h=>by simpa using hi.lt b o h⟩

theorem Fr.put {W:World} (hf:Fr g0 H0 w g H W) (hr:w.heap.size≤r):Fr g0 H0 w g H (W.putObj r o') :=
 ⟨by simpa using hf.size,fun b hb hn=>(World.putObj_heap_other (by omega)).trans (hf.keep b hb hn),hf.occ,hf.pub⟩

end

structure Both (P:Program) (B0:Nat) (w0:World) (S0:Nat→Nat→Prop) (h0:Nat) (g:Gh) (H:List Blk) (w:World) (D l:Nat) (r:Loop) (gc:Gh) (Hc:List Blk) (gi:Gh) (Hi:List Blk) (W:World):Prop where
 hc:Qr P gc B0 Hc.length Hc W
 hi:Qr P gi B0 Hi.length Hi W
 inv:Inv B0 w0 S0 gc W
 S:gc.S=gi.S
 ext:Ext h0 g w gc W
 fr:Fr g H w gc Hc W
 dis:∀ i j b,occ gc Hc i=some b→occ gi Hi j=some b→False
 new:∀ j b,occ gi Hi j=some b→w.heap.size≤b
 loop:W.heap[l]? = some (.loop r)
 dfr:W.heap[D]? = some (.deferred (some []))
 hB:B0≤w.heap.size
 hD:w.heap.size≤D
 hl:w.heap.size≤l
 ne:D≠l

section
variable {P:Program} {B0 h0 D l:Nat} {w0 w W W':World} {S0:Nat→Nat→Prop} {g gc gi gc' gi':Gh} {H Hc Hi Hc' Hi':List Blk} {r:Loop}

theorem Inv.ofS {g g':Gh} (h:Inv B0 w0 S0 g w) (e:g'.S=g.S):Inv B0 w0 S0 g' w:=⟨h.below,h.size,fun b o hs=>h.old b o (e ▸ hs),fun b o hs=>h.lt b o (e ▸ hs)⟩

theorem Both.put (hb:Both P B0 w0 S0 h0 g H w D l r gc Hc gi Hi W) (r':Loop):Both P B0 w0 S0 h0 g H w D l r' gc Hc gi Hi (W.putObj l (.loop r')) :=
 ⟨hb.hc.put (Nat.le_refl _) hb.loop rfl rfl,hb.hi.put (Nat.le_refl _) hb.loop rfl rfl,hb.inv.put (Nat.le_trans hb.hB hb.hl),hb.S,hb.ext.trans (Ext.put h0 gc hb.loop rfl rfl) (Nat.le_refl _),hb.fr.put hb.hl,hb.dis,hb.new,
  World.putObj_heap_same (lt_of_heap hb.loop),(World.putObj_heap_other hb.ne).trans hb.dfr,hb.hB,hb.hD,hb.hl,hb.ne⟩

end

section
variable {σ:Type} {P:Program} {B0:Nat} {w0:World} {S0:Nat→Nat→Prop} {Nb l:Nat} {m:Nat} {pf:FuncId→Bool} {call:CallF} {h:Hint} {Y:List Dat→σ→Option (Bool × σ)} {Out:σ→Gh→List Blk→World→Prop}

end
end Go.Pm
