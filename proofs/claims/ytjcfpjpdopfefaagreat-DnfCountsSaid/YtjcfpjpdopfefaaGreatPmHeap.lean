/-
 The pure machine: how its heap stays right when the world turns.
-/
import Derived.Test.YtjcfpjpdopfefaaGreatPmOps1
namespace Go.Pm
open Go Go.RowKit
set_option linter.unusedVariables false
variable {P:Program} {g g':Gh} {B0 N N':Nat} {H:List Blk} {w w':World}

theorem lt_of_heap {w:World} {b:Nat} {o:Obj} (h:w.heap[b]? = some o):b < w.heap.size:=(Array.getElem?_eq_some_iff.1 h).1

theorem occ_box {i:Nat} {cs:List PV} (h:H[i]? = some (.box cs)):occ g H i=some (g.blk i):=by simp [occ,h]
theorem occ_tok {i:Nat} {e:TypeId} {n:Nat} (h:H[i]? = some (.tok e n)):occ g H i=(g.own i).bind fun x=>x.1.ownBlock:=by simp [occ,h]

theorem occ_mt {i:Nat} {e:TypeId} {n:Nat} {cs:List PV} (h:H[i]? = some (.mt e n cs)):occ g H i=(g.own i).bind fun x=>mtBlock x.1:=by simp [occ,h]

theorem occ_map {i:Nat} {es:List (Value × PV)} (h:H[i]? = some (.map es)):occ g H i=some (g.blk i):=by simp [occ,h]
theorem Ql.occ_lt (hH:Ql P g B0 N H w) {i b:Nat} (h:occ g H i=some b):B0≤b∧b < w.heap.size∧i < H.length:=by
 unfold occ at h;split at h
 ·rename_i cs hi;cases h;obtain ⟨h1,⟨vals,ty,h2,_⟩,_⟩:=hH.box i cs hi;exact ⟨h1,lt_of_heap h2,(List.getElem?_eq_some_iff.1 hi).1⟩
 ·rename_i e n hi;obtain ⟨v0,h1,h2⟩:=hH.tok i e n hi;rw [h1] at h;rcases h2 with ⟨rfl,_⟩|⟨b',cap,cur,size,rfl,h3,h4,_⟩
  ·simp [Value.ownBlock] at h
  ·simp [Value.ownBlock] at h; subst h; exact ⟨h3,lt_of_heap h4,(List.getElem?_eq_some_iff.1 hi).1⟩
 ·rename_i e n cs hi;obtain ⟨v0,h1,h2⟩:=hH.mt i e n cs hi;rw [h1] at h;rcases h2 with ⟨_,rfl|⟨a,rfl⟩⟩|⟨b',l,cap,cur,rfl,h3,h4,h5,_⟩|⟨b',l,cap,cur,size,ds,rfl,h3,h4,h5,_⟩
  ·simp [mtBlock] at h
  ·simp [mtBlock] at h
  ·simp [mtBlock] at h; obtain ⟨_,rfl⟩:=h; exact ⟨h4,lt_of_heap h5,(List.getElem?_eq_some_iff.1 hi).1⟩
  ·simp [mtBlock] at h; obtain ⟨_,rfl⟩:=h; exact ⟨h4,lt_of_heap h5,(List.getElem?_eq_some_iff.1 hi).1⟩
 ·rename_i es hi;cases h;obtain ⟨h1,⟨arr,clock,h2,_⟩,_⟩:=hH.map i es hi;exact ⟨h1,lt_of_heap h2.1,(List.getElem?_eq_some_iff.1 hi).1⟩
 ·cases h
 ·cases h

theorem Ql.liveB (hH:Ql P g B0 N H w) {i:Nat} {cs:List PV} (h:H[i]? = some (.box cs)):g.live i:=(hH.live i _ h).1 trivial
theorem Ql.liveM (hH:Ql P g B0 N H w) {i:Nat} {es:List (Value × PV)} (h:H[i]? = some (.map es)):g.live i:=(hH.live i _ h).1 trivial
theorem Ql.noHole (hH:Ql P g B0 N H w) {i:Nat} (h:H[i]? = some .hole):¬ g.live i∧g.own i=none:=(hH.live i _ h).2 rfl

theorem MtOK.keep {e:TypeId} {cs:List PV} {v0:Value} (h:MtOK P g N B0 w e cs v0) (he:Ext N g w g' w') (hN:N≤N') (hb:∀ b,mtBlock v0=some b→w'.heap[b]? = w.heap[b]?)
  (hS:∀ b,mtBlock v0=some b→∀ o,g'.S b o→g.S b o):MtOK P g' N' B0 w' e cs v0:=by
 rcases h with h|⟨b,n,cap,cur,rfl,h0,h1,h2,h3,h4,h5,h6,h7,h8⟩|⟨b,n,cap,cur,size,ds,rfl,h0,h1,h2,h3,h3',h4,h4',h4'',h5,h6,h7,h8⟩
 ·exact .inl h
 ·have hm:mtBlock (.slice (some ⟨b,0,none⟩) n cap)=some b:=by simp [mtBlock]; omega
  exact .inr (.inl ⟨b,n,cap,cur,rfl,h0,h1,by rw [hb b hm,h2],h3,h4,h5,h6,fun o ho=>h7 o (hS b hm o ho),fun j v c a1 a2=>(h8 j v c a1 a2).ext he hN⟩)
 ·have hm:mtBlock (.slice (some ⟨b,0,none⟩) n cap)=some b:=by simp [mtBlock]; omega
  exact .inr (.inr ⟨b,n,cap,cur,size,ds,rfl,h0,h1,by rw [hb b hm,h2],h3,h3',h4,h4',h4'',h5,h6,fun o ho=>h7 o (hS b hm o ho),fun i j d u v a1 a2 a3=>(h8 i j d u v a1 a2 a3).ext he⟩)

theorem TokOK.keep {e:TypeId} {n:Nat} {v0:Value} (h:TokOK P g B0 w e n v0) (hb:∀ b,v0.ownBlock=some b→w'.heap[b]? = w.heap[b]?)
  (hS:∀ b,v0.ownBlock=some b→∀ o,g'.S b o→g.S b o):TokOK P g' B0 w' e n v0:=by
 rcases h with h|⟨b,cap,cur,size,rfl,h1,h2,h3,h4,h5,h6,h7⟩
 ·exact .inl h
 ·exact .inr ⟨b,cap,cur,size,rfl,h1,by rw [hb b (by simp [Value.ownBlock]),h2],h3,h4,h5,h6,fun o ho=>h7 o (hS b (by simp [Value.ownBlock]) o ho)⟩

theorem Ql.keep (hH:Ql P g B0 N H w) (he:Ext N g w g' w') (hN:N≤N') (hl:H.length≤N)
  (hb:∀ i b,occ g H i=some b→w'.heap[b]? = w.heap[b]?) (hS:∀ i b,occ g H i=some b→∀ o,g'.S b o→g.S b o)
  (hown:∀ t,t < H.length→g'.own t=g.own t) (hlive:∀ i,i < H.length→g'.live i→g.live i:=by first|exact fun _ _ h=>h|exact fun i hi h=>Or.resolve_left h y5):Ql P g' B0 N' H w':=by
 have hlt:∀ {i:Nat} {b:Blk},H[i]? = some b→i < H.length:=fun h=>(List.getElem?_eq_some_iff.1 h).1
 have hocc:∀ i,occ g' H i=occ g H i:=fun i=>by
  unfold occ;split
  ·rename_i hi; rw [(he.blk i (jP (hlt hi) hl) (hH.liveB hi)).1]
  ·rename_i hi; rw [hown i (hlt hi)]
  ·rename_i hi; rw [hown i (hlt hi)]
  ·rename_i hi; rw [(he.blk i (jP (hlt hi) hl) (hH.liveM hi)).1]
  ·rfl
  ·rfl
 refine ⟨fun i cs hi=>?_,fun i e n hi=>?_,fun i e n cs hi=>?_,fun i es hi=>?_,fun i e cs hi=>by rw [hown i (hlt hi)]; exact hH.mt0 i e cs hi,fun i x hi=>⟨fun hp=>(he.blk i (jP (hlt hi) hl) ((hH.live i x hi).1 hp)).2,fun hx=>⟨fun hg=>((hH.live i x hi).2 hx).1 (hlive i (hlt hi) hg),by rw [hown i (hlt hi)]; exact ((hH.live i x hi).2 hx).2⟩⟩,fun i j b h1 h2=>hH.sep i j b (by rw [← hocc]; exact h1) (by rw [← hocc]; exact h2)⟩
 ·obtain ⟨h1,⟨vals,ty,h2,h3,h4⟩,h5⟩:=hH.box i cs hi;rw [(he.blk i (jP (hlt hi) hl) (hH.liveB hi)).1];refine ⟨h1,⟨vals,ty,by rw [hb i _ (occ_box hi),h2],h3,fun j v c g1 g2=>(h4 j v c g1 g2).ext he hN⟩,fun o ho=>h5 o (hS i _ (occ_box hi) o ho)⟩
 ·obtain ⟨v0,h1,h2⟩:=hH.tok i e n hi;have ho:∀ b,v0.ownBlock=some b→occ g H i=some b:=fun b hb=>by rw [occ_tok hi,h1]; exact hb
  exact ⟨v0,by rw [hown i (hlt hi),h1],h2.keep (fun b h=>hb i b (ho b h)) (fun b h=>hS i b (ho b h))⟩
 ·obtain ⟨v0,h1,h2⟩:=hH.mt i e n cs hi;have ho:∀ b,mtBlock v0=some b→occ g H i=some b:=fun b hb=>by rw [occ_mt hi,h1]; exact hb
  exact ⟨v0,by rw [hown i (hlt hi),h1],h2.keep he hN (fun b h=>hb i b (ho b h)) (fun b h=>hS i b (ho b h))⟩
 ·obtain ⟨h1,⟨arr,clock,h2,h3,h4⟩,h5⟩:=hH.map i es hi;rw [(he.blk i (jP (hlt hi) hl) (hH.liveM hi)).1];exact ⟨h1,⟨arr,clock,⟨by rw [hb i _ (occ_map hi),h2.1],h2.2⟩,h3,fun j v c g1 g2=>⟨(h4 j v c g1 g2).1,(h4 j v c g1 g2).2.ext he hN⟩⟩,fun o ho=>h5 o (hS i _ (occ_map hi) o ho)⟩

theorem Ql.snoc (hH:Ql P g B0 N H w) (x:Blk) (hbox:∀ cs,x=.box cs→BoxOK g N B0 w (g.blk H.length) cs)
  (htok:∀ e n,x=.tok e n→∃ v0,g.own H.length=some (v0,n)∧TokOK P g B0 w e n v0)
  (hsep:∀ i b,occ g H i=some b→occ g (H++[x]) H.length≠some b)
  (hmt:∀ e n cs,x=.mt e n cs→∃ v0,g.own H.length=some (v0,n)∧MtOK P g N B0 w e cs v0:=by intro _ _ _ h; cases h)
  (hmap:∀ es,x=.map es→MapOK g N B0 w (g.blk H.length) es:=by intro _ h; cases h)
  (hmt0:∀ e cs,x=.mt e 0 cs→∃ v0,g.own H.length=some (v0,0)∧mtBlock v0=none:=by intro _ _ h; cases h)
  (hpl:x.placed→g.live H.length:=by first|exact fun h=>h.elim|exact fun _=>Or.inl rfl|exact fun _=>by assumption) (hhole:x=.hole→¬ g.live H.length∧g.own H.length=none:=by intro h; cases h):Ql P g B0 N (H++[x]) w:=by
 have hget:∀ i,(H++[x])[i]? = if i < H.length then H[i]? else if i=H.length then some x else none:=fun i=>by
  rw [jT];split
  ·rfl
  ·rename_i h;by_cases e:i=H.length
   ·subst e; simp
   ·simp [e]; omega
 have hocc:∀ i,i < H.length→occ g (H++[x]) i=occ g H i:=fun i hi=>by simp [occ,hget,hi]
 have hocc':∀ i b,occ g (H++[x]) i=some b→i≤H.length:=fun i b h=>by
  unfold occ at h; rw [hget] at h;by_cases h1:i < H.length
  ·omega
  ·by_cases h2:i=H.length
   ·omega
   ·simp [h1,h2] at h
 refine ⟨fun i cs hi=>?_,fun i e n hi=>?_,fun i e n cs hi=>?_,fun i es hi=>?_,fun i e cs hi=>?_,fun i y hi=>?_,fun i j b h1 h2=>?_⟩
 ·rw [hget] at hi;split at hi
  ·exact hH.box i cs hi
  ·split at hi
   ·rename_i e; subst e; exact hbox cs (by simpa using hi)
   ·cases hi
 ·rw [hget] at hi;split at hi
  ·exact hH.tok i e n hi
  ·split at hi
   ·rename_i e'; subst e'; exact htok e n (by simpa using hi)
   ·cases hi
 ·rw [hget] at hi;split at hi
  ·exact hH.mt i e n cs hi
  ·split at hi
   ·rename_i e'; subst e'; exact hmt e n cs (by simpa using hi)
   ·cases hi
 ·rw [hget] at hi;split at hi
  ·exact hH.map i es hi
  ·split at hi
   ·rename_i e'; subst e'; exact hmap es (by simpa using hi)
   ·cases hi
 ·rw [hget] at hi;split at hi
  ·exact hH.mt0 i e cs hi
  ·split at hi
   ·rename_i e'; subst e'; exact hmt0 e cs (by simpa using hi)
   ·cases hi
 ·rw [hget] at hi;split at hi
  ·exact hH.live i y hi
  ·split at hi
   ·rename_i e'; subst e';obtain rfl:x=y:=by simpa using hi
    exact ⟨hpl,hhole⟩
   ·cases hi
 ·have a1:=hocc' i b h1;have a2:=hocc' j b h2;by_cases c1:i < H.length <;> by_cases c2:j < H.length
  ·exact hH.sep i j b (by rw [← hocc i c1]; exact h1) (by rw [← hocc j c2]; exact h2)
  ·obtain rfl:j=H.length:=by omega
   exact absurd h2 (hsep i b (by rw [← hocc i c1]; exact h1))
  ·obtain rfl:i=H.length:=by omega
   exact absurd h1 (hsep j b (by rw [← hocc j c2]; exact h2))
  ·omega

theorem Ql.turn (hH:Ql P g B0 N H w) (he:Ext N g w g' w') (hN:N≤N') (hl:H.length≤N) {k:Nat} (x:Blk) (hk:k < H.length)
  (hb:∀ i b,i≠k→occ g H i=some b→w'.heap[b]? = w.heap[b]?) (hS:∀ i b,i≠k→occ g H i=some b→∀ o,g'.S b o→g.S b o)
  (hown:∀ t,t < H.length→t≠k→g'.own t=g.own t)
  (hbox:∀ cs,x=.box cs→BoxOK g' N' B0 w' (g'.blk k) cs)
  (htok:∀ e n,x=.tok e n→∃ v0,g'.own k=some (v0,n)∧TokOK P g' B0 w' e n v0)
  (hsep:∀ i b,i≠k→occ g H i=some b→occ g' (H.set k x) k≠some b)
  (hmt:∀ e n cs,x=.mt e n cs→∃ v0,g'.own k=some (v0,n)∧MtOK P g' N' B0 w' e cs v0:=by intro _ _ _ h; cases h)
  (hmap:∀ es,x=.map es→MapOK g' N' B0 w' (g'.blk k) es:=by intro _ h; cases h)
  (hmt0:∀ e cs,x=.mt e 0 cs→∃ v0,g'.own k=some (v0,0)∧mtBlock v0=none:=by intro _ _ h; cases h)
  (hpl:x.placed→g'.live k:=by first|exact fun h=>h.elim|exact fun _=>Or.inl rfl|exact fun _=>by assumption) (hhole:x≠.hole:=by intro h; cases h)
  (hlive:∀ i,i < H.length→i≠k→g'.live i→g.live i:=by first|exact fun _ _ _ h=>h|exact fun i hi _ h=>Or.resolve_left h y5):Ql P g' B0 N' (H.set k x) w':=by
 have hlt:∀ {i:Nat} {b:Blk},H[i]? = some b→i < H.length:=fun h=>(List.getElem?_eq_some_iff.1 h).1
 have hget:∀ i,(H.set k x)[i]? = if i=k then some x else H[i]?:=fun i=>by
  rw [zC];by_cases e:k=i
  ·subst e; simp [hk]
  ·have e':i≠k:=fun h=>e h.symm
   simp [e,e']
 have hocc:∀ i,i≠k→occ g' (H.set k x) i=occ g H i:=fun i hi=>by
  unfold occ; rw [hget,if_neg hi];split
  ·rename_i h; rw [(he.blk i (jP (hlt h) hl) (hH.liveB h)).1]
  ·rename_i h; rw [hown i (hlt h) hi]
  ·rename_i h; rw [hown i (hlt h) hi]
  ·rename_i h; rw [(he.blk i (jP (hlt h) hl) (hH.liveM h)).1]
  ·rfl
  ·rfl
 refine ⟨fun i cs hi=>?_,fun i e n hi=>?_,fun i e n cs hi=>?_,fun i es hi=>?_,fun i e cs hi=>?_,fun i y hi=>?_,fun i j b h1 h2=>?_⟩
 ·rw [hget] at hi;split at hi
  ·rename_i e; subst e; exact hbox cs (by simpa using hi)
  ·rename_i hik;obtain ⟨h1,⟨vals,ty,h2,h3,h4⟩,h5⟩:=hH.box i cs hi;rw [(he.blk i (jP (hlt hi) hl) (hH.liveB hi)).1];exact ⟨h1,⟨vals,ty,by rw [hb i _ hik (occ_box hi),h2],h3,fun j v c g1 g2=>(h4 j v c g1 g2).ext he hN⟩,fun o ho=>h5 o (hS i _ hik (occ_box hi) o ho)⟩
 ·rw [hget] at hi;split at hi
  ·rename_i e'; subst e'; exact htok e n (by simpa using hi)
  ·rename_i hik;obtain ⟨v0,h1,h2⟩:=hH.tok i e n hi;have ho:∀ b,v0.ownBlock=some b→occ g H i=some b:=fun b hb=>by rw [occ_tok hi,h1]; exact hb
   exact ⟨v0,by rw [hown i (hlt hi) hik,h1],h2.keep (fun b h=>hb i b hik (ho b h)) (fun b h=>hS i b hik (ho b h))⟩
 ·rw [hget] at hi;split at hi
  ·rename_i e'; subst e'; exact hmt e n cs (by simpa using hi)
  ·rename_i hik;obtain ⟨v0,h1,h2⟩:=hH.mt i e n cs hi;have ho:∀ b,mtBlock v0=some b→occ g H i=some b:=fun b hb=>by rw [occ_mt hi,h1]; exact hb
   exact ⟨v0,by rw [hown i (hlt hi) hik,h1],h2.keep he hN (fun b h=>hb i b hik (ho b h)) (fun b h=>hS i b hik (ho b h))⟩
 ·rw [hget] at hi;split at hi
  ·rename_i e'; subst e'; exact hmap es (by simpa using hi)
  ·rename_i hik;obtain ⟨h1,⟨arr,clock,h2,h3,h4⟩,h5⟩:=hH.map i es hi;rw [(he.blk i (jP (hlt hi) hl) (hH.liveM hi)).1];exact ⟨h1,⟨arr,clock,⟨by rw [hb i _ hik (occ_map hi),h2.1],h2.2⟩,h3,fun j v c g1 g2=>⟨(h4 j v c g1 g2).1,(h4 j v c g1 g2).2.ext he hN⟩⟩,fun o ho=>h5 o (hS i _ hik (occ_map hi) o ho)⟩
 ·rw [hget] at hi;split at hi
  ·rename_i e'; subst e'; exact hmt0 e cs (by simpa using hi)
  ·rename_i hik;rw [hown i (hlt hi) hik]; exact hH.mt0 i e cs hi
 ·rw [hget] at hi;split at hi
  ·rename_i e'; subst e';obtain rfl:x=y:=by simpa using hi
   exact ⟨hpl,fun e=>absurd e hhole⟩
  ·rename_i hik;exact ⟨fun hp=>(he.blk i (jP (hlt hi) hl) ((hH.live i y hi).1 hp)).2,fun hx=>⟨fun hg=>((hH.live i y hi).2 hx).1 (hlive i (hlt hi) hik hg),by rw [hown i (hlt hi) hik]; exact ((hH.live i y hi).2 hx).2⟩⟩
 ·by_cases c1:i=k <;> by_cases c2:j=k
  ·omega
  ·subst c1; exact absurd h1 (hsep j b c2 (by rw [← hocc j c2]; exact h2))
  ·subst c2; exact absurd h2 (hsep i b c1 (by rw [← hocc i c1]; exact h1))
  ·exact hH.sep i j b (by rw [← hocc i c1]; exact h1) (by rw [← hocc j c2]; exact h2)

theorem cell_alloc {w:World} (o:Obj) {a:Addr} (h:a.block < w.heap.size):(w.alloc o).cell? a=w.cell? a :=
 World.cell?_of_block (Below.heap_alloc w o a.block h)

theorem Inv.alloc {w0:World} {S0:Nat→Nat→Prop} (h:Inv B0 w0 S0 g w) (o:Obj):Inv B0 w0 S0 g (w.alloc o) :=
 ⟨h.below.alloc h.size o,by simp; exact Nat.le_succ_of_le h.size,h.old,fun b o' hs=>by simp; exact Nat.lt_succ_of_lt (h.lt b o' hs)⟩

def Gh.box (g:Gh) (i b:Nat):Gh:={ g with blk:=fun j=>if j=i then b else g.blk j,live:=fun j=>j=i∨g.live j }
def Gh.pub (g:Gh) (b n:Nat):Gh:={ g with S:=fun b' o=>g.S b' o∨(b'=b∧o < n) }
def Gh.give (g:Gh) (t:Nat) (v:Value) (n:Nat):Gh:={ g with own:=fun j=>if j=t then some (v,n) else g.own j }

theorem Ext.alloc {w0:World} {S0:Nat→Nat→Prop} (h:Inv B0 w0 S0 g w) (N:Nat) (o:Obj):Ext N g w g (w.alloc o) :=
 ⟨fun _ _ h=>h,fun b o' hs=>cell_alloc o (h.lt b o' hs),fun _ _ h=>⟨rfl,h⟩,fun _ _ v n h=>⟨v,n,h,j7 _,fun _=>rfl⟩⟩
theorem Ext.box (N:Nat) {i:Nat} (b:Nat) (hi:N≤i):Ext N g w (g.box i b) w :=
 ⟨fun _ _ h=>h,fun _ _ _=>rfl,fun j hj hl=>⟨by simp only [Gh.box]; rw [if_neg y5],.inr hl⟩,fun _ _ v n h=>⟨v,n,h,j7 _,fun _=>rfl⟩⟩
theorem Ext.pub (N b n:Nat):Ext N g w (g.pub b n) w :=
 ⟨fun _ _ h=>.inl h,fun _ _ _=>rfl,fun j hj hl=>⟨rfl,hl⟩,fun _ _ v n h=>⟨v,n,h,j7 _,fun _=>rfl⟩⟩
theorem Ext.giveNew (N:Nat) {t:Nat} (v:Value) (n:Nat) (ht:N≤t):Ext N g w (g.give t v n) w :=
 ⟨fun _ _ h=>h,fun _ _ _=>rfl,fun j hj hl=>⟨rfl,hl⟩,fun t' ht' v' n' h=>⟨v',n',by simp only [Gh.give]; rw [if_neg y5]; exact h,j7 _,fun _=>rfl⟩⟩

theorem Ql.alloc {w0:World} {S0:Nat→Nat→Prop} (hH:Ql P g B0 N H w) (hi:Inv B0 w0 S0 g w) (hl:H.length≤N) (o:Obj):Ql P g B0 N H (w.alloc o) :=
 hH.keep (Ext.alloc hi N o) (j7 _) hl (fun i b hb=>Below.heap_alloc w o b (hH.occ_lt hb).2.1) (fun _ _ _ _ h=>h) (fun _ _=>rfl)


structure Fr (g:Gh) (H:List Blk) (w:World) (g':Gh) (H':List Blk) (w':World):Prop where
 size:w.heap.size≤w'.heap.size
 keep:∀ b,b < w.heap.size→(∀ i,occ g H i≠some b)→w'.heap[b]? = w.heap[b]?
 occ:∀ i b,occ g' H' i=some b→b < w.heap.size→∃ j,occ g H j=some b
 pub:∀ b o,g'.S b o→g.S b o∨w.heap.size≤b∨∃ i,Pm.occ g H i=some b

theorem Fr.refl (g:Gh) (H:List Blk) (w:World):Fr g H w g H w:=⟨j7 _,fun _ _ _=>rfl,fun i b h _=>⟨i,h⟩,fun _ _ h=>.inl h⟩
theorem Fr.trans {g g1 g2:Gh} {H H1 H2:List Blk} {w w1 w2:World} (h:Fr g H w g1 H1 w1) (k:Fr g1 H1 w1 g2 H2 w2):Fr g H w g2 H2 w2 :=
 ⟨jW h.size k.size,fun b hb hn=>(k.keep b (jP hb h.size) (fun i hi=>by obtain ⟨j,hj⟩:=h.occ i b hi hb; exact hn j hj)).trans (h.keep b hb hn),
  fun i b hi hb=>by obtain ⟨j,hj⟩:=k.occ i b hi (jP hb h.size); exact h.occ j b hj hb,
  fun b o hs=>by
  rcases k.pub b o hs with hs|hs|⟨i,hi⟩
  ·exact h.pub b o hs
  ·exact .inr (.inl (jW h.size hs))
  ·by_cases hb:b < w.heap.size
   ·exact .inr (.inr (h.occ i b hi hb))
   ·exact .inr (.inl (Nat.le_of_not_lt hb))⟩
theorem Fr.old {g g':Gh} {H H':List Blk} {w w':World} (hs:w.heap.size≤w'.heap.size) (hk:∀ b,b < w.heap.size→w'.heap[b]? = w.heap[b]?)
  (ho:∀ i b,Pm.occ g' H' i=some b→b < w.heap.size→∃ j,Pm.occ g H j=some b)
  (hp:∀ b o,g'.S b o→g.S b o∨w.heap.size≤b∨∃ i,Pm.occ g H i=some b:=by exact fun b o h=>.inl h):Fr g H w g' H' w':=⟨hs,fun b hb _=>hk b hb,ho,hp⟩

theorem occ_snoc {x:Blk} {i b:Nat} (h:occ g (H++[x]) i=some b) (hx:∀ e n cs,x≠.mt e n cs:=by intro _ _ _ h; cases h) (hy:∀ es,x≠.map es:=by intro _ h; cases h):occ g H i=some b∨(i=H.length∧((∃ cs,x=.box cs∧b=g.blk H.length)∨(∃ e n,x=.tok e n∧(g.own H.length).bind (fun x=>x.1.ownBlock)=some b))):=by
 unfold occ at h ⊢;rw [jT] at h;by_cases hi:i < H.length
 ·rw [if_pos hi] at h; exact .inl h
 ·rw [if_neg hi] at h;by_cases e:i=H.length
  ·subst e;simp only [Nat.sub_self,List.getElem?_cons_zero] at h;right;refine ⟨rfl,?_⟩;cases x with
   | box cs=>exact .inl ⟨cs,rfl,(jS h).symm⟩
   | tok e n=>exact .inr ⟨e,n,rfl,h⟩
   | mt e n cs=>exact absurd rfl (hx e n cs)
   | map es=>exact absurd rfl (hy es)
   | hole=>cases h
  ·have:([x]:List Blk)[i - H.length]? = none:=List.getElem?_eq_none y6
   rw [this] at h; cases h

theorem occ_ghost {i b:Nat} (h:occ g' H i=some b) (hb:∀ j,j < H.length→g'.blk j=g.blk j) (ho:∀ j,j < H.length→g'.own j=g.own j):occ g H i=some b:=by
 have hlt:∀ {x:Blk},H[i]? = some x→i < H.length:=fun h=>(List.getElem?_eq_some_iff.1 h).1
 unfold occ at h ⊢;split at h
 ·rename_i hi; rw [hb i (hlt hi)] at h; exact h
 ·rename_i hi; rw [ho i (hlt hi)] at h; exact h
 ·rename_i hi; rw [ho i (hlt hi)] at h; exact h
 ·rename_i hi; rw [hb i (hlt hi)] at h; exact h
 ·cases h
 ·cases h

theorem occ_set {x:Blk} {k i b:Nat} (hk:k < H.length) (h:occ g (H.set k x) i=some b) (hx:∀ e n cs,x≠.mt e n cs:=by intro _ _ _ h; cases h) (hy:∀ es,x≠.map es:=by intro _ h; cases h):(i≠k∧occ g H i=some b)∨(i=k∧((∃ cs,x=.box cs∧b=g.blk k)∨(∃ e n,x=.tok e n∧(g.own k).bind (fun x=>x.1.ownBlock)=some b))):=by
 unfold occ at h ⊢;rw [zC] at h;by_cases e:k=i
 ·subst e;rw [if_pos rfl,if_pos hk] at h;right;refine ⟨rfl,?_⟩;cases x with
  | box cs=>exact .inl ⟨cs,rfl,(jS h).symm⟩
  | tok e n=>exact .inr ⟨e,n,rfl,h⟩
  | mt e n cs=>exact absurd rfl (hx e n cs)
  | map es=>exact absurd rfl (hy es)
  | hole=>cases h
 ·rw [if_neg e] at h;exact .inl ⟨fun e'=>e e'.symm,h⟩

theorem occ_snoc_mt {te:TypeId} {n:Nat} {cs:List PV} {i b:Nat} (h:occ g (H++[.mt te n cs]) i=some b):occ g H i=some b∨(i=H.length∧(g.own H.length).bind (fun x=>mtBlock x.1)=some b):=by
 unfold occ at h ⊢;rw [jT] at h;by_cases hi:i < H.length
 ·rw [if_pos hi] at h; exact .inl h
 ·rw [if_neg hi] at h;by_cases e:i=H.length
  ·subst e;simp only [Nat.sub_self,List.getElem?_cons_zero] at h;exact .inr ⟨rfl,h⟩
  ·have:([Blk.mt te n cs]:List Blk)[i - H.length]? = none:=List.getElem?_eq_none y6
   rw [this] at h; cases h
theorem occ_set_mt {te:TypeId} {n:Nat} {cs:List PV} {k i b:Nat} (hk:k < H.length) (h:occ g (H.set k (.mt te n cs)) i=some b):(i≠k∧occ g H i=some b)∨(i=k∧(g.own k).bind (fun x=>mtBlock x.1)=some b):=by
 unfold occ at h ⊢;rw [zC] at h;by_cases e:k=i
 ·subst e;rw [if_pos rfl,if_pos hk] at h;exact .inr ⟨rfl,h⟩
 ·rw [if_neg e] at h;exact .inl ⟨fun e'=>e e'.symm,h⟩

theorem occ_snoc_map {es:List (Value × PV)} {i b:Nat} (h:occ g (H++[.map es]) i=some b):occ g H i=some b∨(i=H.length∧b=g.blk H.length):=by
 unfold occ at h ⊢;rw [jT] at h;by_cases hi:i < H.length
 ·rw [if_pos hi] at h; exact .inl h
 ·rw [if_neg hi] at h;by_cases e:i=H.length
  ·subst e;simp only [Nat.sub_self,List.getElem?_cons_zero,j9] at h;exact .inr ⟨rfl,h.symm⟩
  ·have:([Blk.map es]:List Blk)[i - H.length]? = none:=List.getElem?_eq_none y6
   rw [this] at h; cases h
theorem occ_set_map {es:List (Value × PV)} {k i b:Nat} (hk:k < H.length) (h:occ g (H.set k (.map es)) i=some b):(i≠k∧occ g H i=some b)∨(i=k∧b=g.blk k):=by
 unfold occ at h ⊢;rw [zC] at h;by_cases e:k=i
 ·subst e;rw [if_pos rfl,if_pos hk] at h;simp only [j9] at h;exact .inr ⟨rfl,h.symm⟩
 ·rw [if_neg e] at h;exact .inl ⟨fun e'=>e e'.symm,h⟩

end Go.Pm
