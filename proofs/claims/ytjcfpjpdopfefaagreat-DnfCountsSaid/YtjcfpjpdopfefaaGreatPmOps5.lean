/-
 The pure machine: soundness of new variables with tokens, built structs, literal lists, made lists.
-/
import Derived.Test.YtjcfpjpdopfefaaGreatPmOps4
namespace Go.Pm
open Go Go.RowKit
set_option linter.unusedVariables false
section
variable {P:Program} {B0 N:Nat} {w0:World} {S0:Nat→Nat→Prop} {g:Gh} {H H':List Blk} {w:World} {p:PV} {o:Oper} {a:Act} {ρ:Operand→PV}

def Gh.nils (g:Gh) (k n:Nat):Gh:={ g with own:=fun t=>if k≤t∧t < k+n then some (.slice none 0 0,0) else g.own t }

theorem Ext.nils {k:Nat} (n:Nat) (hk:N≤k):Ext N g w (g.nils k n) w :=
 ⟨fun _ _ h=>h,fun _ _ _=>rfl,fun _ _ h=>⟨rfl,h⟩,fun t ht v m h=>⟨v,m,by simp only [Gh.nils]; rw [if_neg y5]; exact h,j7 _,fun _=>rfl⟩⟩

theorem tokCells_ok:∀ (ow:List (Nat × TypeId)) (k:Nat) (cs cs':List PV) (bs:List Blk),tokCells k cs ow=some (cs',bs)→∀ (vals:Array Value),
  (∀ j,j∈ow.map (·.1)→cs[j]? = some (.dat (.lst []))→vals[j]? = some (.slice none 0 0)) →
  (∀ x,x∈bs→∃ e,x=.tok e 0)∧cs'.length=cs.length ∧
  ∀ (j:Nat) v c',vals[j]? = some v→cs'[j]? = some c'→cs[j]? = some c'∨∃ t,k≤t∧t < k+bs.length∧c'=.vec t []∧v=.slice none 0 0
 | [],k,cs,cs',bs,h,vals,_=>by
  cases h; exact ⟨fun x hx=>(by cases hx),rfl,fun j v c' _ h=>.inl h⟩
 | (j,e)::r,k,cs,cs',bs,h,vals,hn=>by
  unfold tokCells at h;split at h
  ·rename_i hj;split at h
   ·rename_i cs1 bs1 hr;cases h
    obtain ⟨h1,h2,h3⟩:=tokCells_ok r (k+1) _ _ _ hr vals (fun j' hj' hc=>by
     refine hn j' (by simp at hj' ⊢; exact .inr hj') ?_;rw [zC] at hc;by_cases e':j=j'
     ·subst e'; exact hj
     ·rw [if_neg e'] at hc; exact hc)
    refine ⟨fun x hx=>?_,by rw [h2]; simp,fun j' v c' g1 g2=>?_⟩
    ·cases hx with
     | head=>exact ⟨e,rfl⟩
     | tail _ hx=>exact h1 x hx
    ·rcases h3 j' v c' g1 g2 with h|⟨t,t1,t2,t3,t4⟩
     ·rw [zC] at h;by_cases e':j=j'
      ·subst e';by_cases hlt:j < cs.length
       ·rw [if_pos rfl,if_pos hlt] at h;cases h;exact .inr ⟨k,j7 _,by simp,rfl,by have:=hn j y7 hj; rw [g1] at this; exact jS this⟩
       ·rw [if_pos rfl,if_neg hlt] at h; cases h
      ·rw [if_neg e'] at h; exact .inl h
     ·exact .inr ⟨t,by omega,by simp at t2 ⊢; omega,t3,t4⟩
   ·cases h
  ·cases h

theorem Ql.toks (hH:Ql P g B0 N H w):∀ (bs:List Blk),(∀ x,x∈bs→∃ e,x=.tok e 0)→(∀ i,i < bs.length→g.own (H.length+i)=some (.slice none 0 0,0))→Ql P g B0 N (H++bs) w:=by
 intro bs;induction bs generalizing H with
 | nil=>intro _ _; simpa using hH
 | cons x bs ih =>
  intro hx ho;obtain ⟨e,rfl⟩:=hx x y7;have h0:=ho 0 y7;rw [show H++.tok e 0::bs=(H++[.tok e 0])++bs by simp];refine ih (hH.snoc _ (fun _ h=>by cases h) (fun e' n h=>by cases h; exact ⟨_,h0,.inl ⟨rfl,rfl⟩⟩) (fun i b h1 h2=>?_)) (fun y hy=>hx y (by simp [hy])) (fun i hi=>?_)
  ·rw [occ_tok (e:=e) (n:=0) y7] at h2;simp at h0;rw [h0] at h2; simp [Value.ownBlock] at h2
  ·have:=ho (i+1) y6;rw [show (H++[Blk.tok e 0]).length+i=H.length+(i+1) by simp; omega];exact this

theorem occ_toks:∀ {bs:List Blk} {H:List Blk},(∀ x,x∈bs→∃ e,x=.tok e 0)→(∀ i,i < bs.length→g.own (H.length+i)=some (.slice none 0 0,0))→∀ {i b:Nat},occ g (H++bs) i=some b→occ g H i=some b:=by
 intro bs;induction bs with
 | nil=>intro H _ _ i b h; simpa using h
 | cons x bs ih =>
  intro H hx ho i b h;obtain ⟨e,rfl⟩:=hx x y7;rw [show H++.tok e 0::bs=(H++[.tok e 0])++bs by simp] at h
  have h':=ih (fun y hy=>hx y (by simp [hy])) (fun i hi=>by
   have:=ho (i+1) y6;rw [show (H++[Blk.tok e 0]).length+i=H.length+(i+1) by simp; omega];exact this) h
  rcases occ_snoc h' with h|⟨_,⟨cs,h,_⟩|⟨e',n,_,h⟩⟩
  ·exact h
  ·cases h
  ·have:=ho 0 y7;simp only [zV] at this;rw [this] at h; simp [Value.ownBlock] at h

theorem rawZero_cells:∀ (vs:List Value) (ds:List Dat),zeroOf.cells vs=some ds→ds.length=vs.length ∧
  (∀ (w:World) (S:Nat→Nat→Prop) (j:Nat) v d,vs[j]? = some v→ds[j]? = some d→RepD w S v d)∧(∀ j:Nat,ds[j]? = some (Dat.lst [])→vs[j]? = some (Value.slice none 0 0))∧ds.all Dat.isCell=true
 | [],ds,h=>by cases h; exact ⟨rfl,fun _ _ j _ _ h=>by simp at h,fun j h=>by simp at h,rfl⟩
 | v::r,ds,h=>by
  unfold zeroOf.cells at h;split at h
  ·rename_i hr;simp only [j5] at h;obtain ⟨ds',h,rfl⟩:=h;obtain ⟨h1,h2,h3,h4⟩:=rawZero_cells r ds' h;refine ⟨by simp [h1],fun w S j u d g1 g2=>?_,fun j g=>?_,by simp [h4,Dat.isCell]⟩
   ·cases j with
    | zero=>simp at g1 g2; subst g1 g2; exact .raw _ hr
    | succ j=>exact h2 w S j u d (by simpa using g1) (by simpa using g2)
   ·cases j with
    | zero=>simp at g
    | succ j=>simpa using h3 j (by simpa using g)
  ·split at h
   ·simp only [j5] at h;obtain ⟨ds',h,rfl⟩:=h;obtain ⟨h1,h2,h3,h4⟩:=rawZero_cells r ds' h;refine ⟨by simp [h1],fun w S j u d g1 g2=>?_,fun j g=>?_,by simp [h4,Dat.isCell]⟩
    ·cases j with
     | zero=>simp at g1 g2; subst g1 g2; exact .nil
     | succ j=>exact h2 w S j u d (by simpa using g1) (by simpa using g2)
    ·cases j with
     | zero=>rfl
     | succ j=>simpa using h3 j (by simpa using g)
   ·cases h

theorem rawOf_cell {v:Value} {d:Dat} (h:rawOf v=some d) (hv:∀ cs,v≠.agg cs):d.cells=[d]∧v.cells=#[v]∧d.isCell=true∧(d=.lst []→v=.slice none 0 0):=by
 unfold rawOf at h;split at h
 ·cases h; exact ⟨rfl,rfl,rfl,fun _=>rfl⟩
 ·exact absurd rfl (hv _)
 ·split at h
  ·rename_i hr; cases h; exact ⟨rfl,cells_of_raw hr,rfl,fun e=>by cases e⟩
  ·cases h

theorem zeroOf_ok {t:TypeId} {z:Dat} (h:zeroOf P t=some z):∃ i zv,P.info? t=some i∧i.zero=some zv∧(∀ (w:World) (S:Nat→Nat→Prop),RepD w S zv z) ∧
  (∀ j:Nat,z.cells[j]? = some (Dat.lst [])→zv.cells[j]? = some (Value.slice none 0 0))∧z.cells.all Dat.isCell=true:=by
 unfold zeroOf at h;simp only [jK] at h;obtain ⟨zv,⟨i,hi,hz⟩,h⟩:=h;refine ⟨i,zv,hi,hz,?_⟩;unfold zeroOf.rawZero at h;split at h
 ·simp only [j5] at h;obtain ⟨ds,h,rfl⟩:=h;obtain ⟨h1,h2,h3,h4⟩:=rawZero_cells _ _ h;exact ⟨fun w S=>.agg _ _ (by simpa using h1.symm) fun j v c g1 g2=>h2 w S j v c (by simpa using g1) g2,fun j g=>by simpa [Value.cells] using h3 j g,h4⟩
 ·rename_i hna;obtain ⟨h1,h2,h3,h4⟩:=rawOf_cell h hna;refine ⟨fun w S=>.of_rawOf h,fun j g=>?_,by rw [h1]; simp [h3]⟩;rw [h1] at g; rw [h2];cases j with
  | zero=>simp at g; subst g; simp [h4 rfl]
  | succ j=>simp at g

theorem alloc_ok {t:TypeId} {z:Dat} {ow:List (Nat × TypeId)} {cs:List PV} {bs:List Blk} (ho:o.op=.alloc t) (hz:zeroOf P t=some z) (ht:tokCells (H.length+1) (z.cells.map .dat) ow=some (cs,bs))
  (hH:Ql P g B0 H.length H w) (hi:Inv B0 w0 S0 g w) :
  ∃ v g' w',OpRes P o a w v w'∧Good P B0 w0 S0 H g w (.ptr H.length 0) (H++.box cs::bs) v g' w':=by
 obtain ⟨i,zv,h1,h2,h3,h4,_⟩:=zeroOf_ok hz;obtain ⟨z1,z2⟩:=(h3 w g.S).cells
 obtain ⟨t1,t2,t3⟩:=tokCells_ok _ _ _ _ _ ht zv.cells (fun j _ hc=>by
  simp only [jD,j5] at hc;obtain ⟨d,hd,e⟩:=hc;cases e; exact h4 j hd)
 let g1:=g.box H.length w.heap.size
 let g2:=g1.nils (H.length+1) bs.length
 have hi':=hi.alloc (.cells zv.cells t);have he1:Ext H.length g w g1 (w.alloc (.cells zv.cells t)):=(Ext.alloc hi H.length _).trans (Ext.box H.length _ (j7 _)) (j7 _);have he:Ext H.length g w g2 (w.alloc (.cells zv.cells t)):=he1.trans (Ext.nils _ (Nat.le_succ _)) (j7 _);have hblk:g2.blk H.length=w.heap.size:=by simp [g2,g1,Gh.nils,Gh.box]
 refine ⟨.pointer (some ⟨w.heap.size,0,none⟩),g2,w.alloc (.cells zv.cells t),.inl ?_,he,by simp,?_,?_,⟨hi'.below,hi'.size,hi'.old,hi'.lt⟩,Fr.old y7 (fun b hb=>Below.heap_alloc w _ b hb) fun i b h hb=>?_⟩
 case refine_4 =>
  rw [show H++Blk.box cs::bs=(H++[.box cs])++bs by simp] at h;rcases occ_toks t1 (fun i hi=>by simp [g2,Gh.nils]; omega) h with h;rcases occ_snoc h with h|⟨_,⟨cs',_,rfl⟩|⟨e',n,h,_⟩⟩
  ·exact ⟨i,occ_ghost (g:=g) h (fun j hj=>by simp only [g2,g1,Gh.nils,Gh.box]; rw [if_neg y5]) (fun j hj=>by simp only [g2,g1,Gh.nils,Gh.box]; rw [if_neg y5])⟩
  ·rw [hblk] at hb; exact absurd hb (jZ _)
  ·cases h
 ·simp [execOp,ho,Instr.alloc,zeroValue,typeInfo,h1,h2,newVar,newRow]
 ·have:=RepV.ptr (g:=g2) (N:=(H++Blk.box cs::bs).length) (w:=w.alloc (.cells zv.cells t)) H.length 0 ⟨by simp,.inl rfl⟩
  rwa [hblk] at this
 ·have hk:Ql P g2 B0 (H++Blk.box cs::bs).length H (w.alloc (.cells zv.cells t)) :=
   hH.keep he y7 (j7 _) (fun i b hb=>Below.heap_alloc w _ b (hH.occ_lt hb).2.1) (fun _ _ _ _ h=>h) (fun t ht=>by simp only [g2,g1,Gh.nils,Gh.box]; rw [if_neg y5])
  rw [show H++Blk.box cs::bs=(H++[.box cs])++bs by simp] at hk ⊢;refine Ql.toks (hk.snoc _ (fun cs' h=>?_) (fun _ _ h=>by cases h) (fun i b hb h2=>?_)) bs t1 (fun i hi=>by simp [g2,Gh.nils]; omega)
  ·cases h;rw [hblk];refine ⟨hi.size,⟨zv.cells,t,heap_alloc_new w _,by rw [t2]; simpa using z1,fun j v c g1' g2'=>?_⟩,fun o hs=>jZ _ (hi.lt _ o hs)⟩;rcases t3 j v c g1' g2' with hc|⟨tk,a1,a2,rfl,rfl⟩
   ·simp only [jD,j5] at hc;obtain ⟨d,hd,rfl⟩:=hc;exact .dat _ _ ((z2 j v d g1' hd).ext he)
   ·refine .vec _ _ _ (.slice none 0 0) 0 ?_ .nil ?_ (j7 _) y8
    ·simp; omega
    ·simp only [g2,Gh.nils]; rw [if_pos ⟨a1,a2⟩]
  ·rw [occ_box (cs:=cs) y7,hblk] at h2;cases h2
   have hb':occ g H i=some w.heap.size:=by
    have hne:∀ x,H[i]? = some x→i < H.length:=fun x hh=>(List.getElem?_eq_some_iff.1 hh).1
    unfold occ at hb ⊢;split at hb
    ·rename_i hh;have:=hne _ hh;have e:i≠H.length:=by omega
     simpa [g2,g1,Gh.nils,Gh.box,e] using hb
    ·rename_i hh;have:=hne _ hh;simp only [g2,g1,Gh.nils,Gh.box] at hb
     rwa [if_neg y5] at hb
    ·rename_i hh;have:=hne _ hh;simp only [g2,g1,Gh.nils,Gh.box] at hb
     rwa [if_neg y5] at hb
    ·rename_i hh;have:=hne _ hh;have e:i≠H.length:=by omega
     simpa [g2,g1,Gh.nils,Gh.box,e] using hb
    ·cases hb
    ·cases hb
   exact jZ _ (hH.occ_lt hb').2.1

theorem foldl_set_get:∀ (l:List Value) (k off:Nat) (cells:Array Value) (m:Nat),off+k+l.length≤cells.size →
  ((l.zipIdx k).foldl (fun cs (x:Value × Nat)=>cs.setIfInBounds (off+x.2) x.1) cells)[m]? = (if off+k≤m∧m < off+k+l.length then l[m - (off+k)]? else cells[m]?) ∧
  ((l.zipIdx k).foldl (fun cs (x:Value × Nat)=>cs.setIfInBounds (off+x.2) x.1) cells).size=cells.size
 | [],k,off,cells,m,h=>by simp; omega
 | v::r,k,off,cells,m,h=>by
  simp only [List.zipIdx_cons,List.foldl_cons];have h':off+(k+1)+r.length≤(cells.setIfInBounds (off+k) v).size:=by simp at h ⊢; omega
  obtain ⟨h1,h2⟩:=foldl_set_get r (k+1) off (cells.setIfInBounds (off+k) v) m h';refine ⟨?_,by rw [h2]; simp⟩;rw [h1,Array.getElem?_setIfInBounds];by_cases e:m=off+k
  ·subst e;rw [if_neg y5,if_pos rfl,if_pos (by simp at h; omega),if_pos y7];simp
  ·by_cases h3:off+(k+1)≤m∧m < off+(k+1)+r.length
   ·rw [if_pos h3,if_pos y6];obtain ⟨q,rfl⟩:∃ q,m=off+k+1+q:=⟨m - (off+k+1),by omega⟩;rw [show off+k+1+q - (off+(k+1))=q by omega,show off+k+1+q - (off+k)=q+1 by omega];simp
   ·rw [if_neg h3,if_neg (fun e'=>e e'.symm),if_neg y6]

theorem fill_ok {place:Nat→Option (Nat × Nat)}:∀ (ps:List (Nat × Operand)) (vals:Array Value) (cs cs':List PV),fillA place cs (ps.map fun (i,x)=>(i,(ρ x).cells))=some cs' →
  vals.size=cs.length→(∀ (j:Nat) v c,vals[j]? = some v→cs[j]? = some c→RepV g N w v c)→(∀ x,RepV g N w (a.eval x) (ρ x))→(∀ i x,(i,x)∈ps→ρ x≠.undef) →
  ∃ vals',Instr.fill place vals (ps.map fun (i,x)=>(i,a.eval x))=some vals'∧vals'.size=cs'.length∧cs'.length=cs.length∧(∀ (j:Nat) v c,vals'[j]? = some v→cs'[j]? = some c→RepV g N w v c) ∧
   ∀ j,uncovered place j ps=true→vals'[j]? = vals[j]?∧cs'[j]? = cs[j]?
 | [],vals,cs,cs',h,hl,hr,_,_=>by
  simp only [List.map_nil,fillA,j9] at h;subst h;exact ⟨vals,rfl,hl,rfl,hr,fun _ _=>⟨rfl,rfl⟩⟩
 | (i,x)::ps,vals,cs,cs',h,hl,hr,hρ,hu=>by
  simp only [zS,fillA] at h;split at h
  ·cases h
  ·rename_i off size hp;split at h
   ·rename_i hs;simp only [jK] at h;obtain ⟨cs1,hc,h⟩:=h;obtain ⟨p1,p2⟩:=paste_some hc;obtain ⟨y1,y2⟩:=(hρ x).cells (hu i x y7);have hsz:(a.eval x).cells.size=size:=by omega
    have hle:off+(a.eval x).cells.size≤vals.size:=by omega
    generalize hnew:((a.eval x).cells.toList.zipIdx 0).foldl (fun cs (x:Value × Nat)=>cs.setIfInBounds (off+x.2) x.1) vals=new
    have hget:∀ m,new[m]? = (if off≤m∧m < off+size then (a.eval x).cells[m - off]? else vals[m]?):=fun m=>by
     have:=(foldl_set_get (a.eval x).cells.toList 0 off vals m (by simpa using hle)).1;rw [hnew] at this;rw [this]; simp [hsz]
    have hnsz:new.size=vals.size:=by
     rw [← hnew]; exact (foldl_set_get (a.eval x).cells.toList 0 off vals 0 (by simpa using hle)).2
    have hcs:∀ m,cs1[m]? = if m < off then cs[m]? else if m < off+size then (ρ x).cells[m - off]? else cs[m]?:=fun m=>by
     rw [p2,pasted_get _ _ _ p1,hs]
    have hl1:cs1.length=cs.length:=by rw [p2]; simp; omega
    obtain ⟨vals',f1,f2,f3,f4,f5⟩:=fill_ok ps new cs1 cs' h y5 (fun j v c g1 g2=>by
     rw [hget] at g1; rw [hcs] at g2;by_cases c1:off≤j∧j < off+size
     ·rw [if_pos c1] at g1; rw [if_neg y5,if_pos c1.2] at g2; exact y2 _ v c g1 g2
     ·rw [if_neg c1] at g1;by_cases c2:j < off
      ·rw [if_pos c2] at g2; exact hr j v c g1 g2
      ·rw [if_neg c2,if_neg y5] at g2; exact hr j v c g1 g2) hρ (fun i' x' hx=>hu i' x' (by simp [hx]))
    refine ⟨vals',?_,f2,by omega,f4,fun j hj=>?_⟩
    ·simp only [zS,Instr.fill,hp];rw [if_neg y6]
     have e:(a.eval x).cells.zipIdx.foldl (fun cs (x:Value × Nat)=>cs.setIfInBounds (off+x.2) x.1) vals=new:=by
      rw [← hnew,← Array.foldl_toList]; simp
     exact (congrArg (fun z=>Instr.fill place z (ps.map fun (i,x)=>(i,a.eval x))) e).trans f1
    ·simp only [uncovered,List.all_cons,jE,hp] at hj;obtain ⟨hj1,hj2⟩:=hj;obtain ⟨k1,k2⟩:=f5 j hj2;simp at hj1;refine ⟨?_,?_⟩
     ·rw [k1,hget,if_neg y5]
     ·rw [k2,hcs];by_cases c2:j < off
      ·rw [if_pos c2]
      ·rw [if_neg c2,if_neg y5]
   ·cases h

end
end Go.Pm
