/-
 The pure machine: soundness of lists of structures that lie in a box of their own.
-/
import Derived.Test.YtjcfpjpdopfefaaGreatPmOps9
namespace Go.Pm
open Go Go.RowKit
set_option linter.unusedSimpArgs false
set_option linter.unusedVariables false
section
variable {P:Program} {B0:Nat} {w0:World} {S0:Nat→Nat→Prop} {g:Gh} {H:List Blk} {w:World} {o:Oper} {a:Act} {ρ:Operand→PV}

theorem flat_get {α β:Type} (f:α→List β) (size:Nat):∀ (l:List α),(∀ x∈l,(f x).length=size)→∀ i j,j < size→(l.flatMap f)[i * size+j]? = (l[i]?).bind fun x=>(f x)[j]?
 | [],_,i,j,_=>by simp
 | x::l,h,0,j,hj=>by
  rw [List.flatMap_cons,Nat.zero_mul,zW,zM (by rw [h x y7]; exact hj)]; rfl
 | x::l,h,i+1,j,hj=>by
  have hx:=h x y7;rw [List.flatMap_cons,zL (by rw [hx,Nat.add_mul]; omega),hx,show (i+1) * size+j - size=i * size+j by rw [Nat.add_mul]; omega,flat_get f size l (fun y hy=>h y (jG _ hy)) i j hj];rfl
theorem flat_len {α β:Type} (f:α→List β) (size:Nat):∀ (l:List α),(∀ x∈l,(f x).length=size)→(l.flatMap f).length=l.length * size
 | [],_=>by simp
 | x::l,h=>by rw [List.flatMap_cons,jV,h x y7,flat_len f size l fun y hy=>h y (jG _ hy),zE,Nat.add_mul]; omega
theorem split_at {m size n:Nat} (h0:0 < size) (h:m < n * size):∃ i j,m=i * size+j∧i < n∧j < size :=
 ⟨m / size,m % size,by rw [Nat.mul_comm]; exact (Nat.div_add_mod m size).symm,(Nat.div_lt_iff_lt_mul h0).2 h,Nat.mod_lt _ h0⟩

theorem buildArr_ok {t e:TypeId} {len size:Nat} {parts:Array (Nat × Operand)} (ho:o.op=.buildSlice t len parts) (he:elemOfSlice P t=some e) (hs:szOf P e=some size) (hz:(zeroOf P e).isSome=true)
  (hl:parts.size=len) (hd:dense 0 parts.toList=true) (h0:0 < size) (h24:len * size≤16777216) (hcp:cellParts ρ size parts.toList=true)
  (hH:Ql P g B0 H.length H w) (hi:Inv B0 w0 S0 g w) (hρ:∀ x,RepV g H.length w (a.eval x) (ρ x)) :
  ∃ v g' w',OpRes P o a w v w'∧Good P B0 w0 S0 H g w (.arr H.length 0 len len) (H++[.box (parts.toList.flatMap fun (_,x)=>(ρ x).cells)]) v g' w':=by
 obtain ⟨z,hz⟩:=Option.isSome_iff_exists.1 hz;obtain ⟨ie,zv,i1,i2,_⟩:=zeroOf_ok hz;have hsz:ie.size=size:=by simp only [szOf,i1,jN,j9] at hs; exact hs
 have hp:∀ q∈parts.toList,(ρ q.2).cells.length=size∧(ρ q.2).cells.all PV.cell=true:=fun q hq=>by
  have:=List.all_eq_true.1 hcp q hq
  simpa only [jE,beq_iff_eq] using this
 have hc:∀ q∈parts.toList,(a.eval q.2).cells.size=size∧∀ (j:Nat) u c,(a.eval q.2).cells[j]? = some u→(ρ q.2).cells[j]? = some c→RepV g H.length w u c:=fun q hq=>by
  obtain ⟨c1,c2⟩:=(hρ q.2).cells (cell_ne_undef (hp q hq).2);exact ⟨by rw [c1,(hp q hq).1],c2⟩
 obtain ⟨vals,f1,f2,f3,_⟩:=fill_dense (size:=size) (parts.toList.map fun (i,x)=>(i,a.eval x)) 0 ((Array.range (len * size)).map (zv.cells[· % zv.cells.size]!)) (fun i q h=>by
  simp only [jD,j5] at h;obtain ⟨q',h,rfl⟩:=h;exact ⟨dense_get _ 0 hd i q' h,(hc q' (jF h)).1⟩) (by simp [hl])
 have hvs:vals.size=len * size:=by rw [f2]; simp
 have hpl:parts.toList.length=len:=by simpa using hl
 have hfl:=flat_len (fun (q:Nat × Operand)=>(ρ q.2).cells) size parts.toList fun q hq=>(hp q hq).1
 have hb:(Instr.buildSlice t len (parts.map fun (i,x)=>(i,a.eval x))).run P w=.ok (.slice (some ⟨w.heap.size,0,none⟩) len len) (w.alloc (.cells vals e)):=by
  by_cases hpos:len * size=0
  ·have hl0:len=0:=by
    rcases Nat.mul_eq_zero.1 hpos with h|h
    ·exact h
    ·omega
   subst hl0;have hps:parts=#[]:=by simpa using hl
   subst hps
   have:vals=#[]:=by simpa using hvs
   subst this;simp [Instr.buildSlice,run_underlying (Qx he),run_szOf hs,Instr.fill,newRow,Array.range_zero']
  ·refine run_buildSlice w t e len _ vals ie zv (Qx he) i1 i2 (by rw [hsz]; omega) (by rw [hsz]; exact hpos) ?_;rw [hsz]; simpa using f1
 have nb:=new_box (P:=P) (S0:=S0) (w0:=w0) hH hi vals e (parts.toList.flatMap fun (_,x)=>(ρ x).cells) (by rw [hvs]; exact (hfl.trans (by rw [hpl])).symm) (fun m v d g1 g2=>by
  have hm:m < len * size:=by rw [← hvs]; exact (Array.getElem?_eq_some_iff.1 g1).1
  obtain ⟨i,j,rfl,hil,hj⟩:=split_at h0 hm;have hq:parts.toList[i]? = some (parts.toList[i]'y5):=jC y5;have g2':(parts.toList.flatMap fun q=>(ρ q.2).cells)[i * size+j]? = some d:=g2;rw [flat_get (fun (q:Nat × Operand)=>(ρ q.2).cells) size parts.toList (fun q hq=>(hp q hq).1) i j hj,hq] at g2';simp only [zU] at g2';generalize parts.toList[i]'y5=q at hq g2';have h3:=f3 i j (q.1,a.eval q.2) (by simp only [jD,hq,jN]) hj;rw [zW,g1] at h3;exact (hc q (jF hq)).2 j v d h3.symm g2')
 refine ⟨.slice (some ⟨w.heap.size,0,none⟩) len len,g.box H.length w.heap.size,w.alloc (.cells vals e),.inl (by simp [execOp,ho,hb]),nb.ext,nb.len,?_,nb.heap,nb.inv,nb.fr⟩;have:=RepV.arr (g:=g.box H.length w.heap.size) (N:=(H++[Blk.box (parts.toList.flatMap fun (_,x)=>(ρ x).cells)]).length) (w:=w.alloc (.cells vals e)) H.length 0 len len ⟨by simp,.inl rfl⟩ (j7 _)
 rwa [show (g.box H.length w.heap.size).blk H.length=w.heap.size by simp [Gh.box]] at this

theorem clear_arr_ok {e i off len cap size:Nat} {x:Operand} {ts:TypeId} {cs:List PV} {z:Dat} (ho:o.op=.call { callee:=.builtin .clear,args:=#[x],argTypes:=#[ts] })
  (hty:elemOfSlice P ts=some e) (hz:zeroOf P e=some z) (hzl:z.cells.length=size) (hx:ρ x=.arr i off len cap) (hb:H[i]? = some (.box cs)) (hpos:0 < len) (hroom:off+len * size≤cs.length)
  (hH:Ql P g B0 H.length H w) (hi:Inv B0 w0 S0 g w) (hρ:∀ x,RepV g H.length w (a.eval x) (ρ x)) :
  ∃ v g' w',OpRes P o a w v w'∧Good P B0 w0 S0 H g w (.tup []) (H.set i (.box (cs.take off++(List.replicate len (z.cells.map PV.dat)).flatten++cs.drop (off+len * size)))) v g' w':=by
 obtain ⟨ie,zv,i1,i2,i3,_,i5⟩:=zeroOf_ok hz;obtain ⟨z1,z2⟩:=(i3 w g.S).cells
 have hone:∀ u∈zv.cells.toList,u.oneCell'=true:=one_of_cells (g:=g) (N:=H.length) (w:=w) (RepV.dat zv z (i3 w g.S)) (by
  rw [j8] at i5 ⊢;intro p hp
  have:p∈z.cells.map PV.dat:=hp
  obtain ⟨d,hd,rfl⟩:=List.mem_map.1 this;have:=i5 d hd;cases d <;> first|rfl|(simp [Dat.isCell] at this))
 generalize hes:(List.replicate len (z.cells.map PV.dat)).flatten=es;generalize hnw:(Builtin.zeroCells zv.cells len).toList=news;have hesl:es.length=len * size:=by rw [← hes]; simp [List.length_flatten,hzl]
 have hnl:news.length=len * size:=by rw [← hnw]; simp [Builtin.zeroCells,z1,hzl]
 have hesg:∀ m,m < len * size→es[m]? = (z.cells[m % size]?).map PV.dat:=fun m hm=>by
  have h0:0 < size:=by rcases Nat.eq_zero_or_pos size with e|e; (rw [e] at hm; simp at hm); exact e
  obtain ⟨p,q,rfl,hp,hq⟩:=split_at h0 hm;have:=flat_get (fun x:List PV=>x) size (List.replicate len (z.cells.map PV.dat)) (fun x hx=>by rw [List.eq_of_mem_replicate hx]; simp [hzl]) p q hq;rw [List.flatMap_id'] at this;rw [← hes,this,zK,if_pos hp,Nat.mul_comm p size,Nat.mul_add_mod,Nat.mod_eq_of_lt hq];simp
 have hnwg:∀ m,m < len * size→news[m]? = zv.cells[m % size]?:=fun m hm=>by
  have h0:0 < size:=by rcases Nat.eq_zero_or_pos size with e|e; (rw [e] at hm; simp at hm); exact e
  have hlt:m % size < zv.cells.size:=by rw [z1,hzl]; exact Nat.mod_lt _ h0
  rw [← hnw];simp only [Builtin.zeroCells,Array.toList_map,Array.toList_range,jD,z1,hzl,List.getElem?_range hm,jN];rw [getElem!_pos zv.cells _ hlt,jA hlt]
 have hrep:∀ (m:Nat) u c,news[m]? = some u→es[m]? = some c→RepV g H.length w u c:=fun m u c h1 h2=>by
  have hm:m < len * size:=by rw [← hnl]; exact (List.getElem?_eq_some_iff.1 h1).1
  rw [hnwg m hm] at h1;rw [hesg m hm,j5] at h2;obtain ⟨d,hd,rfl⟩:=h2;exact .dat _ _ (z2 _ u d h1 hd)
 have honen:∀ u∈news,u.oneCell'=true:=fun u hu=>by
  obtain ⟨m,hm⟩:=List.getElem?_of_mem hu;rw [hnwg m (by rw [← hnl]; exact (List.getElem?_eq_some_iff.1 hm).1)] at hm;exact hone u (by rw [Array.getElem?_eq_some_iff] at hm; obtain ⟨hlt,rfl⟩:=hm; exact Array.getElem_mem_toList hlt)
 have hr:=hρ x;rw [hx] at hr;generalize hv:a.eval x=v at hr;generalize hn:len * size=n at *;cases hr with
 | arr _ _ _ _ hio hcap =>
  obtain ⟨hio,hil⟩:=hio;obtain ⟨q1,⟨vals,ty,k1,k2,k3⟩,q3⟩:=hH.box i cs hb;have hst:=run_storeCells_at P (g.blk i) off ty news 0 vals w k1 (by rw [hnl]; omega) honen;simp only [zV] at hst;generalize hnew:(vals.toList.take off++news++vals.toList.drop (off+news.length))=new at hst
  have hget:∀ j,new[j]? = if j < off then vals[j]? else if j < off+n then news[j - off]? else vals[j]?:=fun j=>by
   rw [← hnew,pasted_get _ _ _ (by rw [hnl]; simp; omega),hnl]; simp
  have hds:∀ j,(cs.take off++es++cs.drop (off+n))[j]? = if j < off then cs[j]? else if j < off+n then es[j - off]? else cs[j]?:=fun j=>by
   have:=pasted_get cs es off (by rw [hesl]; exact hroom) j;rw [hesl] at this; exact this
  have hheap:(w.setRow (g.blk i) new.toArray).heap[g.blk i]? = some (.cells new.toArray ty (0,0)):=setRow_heap w _ _ _ _ _ k1
  have hext:Ext H.length g w g (w.setRow (g.blk i) new.toArray):=⟨fun _ _ h=>h,fun b o' hs=>cell_setRow_other w _ _ _ (fun e=>by
   simp only at e; subst e; exact q3 o' hs),fun _ _ h=>⟨rfl,h⟩,fun _ _ v n h=>⟨v,n,h,j7 _,fun _=>rfl⟩⟩
  refine ⟨.tuple #[],g,_,.inl ?_,hext,by simp,.tup _ _ rfl (fun j v c h=>by simp at h),?_,⟨?_,by simp; exact hi.size,hi.old,fun b o' hs=>by simp; exact hi.lt b o' hs⟩,⟨by simp,fun b _ hn=>setRow_other w _ _ _ (fun e=>hn i (by rw [occ_box hb,e])),fun j b hj _=>?_,fun b o h=>.inl h⟩⟩
  ·obtain ⟨k,rfl⟩:∃ k,len=k+1:=⟨len - 1,by omega⟩;simp [execOp,ho,resolve,invoke,builtin,hv,Builtin.clear_,run_underlying (Qx hty),zeroValue,typeInfo,i1,i2,hnw,hst]
  ·refine hH.turn hext y7 (j7 _) _ hio (fun j b hj hb'=>setRow_other w _ _ _ (fun e=>hj (hH.sep j i b hb' (by rw [occ_box hb,e]))))
    (fun _ _ _ _ _ h=>h) (fun _ _ _=>rfl) (fun cs' hc=>?_) (fun _ _ h=>by cases h) (fun j b hj hb' h=>?_)
   ·cases hc;refine ⟨q1,⟨new.toArray,ty,hheap,?_,fun j u c g1 g2=>?_⟩,q3⟩
    ·rw [← hnew]; simp only [List.size_toArray,jV,zT,zZ,Array.length_toList]; omega
    ·simp only [List.getElem?_toArray] at g1;rw [hget] at g1; rw [hds] at g2;split at g1
     ·rename_i h; rw [if_pos h] at g2; exact (k3 j u c g1 g2).ext hext y7
     ·rename_i h; rw [if_neg h] at g2;split at g1
      ·rename_i h'; rw [if_pos h'] at g2;exact (hrep _ u c g1 g2).ext hext y7
      ·rename_i h'; rw [if_neg h'] at g2; exact (k3 j u c g1 g2).ext hext y7
   ·rw [occ_box (cs:=cs.take off++es++cs.drop (off+n)) (by simp [hio])] at h;cases h;exact hj (hH.sep j i _ hb' (occ_box hb))
  ·exact below_setRow hi.below q1 _
  ·rcases occ_set hio hj with ⟨_,h⟩|⟨_,⟨cs',_,rfl⟩|⟨e,n,h,_⟩⟩
   ·exact ⟨j,h⟩
   ·exact ⟨i,occ_box hb⟩
   ·cases h

end
end Go.Pm
