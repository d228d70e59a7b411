/-
 The pure machine: soundness of fields, tuples, len; stores; new variables.
-/
import Derived.Test.YtjcfpjpdopfefaaGreatPmOps3
import Derived.Laws.CopyOwn
namespace Go.Pm
open Go Go.RowKit
set_option linter.unusedVariables false
section
variable {P:Program} {B0:Nat} {w0:World} {S0:Nat→Nat→Prop} {g:Gh} {H H':List Blk} {w:World} {p:PV} {o:Oper} {a:Act} {ρ:Operand→PV}

theorem run_part {t:TypeId} {n off:Nat} {ag:Bool} {vs:Array Value} (hg:aggT P t=some ag) (hn:szOf P t=some n) (h1:ag=false→n=1) (hl:off+n≤vs.size) :
  (part t vs off).run P w=.ok (if ag then .agg ((vs.toList.drop off).take n).toArray else ((vs.toList.drop off).take n).headD undef) w:=by
 cases ag
 ·have:=h1 rfl;subst this;have h2:vs[off]? = some vs[off]:=jA y5
  have h3:(vs.toList.drop off).take 1=[vs[off]]:=by
   rw [List.drop_eq_getElem_cons y6]; simp
  simp [part,run_aggT hg,h2,h3]
 ·have:vs.extract off (off+n)=((vs.toList.drop off).take n).toArray:=by
   apply Array.ext';simp
  simp [part,run_aggT hg,run_szOf hn,this]

theorem field_dat_ok {t:TypeId} {x:Operand} {f n:Nat} {fs:List Field} {fd:Field} {ag:Bool} {cs ds:List Dat} {d:Dat} (ho:o.op=.field t x f) (hx:ρ x=.dat (.agg cs)) (hfs:fieldsOf P t=some fs)
  (hfd:fs[f]? = some fd) (hn:szOf P fd.type=some n) (hg:aggT P fd.type=some ag) (hc:cut cs fd.offset n=some ds) (hd:ofCellsD ag ds=some d)
  (hH:Ql P g B0 H.length H w) (hi:Inv B0 w0 S0 g w) (hρ:∀ x,RepV g H.length w (a.eval x) (ρ x)) :
  ∃ v g' w',OpRes P o a w v w'∧Good P B0 w0 S0 H g w (.dat d) H v g' w':=by
 have hfd':(fs.toArray)[f]? = some fd:=by simpa using hfd
 obtain ⟨c1,c2,c3⟩:=cut_some hc;have h:=hρ x;rw [hx] at h;generalize hv:a.eval x=v at h;cases h with
 | dat v d h =>
  cases h with
  | agg vs cs hl h2 =>
   have h1:ag=false→n=1:=fun e=>by
    subst e; unfold ofCellsD at hd;simp only [j6,if_false] at hd;split at hd
    ·rw [← c1]; rfl
    ·cases hd
   have hr:=run_part (P:=P) (w:=w) (vs:=vs) (off:=fd.offset) hg hn h1 y5;refine ⟨_,g,w,.inl (by simp [execOp,ho,Instr.field,run_underlying (fields_under hfs),hfd',hv,asAgg,hr]; rfl),.same hH hi (.dat _ _ ?_)⟩
   have hget:∀ (j:Nat) u,((vs.toList.drop fd.offset).take n)[j]? = some u→j < n∧vs[fd.offset+j]? = some u:=fun j u hu=>by
    rw [jR] at hu;split at hu
    ·exact ⟨by assumption,by simpa using hu⟩
    ·cases hu
   have hrep:∀ (j:Nat) u c,((vs.toList.drop fd.offset).take n)[j]? = some u→ds[j]? = some c→RepD w g.S u c:=fun j u c g1 g2=>by
    obtain ⟨hj,hu⟩:=hget j u g1;rw [c3 j hj] at g2;exact h2 _ u c hu g2
   cases ag
   ·have hn1:=h1 rfl;subst hn1;unfold ofCellsD at hd;simp only [j6,if_false] at hd ⊢;split at hd
    ·rename_i c';cases hd;cases hus:(vs.toList.drop fd.offset).take 1 with
     | nil=>have:=congrArg List.length hus; simp at this; omega
     | cons u us=>exact hrep 0 u _ (by rw [hus]; rfl) rfl
    ·cases hd
   ·simp only [ofCellsD,if_true,j9] at hd;subst hd;refine .agg _ _ (by simp [c1]; omega) fun j v c' g1 g2=>hrep j v c' (by simpa using g1) g2

theorem field_agg_ok {t:TypeId} {x:Operand} {f n:Nat} {fs:List Field} {fd:Field} {ag:Bool} {cs ds:List PV} {p:PV} (ho:o.op=.field t x f) (hx:ρ x=.agg cs) (hfs:fieldsOf P t=some fs)
  (hfd:fs[f]? = some fd) (hn:szOf P fd.type=some n) (hg:aggT P fd.type=some ag) (hc:cut cs fd.offset n=some ds) (hd:ofCells ag ds=some p)
  (hH:Ql P g B0 H.length H w) (hi:Inv B0 w0 S0 g w) (hρ:∀ x,RepV g H.length w (a.eval x) (ρ x)) :
  ∃ v g' w',OpRes P o a w v w'∧Good P B0 w0 S0 H g w p H v g' w':=by
 have hfd':(fs.toArray)[f]? = some fd:=by simpa using hfd
 obtain ⟨c1,c2,c3⟩:=cut_some hc;have h:=hρ x;rw [hx] at h;generalize hv:a.eval x=v at h;cases h with
 | agg vs cs hl h2 =>
  have hget:∀ (j:Nat) u,((vs.toList.drop fd.offset).take n)[j]? = some u→j < n∧vs[fd.offset+j]? = some u:=fun j u hu=>by
   rw [jR] at hu;split at hu
   ·exact ⟨by assumption,by simpa using hu⟩
   ·cases hu
  obtain ⟨p1,p2⟩:=RepV.ofCells (g:=g) (w:=w) (N:=H.length) (us:=(vs.toList.drop fd.offset).take n) (n:=n) y6 c1 (fun j v c g1 g2=>by
   obtain ⟨hj,hu⟩:=hget j v g1;rw [c3 j hj] at g2;exact h2 _ v c hu g2) hd
  have hr:=run_part (P:=P) (w:=w) (vs:=vs) (off:=fd.offset) hg hn p1 y5;exact ⟨_,g,w,.inl (by simp [execOp,ho,Instr.field,run_underlying (fields_under hfs),hfd',hv,asAgg,hr]),.same hH hi p2⟩

theorem extract_ok {x:Operand} {k:Nat} {vs:List PV} {p:PV} (ho:o.op=.extract x k) (hx:ρ x=.tup vs) (hp:vs[k]? = some p)
  (hH:Ql P g B0 H.length H w) (hi:Inv B0 w0 S0 g w) (hρ:∀ x,RepV g H.length w (a.eval x) (ρ x)) :
  ∃ v g' w',OpRes P o a w v w'∧Good P B0 w0 S0 H g w p H v g' w':=by
 have h:=hρ x;rw [hx] at h;generalize hv:a.eval x=v at h;cases h with
 | tup us cs hl h2 =>
  have hlt:k < us.size:=by rw [hl]; exact (List.getElem?_eq_some_iff.1 hp).1
  have hk:us[k]? = some us[k]:=jA hlt;exact ⟨us[k],g,w,.inl (by simp [execOp,ho,Instr.extract,hv,hk]),.same hH hi (h2 k _ p hk hp)⟩

theorem lenPV_rep {N:Nat} {v:Value} {p:PV} {n:Nat} (h:RepV g N w v p) (hn:lenPV p=some n):∃ ad cap,v=.slice ad n cap:=by
 have lst:∀ {v:Value} {es:List Dat},RepD w g.S v (.lst es)→∃ ad cap,v=.slice ad es.length cap:=fun h=>by
  cases h with
  | nil=>exact ⟨none,0,rfl⟩
  | empty a cap=>exact ⟨some a,cap,rfl⟩
  | lst b off len cap k es c h1=>exact ⟨_,cap,by rw [h1]⟩
 cases h with
 | dat v d h =>
  cases d with
  | lst es=>simp [lenPV] at hn; subst hn; exact lst h
  | _=>simp [lenPV] at hn
 | vec v t es v0 n' h1 h2=>simp [lenPV] at hn; subst hn; exact lst h2
 | arr i o len cap h h'=>simp [lenPV] at hn; subst hn; exact ⟨_,_,rfl⟩
 | ms _ _ _ _ _ _ _ _ _ _ _ _ h5=>simp [lenPV] at hn; subst hn; obtain ⟨a,c,rfl,_⟩:=h5; exact ⟨_,_,rfl⟩
 | empv b v h1 h2 =>
  simp [lenPV] at hn; subst hn;cases b with
  | true=>exact ⟨none,0,h1 rfl⟩
  | false=>obtain ⟨a,cap,rfl⟩:=h2 rfl; exact ⟨_,_,rfl⟩
 | _=>simp [lenPV] at hn

theorem one_of_cell {N:Nat} {v:Value} {p:PV} (h:RepV g N w v p) (hp:p.cell=true):v.oneCell'=true:=by
 cases h with
 | dat v d h=>cases h <;> first|rfl|(simp [PV.cell] at hp; done)|(exact one_of_raw (by assumption))
 | vec v t es v0 n h1 h2=>cases h2 <;> rfl
 | ptr|iptr|arr|fn|mapv=>rfl
 | ms _ _ _ _ _ _ _ _ _ _ _ _ h5=>obtain ⟨a,c,rfl,_⟩:=h5; rfl
 | mp _ _ _ _ _ _ _ _ _ _ h5=>obtain ⟨a,rfl⟩:=h5; rfl
 | empv b v h1 h2 =>
  cases b with
  | true=>rw [h1 rfl]; rfl
  | false=>obtain ⟨a,cap,rfl⟩:=h2 rfl; rfl
 | _=>simp [PV.cell] at hp

theorem cell_ne_undef {p:PV} (h:p.cells.all PV.cell=true):p≠.undef:=fun e=>by subst e; simp [PV.cells,PV.cell] at h

theorem one_of_cells {N:Nat} {v:Value} {p:PV} (h:RepV g N w v p) (hp:p.cells.all PV.cell=true):∀ u∈v.cells.toList,u.oneCell'=true:=fun u hu=>by
 obtain ⟨h1,h2⟩:=h.cells (cell_ne_undef hp);obtain ⟨j,hj⟩:=List.getElem?_of_mem hu;have hlt:j < p.cells.length:=by rw [← h1]; simpa using (List.getElem?_eq_some_iff.1 hj).1
 have hc:p.cells[j]? = some p.cells[j]:=jC hlt;exact one_of_cell (h2 j u _ (by simpa using hj) hc) (List.all_eq_true.1 hp _ (z8 hlt))

theorem paste_some {α:Type} {cs vs ds:List α} {off:Nat} (h:paste cs off vs=some ds):off+vs.length≤cs.length∧ds=cs.take off++vs++cs.drop (off+vs.length):=by
 unfold paste at h;split at h
 ·cases h; exact ⟨by assumption,rfl⟩
 ·cases h

theorem pasted_get {α:Type} (cs vs:List α) (off:Nat) (h:off+vs.length≤cs.length) (j:Nat) :
  (cs.take off++vs++cs.drop (off+vs.length))[j]? = if j < off then cs[j]? else if j < off+vs.length then vs[j - off]? else cs[j]?:=by
 rw [List.append_assoc,jT];simp only [zT,Nat.min_eq_left (show off≤cs.length by omega)];split
 ·rename_i hj; rw [jR,if_pos hj]
 ·rename_i hj;rw [jT];by_cases h2:j < off+vs.length
  ·rw [if_pos y5,if_pos h2]
  ·rw [if_neg y5,if_neg h2,zG]; congr 1; omega

theorem store_ok {t:TypeId} {x y:Operand} {cs ds:List PV} {n i off:Nat} (ho:o.op=.store t x y) (hx:ρ x=.ptr i off) (hb:H[i]? = some (.box cs)) (hn:szOf P t=some n)
  (hl:(ρ y).cells.length=n) (hall:(ρ y).cells.all PV.cell=true) (hp:paste cs off (ρ y).cells=some ds)
  (hH:Ql P g B0 H.length H w) (hi:Inv B0 w0 S0 g w) (hρ:∀ x,RepV g H.length w (a.eval x) (ρ x)) :
  ∃ v g' w',OpRes P o a w v w'∧Good P B0 w0 S0 H g w (.tup []) (H.set i (.box ds)) v g' w':=by
 obtain ⟨p1,p2⟩:=paste_some hp;have h:=hρ x;rw [hx] at h;generalize hv:a.eval x=v at h;cases h with
 | ptr i o hio =>
  obtain ⟨hio,hil⟩:=hio;obtain ⟨q1,⟨vals,ty,k1,k2,k3⟩,q3⟩:=hH.box i cs hb;obtain ⟨y1,y2⟩:=(hρ y).cells (cell_ne_undef hall);have hone:=one_of_cells (hρ y) hall;have hst:=run_storeCells_at P (g.blk i) off ty (a.eval y).cells.toList 0 vals w k1 y6 hone;simp only [zV] at hst;generalize hnew:(vals.toList.take off++(a.eval y).cells.toList++vals.toList.drop (off+(a.eval y).cells.toList.length))=new at hst
  have hget:∀ j,new[j]? = if j < off then vals[j]? else if j < off+n then (a.eval y).cells[j - off]? else vals[j]?:=fun j=>by
   rw [← hnew,pasted_get _ _ _ y6]
   have:(a.eval y).cells.toList.length=n:=by simp; omega
   rw [this]; simp
  have hds:∀ j,ds[j]? = if j < off then cs[j]? else if j < off+n then (ρ y).cells[j - off]? else cs[j]?:=fun j=>by
   rw [p2,pasted_get _ _ _ p1,hl]
  have hheap:(w.setRow (g.blk i) new.toArray).heap[g.blk i]? = some (.cells new.toArray ty (0,0)):=setRow_heap w _ _ _ _ _ k1
  have he:Ext H.length g w g (w.setRow (g.blk i) new.toArray):=⟨fun _ _ h=>h,fun b o' hs=>cell_setRow_other w _ _ _ (fun e=>by
   simp only at e; subst e; exact q3 o' hs),fun _ _ h=>⟨rfl,h⟩,fun _ _ v n h=>⟨v,n,h,j7 _,fun _=>rfl⟩⟩
  refine ⟨undef,g,_,.inr ⟨?_,rfl⟩,he,by simp,.tup _ _ rfl (fun j v c h=>by simp at h),?_,⟨?_,by simp; exact hi.size,hi.old,fun b o' hs=>by simp; exact hi.lt b o' hs⟩,⟨by simp,fun b _ hn=>setRow_other w _ _ _ (fun e=>hn i (by rw [occ_box hb,e])),fun j b hj _=>?_,fun b o h=>.inl h⟩⟩
  ·have hsz:(a.eval y).cells.size=n:=by omega
   simp only [execOp,ho,hv];simp [Instr.storeAt,Instr.sureAddr,storeVar,hsz,run_szOf hn,hst]
  ·refine hH.turn he y7 (j7 _) _ hio (fun j b hj hb'=>setRow_other w _ _ _ (fun e=>hj (hH.sep j i b hb' (by rw [occ_box hb,e]))))
    (fun _ _ _ _ _ h=>h) (fun _ _ _=>rfl) (fun cs' hc=>?_) (fun _ _ h=>by cases h) (fun j b hj hb' h=>?_)
   ·cases hc;refine ⟨q1,⟨new.toArray,ty,hheap,?_,fun j u c g1 g2=>?_⟩,q3⟩
    ·rw [p2,← hnew]; simp; omega
    ·simp only [List.getElem?_toArray] at g1;rw [hget] at g1; rw [hds] at g2;split at g1
     ·rename_i h; rw [if_pos h] at g2; exact (k3 j u c g1 g2).ext he y7
     ·rename_i h; rw [if_neg h] at g2;split at g1
      ·rename_i h'; rw [if_pos h'] at g2; exact (y2 _ u c g1 g2).ext he y7
      ·rename_i h'; rw [if_neg h'] at g2; exact (k3 j u c g1 g2).ext he y7
   ·rw [occ_box (cs:=ds) (by simp [hio])] at h;cases h;exact hj (hH.sep j i _ hb' (occ_box hb))
  ·exact below_setRow hi.below q1 _
  ·rcases occ_set hio hj with ⟨_,h⟩|⟨_,⟨cs',_,rfl⟩|⟨e,n,h,_⟩⟩
   ·exact ⟨j,h⟩
   ·exact ⟨i,occ_box hb⟩
   ·cases h

theorem new_box (hH:Ql P g B0 H.length H w) (hi:Inv B0 w0 S0 g w) (vals:Array Value) (ty:TypeId) (cs:List PV) (hl:vals.size=cs.length)
  (hr:∀ (j:Nat) v c,vals[j]? = some v→cs[j]? = some c→RepV g H.length w v c) :
  Good P B0 w0 S0 H g w (.ptr H.length 0) (H++[.box cs]) (.pointer (some ⟨w.heap.size,0,none⟩)) (g.box H.length w.heap.size) (w.alloc (.cells vals ty)):=by
 have hi':=hi.alloc (.cells vals ty);have he:Ext H.length g w (g.box H.length w.heap.size) (w.alloc (.cells vals ty)):=(Ext.alloc hi H.length _).trans (Ext.box H.length _ (j7 _)) (j7 _);have hblk:(g.box H.length w.heap.size).blk H.length=w.heap.size:=by simp [Gh.box]
 refine ⟨he,by simp,?_,?_,⟨hi'.below,hi'.size,hi'.old,hi'.lt⟩,Fr.old y7 (fun b hb=>Below.heap_alloc w _ b hb) fun i b h hb=>?_⟩
 case refine_3 =>
  rcases occ_snoc h with h|⟨_,⟨cs',_,rfl⟩|⟨e',n,h,_⟩⟩
  ·exact ⟨i,occ_ghost (g:=g) h (fun j hj=>by simp only [Gh.box]; rw [if_neg y5]) (fun j hj=>rfl)⟩
  ·rw [hblk] at hb; exact absurd hb (jZ _)
  ·cases h
 ·have:=RepV.ptr (g:=g.box H.length w.heap.size) (N:=(H++[Blk.box cs]).length) (w:=w.alloc (.cells vals ty)) H.length 0 ⟨by simp,.inl rfl⟩
  rwa [hblk] at this
 ·refine Ql.snoc (hH.keep he y7 (j7 _) (fun i b hb=>Below.heap_alloc w _ b (hH.occ_lt hb).2.1) (fun _ _ _ _ h=>h) (fun _ _=>rfl)) _ (fun cs' h=>?_) (fun _ _ h=>by cases h) (fun i b h h2=>?_)
  ·cases h;rw [hblk];refine ⟨hi.size,⟨vals,ty,heap_alloc_new w _,hl,fun j v c g1 g2=>(hr j v c g1 g2).ext he y7⟩,fun o hs=>jZ _ (hi.lt _ o hs)⟩
  ·rw [occ_box (cs:=cs) y7,hblk] at h2;cases h2
   have hb:occ g H i=some w.heap.size:=by
    unfold occ at h ⊢;split at h
    ·rename_i hh
     have:i≠H.length:=by have:=(List.getElem?_eq_some_iff.1 hh).1; omega
     simpa [Gh.box,this] using h
    ·simpa [Gh.box] using h
    ·simpa [Gh.box] using h
    ·rename_i hh
     have:i≠H.length:=by have:=(List.getElem?_eq_some_iff.1 hh).1; omega
     simpa [Gh.box,this] using h
    ·cases h
    ·cases h
   exact jZ _ (hH.occ_lt hb).2.1

theorem box_ok {t:TypeId} {x:Operand} (ho:o.op=.box t x) (hall:(ρ x).cells.all PV.cell=true) (hH:Ql P g B0 H.length H w) (hi:Inv B0 w0 S0 g w) (hρ:∀ x,RepV g H.length w (a.eval x) (ρ x)) :
  ∃ v g' w',OpRes P o a w v w'∧Good P B0 w0 S0 H g w (.ptr H.length 0) (H++[.box (ρ x).cells]) v g' w':=by
 obtain ⟨y1,y2⟩:=(hρ x).cells (cell_ne_undef hall);exact ⟨_,_,_,.inl (by simp [execOp,ho,Instr.box,newVar,newRow]),new_box hH hi (a.eval x).cells t _ y1 y2⟩

end
end Go.Pm
