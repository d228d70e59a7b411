/-
 The pure machine: soundness of made lists and append.
-/
import Derived.Test.YtjcfpjpdopfefaaGreatPmOps6
namespace Go.Pm
open Go Go.RowKit
set_option linter.unusedVariables false
section
variable {P:Program} {B0 N:Nat} {w0:World} {S0:Nat→Nat→Prop} {g:Gh} {H H':List Blk} {w:World} {p:PV} {o:Oper} {a:Act} {ρ:Operand→PV}

theorem makeSlice_ok {t e:TypeId} {xl xc:Operand} {z:Dat} {bytes:Nat} {l c:Int} (ho:o.op=.makeSlice t xl xc) (he:elemOfSlice P t=some e) (hz:zeroOf P e=some z) (hs:szOf P e=some 1) (hb:bytesOf P e=some bytes)
  (hl:ρ xl=.dat (.raw (.int .i64 l))) (hc:ρ xc=.dat (.raw (.int .i64 c))) (h0:0≤l) (hlc:l≤c) (hroom:c * bytes≤room) (h63:c≤9223372036854775807) (hzc:z.isCell=true)
  (hH:Ql P g B0 H.length H w) (hi:Inv B0 w0 S0 g w) (hρ:∀ x,RepV g H.length w (a.eval x) (ρ x)) :
  ∃ v g' w',OpRes P o a w v w'∧Good P B0 w0 S0 H g w (.arr H.length 0 l.toNat c.toNat) (H++[.box (List.replicate c.toNat (.dat z))]) v g' w':=by
 obtain ⟨ie,zv,i1,i2,i3,_⟩:=zeroOf_ok hz;have hsz:ie.size=1:=by simp only [szOf,i1,jN,j9] at hs; exact hs
 have hby:ie.bytes=bytes:=by simp only [bytesOf,i1,jN,j9] at hb; exact hb
 have vl:=int_rep (by rw [← hl]; exact hρ xl);have vc:=int_rep (by rw [← hc]; exact hρ xc);obtain ⟨z1,z2⟩:=(i3 w g.S).cells;have hzv:zv.cells.size=1:=by rw [z1]; cases z <;> simp_all [Dat.cells,Dat.isCell]
 have hr:=run_make (P:=P) w t e ie zv (Qx he) i1 i2 .i64 .i64 l c h0 hlc (by rw [hby,Int.mul_comm]; simp only [room] at hroom; omega) h63;rw [hsz,Nat.mul_one] at hr
 have nb:=new_box (P:=P) (S0:=S0) (w0:=w0) hH hi (madeCells zv.cells c.toNat) e (List.replicate c.toNat (.dat z)) (by rw [size_madeCells]; simp) (fun j v d g1 g2=>by
  simp only [madeCells,zI,j5] at g1;obtain ⟨j',hj,rfl⟩:=g1
  have hd:d=.dat z:=by
   rw [zK] at g2; split at g2
   ·exact (jS g2).symm
   ·cases g2
  subst hd;refine .dat _ _ ?_;have h0:zv.cells[0]? = some zv.cells[0]:=jA y5;have hm:j' % zv.cells.size=0:=by rw [hzv]; exact Nat.mod_one _
  have:zv.cells[j' % zv.cells.size]! = zv.cells[0]:=by simp only [hm,Array.getElem!_eq_getD,jH,h0,Option.getD_some]
  rw [this];exact z2 0 _ z h0 (by cases z <;> simp_all [Dat.cells,Dat.isCell]))
 refine ⟨_,_,_,.inl (by simp only [execOp,ho,vl,vc,Sem.run_bind]; rw [hr]; rfl),nb.ext,nb.len,?_,nb.heap,nb.inv,nb.fr⟩;have:=RepV.arr (g:=g.box H.length w.heap.size) (N:=(H++[Blk.box (List.replicate c.toNat (PV.dat z))]).length) (w:=w.alloc (.cells (madeCells zv.cells c.toNat) e)) H.length 0 l.toNat c.toNat ⟨by simp,.inl rfl⟩ y5
 rwa [show (g.box H.length w.heap.size).blk H.length=w.heap.size by simp [Gh.box]] at this

theorem box_pub_ok {t:TypeId} {x:Operand} {ds:List Dat} (ho:o.op=.box t x) (hall:allDat (ρ x).cells=some ds) (hH:Ql P g B0 H.length H w) (hi:Inv B0 w0 S0 g w) (hρ:∀ x,RepV g H.length w (a.eval x) (ρ x)) :
  ∃ v g' w',OpRes P o a w v w'∧Good P B0 w0 S0 H g w (.iptr ds) H v g' w':=by
 have hcs:(ρ x).cells=ds.map .dat:=allDat_some _ _ hall;obtain ⟨y1,y2⟩:=(hρ x).cells (fun e=>by rw [e] at hall; simp [PV.cells,allDat] at hall);have hlen:(a.eval x).cells.size=ds.length:=by rw [y1,hcs,jY]
 obtain ⟨k1,k2⟩:=Ql.pubAlloc (ob:=.cells (a.eval x).cells t) (n:=ds.length) hH hi (j7 _);refine ⟨.pointer (some ⟨w.heap.size,0,none⟩),g.pub w.heap.size ds.length,w.alloc (.cells (a.eval x).cells t),.inl (by simp [execOp,ho,Instr.box,newVar,newRow]),k1,j7 _,?_,k2,hi.pubAlloc,Fr.old y7 (fun b hb=>Below.heap_alloc w _ b hb) (fun i b h _=>⟨i,occ_ghost (g:=g) h (fun _ _=>rfl) (fun _ _=>rfl)⟩) (fun b o h=>h.imp id fun h=>.inl (Nat.le_of_eq h.1.symm))⟩;refine .iptr w.heap.size 0 ds (fun j=>(a.eval x).cells.getD j undef) (fun i hi'=>⟨?_,.inr ⟨rfl,by omega⟩⟩) (fun i u hu=>?_)
 ·rw [cell_of_row _ _ _ (a.eval x).cells t (0,0) (heap_alloc_new w _)];simp [jH,hlen,hi']
 ·have hil:i < ds.length:=(List.getElem?_eq_some_iff.1 hu).1;have h1:(a.eval x).cells[i]? = some (a.eval x).cells[i]:=jA y5;have h2:(ρ x).cells[i]? = some (.dat u):=by rw [hcs,jD,hu]; rfl
  have h3:=((y2 i _ _ h1 h2).ext k1 (j7 _)).datInv;simp only [jH,h1,Option.getD_some];exact h3

theorem makeSlice_pub_ok {t e:TypeId} {xl xc:Operand} {z:Dat} {bytes:Nat} {c:Int} (ho:o.op=.makeSlice t xl xc) (he:elemOfSlice P t=some e) (hz:zeroOf P e=some z) (hs:szOf P e=some 1) (hb:bytesOf P e=some bytes)
  (hl:ρ xl=.dat (.raw (.int .i64 c))) (hc:ρ xc=.dat (.raw (.int .i64 c))) (h0:0≤c) (hroom:c * bytes≤room) (h63:c≤9223372036854775807) (hzc:z.isCell=true)
  (hH:Ql P g B0 H.length H w) (hi:Inv B0 w0 S0 g w) (hρ:∀ x,RepV g H.length w (a.eval x) (ρ x)) :
  ∃ v g' w',OpRes P o a w v w'∧Good P B0 w0 S0 H g w (.dat (.lst (List.replicate c.toNat z))) H v g' w':=by
 obtain ⟨ie,zv,i1,i2,i3,_⟩:=zeroOf_ok hz;have hsz:ie.size=1:=by simp only [szOf,i1,jN,j9] at hs; exact hs
 have hby:ie.bytes=bytes:=by simp only [bytesOf,i1,jN,j9] at hb; exact hb
 have vl:=int_rep (by rw [← hl]; exact hρ xl);have vc:=int_rep (by rw [← hc]; exact hρ xc);obtain ⟨z1,z2⟩:=(i3 (w.alloc (.cells (madeCells zv.cells c.toNat) e)) (g.pub w.heap.size c.toNat).S).cells;have hzv:zv.cells.size=1:=by rw [z1]; cases z <;> simp_all [Dat.cells,Dat.isCell]
 have hr:=run_make (P:=P) w t e ie zv (Qx he) i1 i2 .i64 .i64 c c h0 (Int.le_refl _) (by rw [hby,Int.mul_comm]; simp only [room] at hroom; omega) h63;rw [hsz,Nat.mul_one] at hr;have hvs:(madeCells zv.cells c.toNat).size=c.toNat:=by rw [size_madeCells]
 have hzcs:z.cells=[z]:=by cases z <;> simp_all [Dat.cells,Dat.isCell]
 have hall:∀ j,j < c.toNat→(madeCells zv.cells c.toNat).getD j undef=zv.cells[0]'y5:=fun j hj=>by
  have h0:zv.cells[0]? = some zv.cells[0]:=jA y5;have hm:j % zv.cells.size=0:=by rw [hzv]; exact Nat.mod_one _
  rw [jH];simp only [madeCells,zI];rw [Array.getElem?_range,if_pos hj];simp only [jN,Option.getD_some,hm,Array.getElem!_eq_getD,jH,h0]
 obtain ⟨k1,k2⟩:=Ql.pubAlloc (ob:=.cells (madeCells zv.cells c.toNat) e) (n:=c.toNat) hH hi (j7 _);refine ⟨_,g.pub w.heap.size c.toNat,_,.inl (by simp only [execOp,ho,vl,vc,Sem.run_bind]; rw [hr]; rfl),k1,j7 _,.dat _ _ ?_,k2,hi.pubAlloc,Fr.old y7 (fun b hb=>Below.heap_alloc w _ b hb) (fun i b h _=>⟨i,occ_ghost (g:=g) h (fun _ _=>rfl) (fun _ _=>rfl)⟩) (fun b o h=>h.imp id fun h=>.inl (Nat.le_of_eq h.1.symm))⟩;refine .lst w.heap.size 0 c.toNat c.toNat 1 (List.replicate c.toNat z) (fun m=>(madeCells zv.cells c.toNat).getD m undef) y7 (j7 _) (fun d hd=>?_) (fun i hi'=>⟨?_,.inr ⟨rfl,by omega⟩⟩) (fun i j d u g1 g2=>?_)
 ·rw [(List.mem_replicate.1 hd).2]; cases z <;> simp_all [Dat.num,Dat.isCell]
 ·rw [cell_of_row _ _ _ (madeCells zv.cells c.toNat) e (0,0) (heap_alloc_new w _)];simp [jH,hvs,show i < c.toNat by omega]
 ·rw [zK] at g1;split at g1
  ·rename_i hic;cases g1;rw [hzcs] at g2;cases j with
   | zero =>
    simp only [List.getElem?_cons_zero,j9] at g2;subst g2;simp only [Nat.mul_one,zV];rw [hall i hic];exact z2 0 _ z (jA y5) (by rw [hzcs]; rfl)
   | succ j=>simp at g2
  ·cases g1

theorem makeSlice_own_ok {t e:TypeId} {xl xc:Operand} {z:Dat} {bytes:Nat} {c:Int} (ho:o.op=.makeSlice t xl xc) (he:elemOfSlice P t=some e) (hz:zeroOf P e=some z) (hs:szOf P e=some 1) (hb:bytesOf P e=some bytes)
  (hl:ρ xl=.dat (.raw (.int .i64 0))) (hc:ρ xc=.dat (.raw (.int .i64 c))) (hlc:0≤c) (hroom:c * bytes≤room) (h63:c≤9223372036854775807) (hby0:0 < bytes)
  (hH:Ql P g B0 H.length H w) (hi:Inv B0 w0 S0 g w) (hρ:∀ x,RepV g H.length w (a.eval x) (ρ x)) :
  ∃ v g' w',OpRes P o a w v w'∧Good P B0 w0 S0 H g w (.vec H.length []) (H++[.tok e 0]) v g' w':=by
 obtain ⟨ie,zv,i1,i2,i3,_⟩:=zeroOf_ok hz;have hsz:ie.size=1:=by simp only [szOf,i1,jN,j9] at hs; exact hs
 have hby:ie.bytes=bytes:=by simp only [bytesOf,i1,jN,j9] at hb; exact hb
 have vl:=int_rep (by rw [← hl]; exact hρ xl);have vc:=int_rep (by rw [← hc]; exact hρ xc);have hr:=run_make (P:=P) w t e ie zv (Qx he) i1 i2 .i64 .i64 0 c (Int.le_refl _) hlc (by rw [hby,Int.mul_comm]; simp only [room] at hroom; omega) h63;rw [hsz,Nat.mul_one] at hr
 let vals:=madeCells zv.cells c.toNat
 have r2:vals.size=c.toNat * 1:=by simp only [vals,size_madeCells,Nat.mul_one]
 have hcap:c.toNat≤maxLen:=by
  have h1:c.toNat * bytes≤room:=by
   have:((c.toNat * bytes:Nat):Int)≤(room:Int):=by rw [Int.natCast_mul,Int.toNat_of_nonneg hlc]; exact hroom
   omega
  have h2:c.toNat≤c.toNat * bytes:=Nat.le_mul_of_pos_right _ hby0;simp only [room] at h1;simp only [maxLen]; omega
 let v0:Value:=.slice (some ⟨w.heap.size,0,none⟩) 0 c.toNat
 let g1:=g.pub w.heap.size 0
 let g2:=g1.give H.length v0 0
 have hi':=hi.pubAlloc (ob:=.cells vals e) (n:=0);obtain ⟨k1,k2⟩:=Ql.pubAlloc (ob:=.cells vals e) (n:=0) (N:=H.length) hH hi (j7 _);have e2:Ext H.length g1 (w.alloc (.cells vals e)) g2 (w.alloc (.cells vals e)):=.giveNew _ _ _ (j7 _);refine ⟨v0,g2,_,.inl (by simp only [execOp,ho,vl,vc,Sem.run_bind]; rw [hr]; rfl),k1.trans e2 (j7 _),by simp,.vec _ _ _ v0 0 y7 (.empty _ _) (by simp [g2,Gh.give]) (j7 _) y8,?_,⟨hi'.below,hi'.size,hi'.old,hi'.lt⟩,Fr.old y7 (fun b hb=>Below.heap_alloc w _ b hb) (fun i b h hb=>?_) (fun b o h=>h.imp id fun h=>.inl (Nat.le_of_eq h.1.symm))⟩
 case refine_2 =>
  rcases occ_snoc h with h|⟨_,⟨cs',h,_⟩|⟨e',n,_,h⟩⟩
  ·exact ⟨i,occ_ghost (g:=g) h (fun j hj=>rfl) (fun j hj=>by simp only [g2,Gh.give]; rw [if_neg y5]; rfl)⟩
  ·cases h
  ·simp [g2,Gh.give,v0,Value.ownBlock] at h; subst h; exact absurd hb (jZ _)
 have hk:Ql P g2 B0 (H++[Blk.tok e 0]).length H (w.alloc (.cells vals e)):=k2.keep e2 y7 (j7 _) (fun _ _ _=>rfl) (fun _ _ _ _ h=>h) (fun t ht=>by simp only [g2,Gh.give]; rw [if_neg y5]);refine hk.snoc _ (fun _ h=>by cases h) (fun e' n h=>?_) (fun i b hb h2=>?_)
 ·cases h;refine ⟨v0,by simp [g2,Gh.give],.inr ⟨w.heap.size,c.toNat,vals,1,rfl,hi.size,heap_alloc_new w _,hs,zN _,hcap,r2,fun o hs=>?_⟩⟩;rcases hs with hs|⟨_,hs⟩
  ·exact absurd (hi.lt _ _ hs) (jZ _)
  ·exact absurd hs (Nat.not_lt_zero _)
 ·rw [occ_tok (e:=e) (n:=0) y7] at h2;simp [g2,Gh.give,v0,Value.ownBlock] at h2;subst h2;have hlt:=hk.occ_lt hb
  have hb':occ g H i=some w.heap.size:=by
   unfold occ at hb ⊢;split at hb
   ·simpa [g2,g1,Gh.give,Gh.pub] using hb
   ·have:=hlt.2.2;simp only [g2,g1,Gh.give,Gh.pub] at hb
    rwa [if_neg y5] at hb
   ·have:=hlt.2.2;simp only [g2,g1,Gh.give,Gh.pub] at hb
    rwa [if_neg y5] at hb
   ·simpa [g2,g1,Gh.give,Gh.pub] using hb
   ·cases hb
   ·cases hb
  exact jZ _ (hH.occ_lt hb').2.1

theorem isFn_rep {v:Value} {p:PV} (h:RepV g H.length w v p) (hp:p.isFn=true):v.cells=#[v]:=by
 cases h <;> first|rfl|cases hp
theorem buildFns_ok {t e:TypeId} {len:Nat} {parts:Array (Nat × Operand)} (ho:o.op=.buildSlice t len parts) (he:elemOfSlice P t=some e) (hs:szOf P e=some 1) (hz:(zeroOf P e).isSome=true)
  (hl:parts.size=len) (hd:dense 0 parts.toList=true) (h24:len≤16777216) (hfn:parts.toList.all (fun (_,x)=>(ρ x).isFn)=true) (hne:parts.toList≠[])
  (hH:Ql P g B0 H.length H w) (hi:Inv B0 w0 S0 g w) (hρ:∀ x,RepV g H.length w (a.eval x) (ρ x)) :
  ∃ v g' w',OpRes P o a w v w'∧Good P B0 w0 S0 H g w (.arr H.length 0 len len) (H++[.box (parts.toList.map fun (_,x)=>ρ x)]) v g' w':=by
 obtain ⟨z,hz⟩:=Option.isSome_iff_exists.1 hz;obtain ⟨ie,zv,i1,i2,_⟩:=zeroOf_ok hz;have hsz:ie.size=1:=by simp only [szOf,i1,jN,j9] at hs; exact hs
 have hc:∀ (i:Nat) q,parts.toList[i]? = some q→(a.eval q.2).cells=#[a.eval q.2]:=fun i q h=>isFn_rep (hρ q.2) (List.all_eq_true.1 hfn q (jF h))
 obtain ⟨vals,f1,f2,f3,_⟩:=fill_dense (size:=1) (parts.toList.map fun (i,x)=>(i,a.eval x)) 0 ((Array.range (len * 1)).map (zv.cells[· % zv.cells.size]!)) (fun i q h=>by
  simp only [jD,j5] at h;obtain ⟨q',h,rfl⟩:=h;exact ⟨dense_get _ 0 hd i q' h,by rw [hc i q' h]; rfl⟩) (by simp [hl])
 have hvs:vals.size=len:=by rw [f2]; simp
 have hlen:0 < len:=by
  rw [← hl];have:=List.length_pos_iff.2 hne
  simpa using this
 have hb:(Instr.buildSlice t len (parts.map fun (i,x)=>(i,a.eval x))).run P w=.ok (.slice (some ⟨w.heap.size,0,none⟩) len len) (w.alloc (.cells vals e)):=by
  refine run_buildSlice w t e len _ vals ie zv (Qx he) i1 i2 (by rw [hsz]; omega) (by rw [hsz]; omega) ?_;rw [hsz]; simpa using f1
 have nb:=new_box (P:=P) (S0:=S0) (w0:=w0) hH hi vals e (parts.toList.map fun (_,x)=>ρ x) (by rw [hvs]; simp [hl]) (fun j v d g1 g2=>by
  simp only [jD,j5] at g2;obtain ⟨q,hq,rfl⟩:=g2;have h3:=f3 j 0 (q.1,a.eval q.2) (by simp only [jD,hq,jN]) y5;simp only [zW,Nat.mul_one,zV] at h3;rw [g1,hc j q hq] at h3;simp at h3;subst h3;exact hρ q.2)
 refine ⟨.slice (some ⟨w.heap.size,0,none⟩) len len,g.box H.length w.heap.size,w.alloc (.cells vals e),.inl (by simp [execOp,ho,hb]),nb.ext,nb.len,?_,nb.heap,nb.inv,nb.fr⟩;have:=RepV.arr (g:=g.box H.length w.heap.size) (N:=(H++[Blk.box (parts.toList.map fun (_,x)=>ρ x)]).length) (w:=w.alloc (.cells vals e)) H.length 0 len len ⟨by simp,.inl rfl⟩ (j7 _)
 rwa [show (g.box H.length w.heap.size).blk H.length=w.heap.size by simp [Gh.box]] at this

structure Src (w:World) (S:Nat→Nat→Prop) (v:Value) (es:List Dat) (size:Nat) (news:List Value):Prop where
 shape:(v=.slice none 0 0∧es=[])∨∃ ad c,v=.slice (some ad) es.length c∧∀ (j:Nat) u,news[j]? = some u→w.cell? (ad.add j)=some u
 len:news.length=es.length * size
 rep:∀ (i j:Nat) d u,es[i]? = some d→d.cells[j]? = some u→RepD w S (news.getD (i * size+j) undef) u

theorem src_lst {S:Nat→Nat→Prop} {v:Value} {es:List Dat} {size:Nat} (h:RepD w S v (.lst es)) (hf:es.all (Dat.fits size)=true):∃ news,Src w S v es size news:=by
 cases h with
 | nil=>exact ⟨[],.inl ⟨rfl,rfl⟩,by simp,fun i j d u h=>by simp at h⟩
 | empty ad cap=>exact ⟨[],.inr ⟨ad,cap,rfl,fun j u h=>by simp at h⟩,by simp,fun i j d u h=>by simp at h⟩
 | lst b off len cap k es c h1 h1' h2 h3 h4 =>
  have hk:es=[]∨k=size:=by
   cases es with
   | nil=>exact .inl rfl
   | cons d es=>exact .inr (by rw [← h2 d y7]; exact fits_num (List.all_eq_true.1 hf d y7))
  have hlen:len * k=es.length * size:=by rcases hk with rfl|rfl <;> simp [h1]
  refine ⟨(List.range (es.length * size)).map c,.inr ⟨_,cap,by rw [h1],fun j u hu=>?_⟩,by simp,fun i j d u hd hu=>?_⟩
  ·simp only [jD,j5] at hu;obtain ⟨j',hj,rfl⟩:=hu;obtain ⟨a1,a2⟩:=List.getElem?_eq_some_iff.1 hj;simp at a1 a2; subst a2;rw [add_lit]; exact (h3 j y5).1
  ·have hi:=(List.getElem?_eq_some_iff.1 hd).1;have hks:k=size:=by rcases hk with rfl|hk; simp at hd; exact hk
   subst hks;have hj:j < k:=by have:=(List.getElem?_eq_some_iff.1 hu).1; rw [← Dat.num_eq,h2 d (jF hd)] at this; exact this
   have hlt:i * k+j < es.length * k:=by
    have:(i+1) * k≤es.length * k:=Nat.mul_le_mul_right _ y5
    rw [Nat.add_mul] at this; omega
   have:((List.range (es.length * k)).map c).getD (i * k+j) undef=c (i * k+j):=by simp [jB,hlt]
   rw [this]; exact h4 i j d u hd hu

theorem src_arr {N i o len cap size:Nat} {v:Value} {es:List Dat} (hH:Ql P g B0 N H w) (h:RepV g N w v (.arr i o len cap)) (hp:pureC H (.arr i o len cap)=some (.lst es)) (hf:es.all (Dat.fits size)=true) :
  ∃ news,Src w g.S v es size news:=by
 cases h with
 | arr i o len cap hio hc =>
  simp only [pureC] at hp;split at hp
  ·rename_i cs hb;simp only [j5,Dat.lst.injEq] at hp;obtain ⟨es',hp,rfl⟩:=hp;obtain ⟨k,k0,c1,c2,c3,c4⟩:=arrDat_some hp;obtain ⟨_,⟨vals,ty,k1,k2,k3⟩,_⟩:=hH.box i cs hb
   have hks:es'=[]∨k=size:=by
    cases es' with
    | nil=>exact .inl rfl
    | cons d es=>exact .inr (by rw [← c2 d y7]; exact fits_num (List.all_eq_true.1 hf d y7))
   have hl:es'.length * size=len * k:=by
    rcases hks with rfl|rfl
    ·simp at c1; simp [← c1]
    ·rw [c1]
   refine ⟨(vals.toList.drop o).take (len * k),.inr ⟨⟨g.blk i,o,none⟩,cap,by rw [c1],fun j u hu=>?_⟩,by rw [hl]; simp; omega,fun i' j d u hd hu=>?_⟩
   ·rw [jR] at hu;split at hu
    ·rw [add_lit,cell_of_row w _ _ vals ty (0,0) k1]; simpa using hu
    ·cases hu
   ·obtain ⟨h2,hj⟩:=c4 i' j d u hd hu;have hk:k=size:=by rcases hks with rfl|h; simp at hd; exact h
    subst hk;have hi':i' < len:=by rw [← c1]; exact (List.getElem?_eq_some_iff.1 hd).1
    have hlt:i' * k+j < len * k:=by
     have:(i'+1) * k≤len * k:=Nat.mul_le_mul_right _ y5
     rw [Nat.add_mul] at this; omega
    have h3:o+(i' * k+j) < vals.size:=by rw [k2]; exact (List.getElem?_eq_some_iff.1 h2).1
    have h4:=(k3 _ _ _ (jA h3) h2).datInv
    have:((vals.toList.drop o).take (len * k)).getD (i' * k+j) undef=vals[o+(i' * k+j)]:=by
     simp [jB,hlt,h3]
    rw [this]; exact h4
  ·cases hp

theorem src_ok {N size:Nat} {v:Value} {p:PV} {es:List Dat} (hH:Ql P g B0 N H w) (h:RepV g N w v p) (hp:appended H p=some es) (hf:es.all (Dat.fits size)=true):∃ news,Src w g.S v es size news:=by
 cases p with
 | dat d =>
  cases d with
  | lst es'=>simp [appended] at hp; subst hp; exact src_lst (asLst_rep h rfl) hf
  | raw|agg=>simp [appended] at hp
 | vec t es'=>simp [appended] at hp; subst hp; exact src_lst (asLst_rep h rfl) hf
 | arr i o len cap =>
  simp only [appended] at hp;split at hp
  ·rename_i ds hd; cases hp; exact src_arr hH h hd hf
  ·cases hp
 | empv b =>
  simp [appended] at hp; subst hp;cases h with
  | empv b v h1 h2 =>
   cases b with
   | true=>exact ⟨[],.inl ⟨h1 rfl,rfl⟩,by simp,fun i j d u h=>by simp at h⟩
   | false=>obtain ⟨a,cap,rfl⟩:=h2 rfl; exact ⟨[],.inr ⟨a,cap,rfl,fun j u h=>by simp at h⟩,by simp,fun i j d u h=>by simp at h⟩
 | _=>simp [appended] at hp

theorem src_one {S:Nat→Nat→Prop} {v:Value} {es:List Dat} {size:Nat} {news:List Value} (h:Src w S v es size news) (h0:0 < size) (hf:es.all (Dat.fits size)=true):∀ u∈news,u.oneCell'=true:=fun u hu=>by
 obtain ⟨m,hm⟩:=List.getElem?_of_mem hu;have hlt:m < es.length * size:=by rw [← h.len]; exact (List.getElem?_eq_some_iff.1 hm).1
 have hi:m / size < es.length:=Nat.div_lt_of_lt_mul (by rw [Nat.mul_comm]; exact hlt);have hd:es[m / size]? = some es[m / size]:=jC hi;have hfit:=List.all_eq_true.1 hf _ (z8 hi);have hnum:=fits_num hfit;have hj:m % size < es[m / size].cells.length:=by rw [← Dat.num_eq,hnum]; exact Nat.mod_lt _ h0
 have hr:=h.rep _ (m % size) _ _ hd (jC hj);rw [show m / size * size+m % size=m by rw [Nat.mul_comm]; exact Nat.div_add_mod m size] at hr;rw [jB,hm,Option.getD_some] at hr;simp only [Dat.fits,jE] at hfit;have hc:=List.all_eq_true.1 hfit.2 _ (z8 hj);generalize es[m / size].cells[m % size]=d at hr hc;cases hr <;> first|rfl|(simp [Dat.isCell] at hc; done)|exact one_of_raw (by assumption)

theorem RepD_joined {S S':Nat→Nat→Prop} {w':World} {b cap size n m:Nat} {xs es:List Dat} {olds news:List Value} {cur:Array Value} {ty:TypeId} (hb:w'.heap[b]? = some (.cells cur ty (0,0)))
  (hx:xs.all (Dat.fits size)=true) (he:es.all (Dat.fits size)=true) (hn:xs.length=n) (hm:es.length=m) (hcap:n+m≤cap) (hol:olds.length=n * size) (hnl:news.length=m * size)
  (hcur:∀ j,j < (n+m) * size→cur[j]? = some ((olds++news).getD j undef)) (hS:∀ j,j < (n+m) * size→S' b j)
  (hox:∀ (i j:Nat) d u,xs[i]? = some d→d.cells[j]? = some u→RepD w' S' (olds.getD (i * size+j) undef) u)
  (hne:∀ (i j:Nat) d u,es[i]? = some d→d.cells[j]? = some u→RepD w' S' (news.getD (i * size+j) undef) u) :
  RepD w' S' (.slice (some ⟨b,0,none⟩) (n+m) cap) (.lst (xs++es)):=by
 refine .lst b 0 (n+m) cap size _ (fun j=>(olds++news).getD j undef) y6 hcap (fun d hd=>?_) (fun i hi=>⟨?_,by simpa using hS i hi⟩) (fun i j d u hd hu=>?_)
 ·rcases List.mem_append.1 hd with hd|hd
  ·exact fits_num (List.all_eq_true.1 hx d hd)
  ·exact fits_num (List.all_eq_true.1 he d hd)
 ·rw [zW,cell_of_row w' b i cur ty (0,0) hb]; exact hcur i hi
 ·have hnum:d.num=size:=by
   rcases List.mem_append.1 (jF hd) with hd|hd
   ·exact fits_num (List.all_eq_true.1 hx d hd)
   ·exact fits_num (List.all_eq_true.1 he d hd)
  have hj:j < size:=by rw [← hnum,Dat.num_eq]; exact (List.getElem?_eq_some_iff.1 hu).1
  rw [jT] at hd;split at hd
  ·rename_i hi
   have hlt:i * size+j < olds.length:=by
    rw [hol]
    have:(i+1) * size≤n * size:=Nat.mul_le_mul_right _ y5
    rw [Nat.add_mul] at this; omega
   have:(olds++news).getD (i * size+j) undef=olds.getD (i * size+j) undef:=by
    simp only [jB,jT,if_pos hlt]
   rw [this]; exact hox i j d u hd hu
  ·rename_i hi;obtain ⟨q,rfl⟩:∃ q,i=n+q:=⟨i - n,by omega⟩;have hge:¬ ((n+q) * size+j < olds.length):=by rw [hol,Nat.add_mul]; omega
   have:(olds++news).getD ((n+q) * size+j) undef=news.getD (q * size+j) undef:=by
    simp only [jB,jT,if_neg hge];congr 2; rw [hol,Nat.add_mul]; omega
   rw [this]; exact hne q j d u (by rw [show q=n+q - xs.length by omega]; exact hd) hu


theorem tok_occ {t e:Nat} {n:Nat} {v0:Value} {b:Nat} (ht:H[t]? = some (.tok e n)) (hown:g.own t=some (v0,n)) (hv:v0.ownBlock=some b):occ g H t=some b:=by
 rw [occ_tok ht,hown]; exact hv

theorem append_new {t e size n m:Nat} {xs es:List Dat} {olds news:List Value} {cap:Nat} {zs:Array Value} (ht:H[t]? = some (.tok e n)) (hs:szOf P e=some size)
  (hx:xs.all (Dat.fits size)=true) (he:es.all (Dat.fits size)=true) (hn:xs.length=n) (hm:es.length=m) (hmp:0 < m) (hcap:n+m≤cap) (hcm:cap≤maxLen)
  (hol:olds.length=n * size) (hnl:news.length=m * size) (hz:zs.size=(cap - (n+m)) * size) {v0:Value} (hown:g.own t=some (v0,n))
  (hox:∀ (i j:Nat) d u,xs[i]? = some d→d.cells[j]? = some u→RepD w g.S (olds.getD (i * size+j) undef) u)
  (hne:∀ (i j:Nat) d u,es[i]? = some d→d.cells[j]? = some u→RepD w g.S (news.getD (i * size+j) undef) u)
  (hH:Ql P g B0 H.length H w) (hi:Inv B0 w0 S0 g w) (vals:Array Value) (hvals:vals=olds.toArray++news.toArray++zs) :
  ∃ g',Good P B0 w0 S0 H g w (.vec t (xs++es)) (H.set t (.tok e (n+m))) (.slice (some ⟨w.heap.size,0,none⟩) (n+m) cap) g' (w.drew.alloc (.cells vals e)):=by
 have hlt:t < H.length:=(List.getElem?_eq_some_iff.1 ht).1;have hiD:Inv B0 w0 S0 g w.drew:=⟨hi.below.drew,hi.size,hi.old,hi.lt⟩;have eD:Ext H.length g w g w.drew:=⟨fun _ _ h=>h,fun _ _ _=>rfl,fun _ _ h=>⟨rfl,h⟩,fun _ _ v n h=>⟨v,n,h,j7 _,fun _=>rfl⟩⟩;have hHD:Ql P g B0 H.length H w.drew:=hH.keep eD (j7 _) (j7 _) (fun _ _ _=>rfl) (fun _ _ _ _ h=>h) (fun _ _=>rfl)
 let nv:Value:=.slice (some ⟨w.heap.size,0,none⟩) (n+m) cap
 let g1:=g.pub w.heap.size ((n+m) * size)
 let g2:=g1.give t nv (n+m)
 let w1:=w.drew.alloc (.cells vals e)
 obtain ⟨k1,_⟩:=Ql.pubAlloc (ob:=.cells vals e) (n:=(n+m) * size) (N:=H.length) hHD hiD (j7 _);have hi':Inv B0 w0 S0 g1 w1:=hiD.pubAlloc (ob:=.cells vals e) (n:=(n+m) * size);have hheap:w1.heap[w.heap.size]? = some (.cells vals e (0,0)):=heap_alloc_new w.drew _
 have e2:Ext H.length g1 w1 g2 w1:=⟨fun _ _ h=>h,fun _ _ _=>rfl,fun _ _ h=>⟨rfl,h⟩,fun t' ht' v n' h=>by
  by_cases e':t'=t
  ·subst e';have h':g.own t'=some (v,n'):=h;rw [hown] at h'; cases h';exact ⟨nv,n+m,by simp [g2,Gh.give],by omega,fun e=>by omega⟩
  ·exact ⟨v,n',by simp only [g2,Gh.give]; rw [if_neg e']; exact h,j7 _,fun _=>rfl⟩⟩
 have ee:Ext H.length g w g2 w1:=(eD.trans k1 (j7 _)).trans e2 (j7 _)
 have hvs:vals.size=cap * size:=by
  rw [hvals]; simp only [Array.size_append,List.size_toArray,hol,hnl,hz];rw [← Nat.add_mul,← Nat.add_mul]; congr 1; omega
 have hcur:∀ j,j < (n+m) * size→vals[j]? = some ((olds++news).getD j undef):=fun j hj=>by
  have hj':j < (olds++news).length:=by simp [hol,hnl,← Nat.add_mul]; exact hj
  have:vals[j]? = (olds++news)[j]?:=by
   rw [hvals,Array.getElem?_append,if_pos (by simp at hj' ⊢; exact hj')];simp
  rw [this,jB,jC hj']; rfl
 have hrep:RepD w1 g2.S nv (.lst (xs++es)):=RepD_joined (S:=g.S) hheap hx he hn hm hcap hol hnl hcur (fun j hj=>.inr ⟨rfl,hj⟩) (fun i j d u a b=>(hox i j d u a b).ext ee) (fun i j d u a b=>(hne i j d u a b).ext ee);refine ⟨g2,ee,by simp,.vec _ _ _ nv (n+m) (by simpa using hlt) hrep (by simp [g2,Gh.give]) y6 y8,?_,⟨hi'.below,hi'.size,hi'.old,hi'.lt⟩,Fr.old y7 (fun b hb=>Below.heap_alloc w.drew _ b hb) (fun i b h hb=>?_) (fun b o h=>h.imp id fun h=>.inl (Nat.le_of_eq h.1.symm))⟩
 case refine_2 =>
  rcases occ_set hlt h with ⟨hne,h⟩|⟨_,⟨cs',h,_⟩|⟨e',n',_,h⟩⟩
  ·refine ⟨i,?_⟩;have hil:∀ x,H[i]? = some x→i < H.length:=fun x hh=>(List.getElem?_eq_some_iff.1 hh).1
   unfold occ at h ⊢;split at h
   ·exact h
   ·simp only [g2,Gh.give] at h; rw [if_neg hne] at h; exact h
   ·simp only [g2,Gh.give] at h; rw [if_neg hne] at h; exact h
   ·exact h
   ·cases h
   ·cases h
  ·cases h
  ·simp [g2,Gh.give,nv,Value.ownBlock] at h; subst h; exact absurd hb (jZ _)
 refine hH.turn ee y7 (j7 _) _ hlt (fun i b _ hb=>Below.heap_alloc w.drew _ b (hH.occ_lt hb).2.1) (fun i b _ hb o hs=>?_) (fun t' _ hne=>by simp only [g2,Gh.give]; rw [if_neg hne]; rfl) (fun _ h=>by cases h) (fun e' n' h=>?_) (fun i b hik hb h=>?_)
 ·rcases hs with hs|⟨rfl,_⟩
  ·exact hs
  ·exact absurd (hH.occ_lt hb).2.1 (jZ _)
 ·cases h
  exact ⟨nv,by simp [g2,Gh.give],.inr ⟨w.heap.size,cap,vals,size,rfl,hi.size,hheap,hs,hcap,hcm,hvs,fun o hs=>by
   rcases hs with hs|⟨_,hs⟩
   ·exact absurd (hi.lt _ _ hs) (jZ _)
   ·exact hs⟩⟩
 ·rw [occ_tok (e:=e) (n:=n+m) (by simp [hlt])] at h;simp [g2,Gh.give,nv,Value.ownBlock] at h;subst h;exact jZ _ (hH.occ_lt hb).2.1

theorem append_in {t e size n m b cap:Nat} {xs es:List Dat} {news:List Value} {cur:Array Value} (ht:H[t]? = some (.tok e n)) (hs:szOf P e=some size)
  (hx:xs.all (Dat.fits size)=true) (he:es.all (Dat.fits size)=true) (hn:xs.length=n) (hm:es.length=m) (hcap:n+m≤cap) (hcm:cap≤maxLen)
  (hnl:news.length=m * size) (hown:g.own t=some (.slice (some ⟨b,0,none⟩) n cap,n)) (hB:B0≤b) (hb:w.heap[b]? = some (.cells cur e (0,0))) (hcs:cur.size=cap * size) (hSb:∀ o,g.S b o→o < n * size)
  (hxr:RepD w g.S (.slice (some ⟨b,0,none⟩) n cap) (.lst xs))
  (hne:∀ (i j:Nat) d u,es[i]? = some d→d.cells[j]? = some u→RepD w g.S (news.getD (i * size+j) undef) u)
  (hH:Ql P g B0 H.length H w) (hi:Inv B0 w0 S0 g w) (row:Array Value) (hrow:row=(cur.toList.take (n * size)++news++cur.toList.drop (n * size+news.length)).toArray) :
  ∃ g',Good P B0 w0 S0 H g w (.vec t (xs++es)) (H.set t (.tok e (n+m))) (.slice (some ⟨b,0,none⟩) (n+m) cap) g' (w.setRow b row):=by
 have hlt:t < H.length:=(List.getElem?_eq_some_iff.1 ht).1;have hle:(n+m) * size≤cap * size:=Nat.mul_le_mul_right _ hcap;have hroom:n * size+news.length≤cur.toList.length:=by simp [hnl,hcs,← Nat.add_mul]; exact hle
 have hget:∀ j,row[j]? = if j < n * size then cur[j]? else if j < (n+m) * size then news[j - n * size]? else cur[j]?:=fun j=>by
  rw [hrow];simp only [List.getElem?_toArray];rw [pasted_get _ _ _ hroom,hnl,← Nat.add_mul]; simp
 have hrs:row.size=cap * size:=by
  have h1:n * size≤cur.size:=by rw [hcs]; exact Nat.mul_le_mul_right _ y5
  have h2:n * size+news.length≤cur.size:=by simpa using hroom
  rw [hrow]; simp only [List.size_toArray,jV,zT,zZ,Array.length_toList,Nat.min_eq_left h1]; omega
 let nv:Value:=.slice (some ⟨b,0,none⟩) (n+m) cap
 let g1:=g.pub b ((n+m) * size)
 let g2:=g1.give t nv (n+m)
 let w1:=w.setRow b row
 have hheap:w1.heap[b]? = some (.cells row e (0,0)):=setRow_heap w _ _ _ _ _ hb
 have hcell:∀ b' o',g.S b' o'→w1.cell? ⟨b',o',none⟩=w.cell? ⟨b',o',none⟩:=fun b' o' hs'=>by
  by_cases e':b'=b
  ·subst e';rw [cell_of_row _ _ _ _ _ _ hheap,cell_of_row _ _ _ _ _ _ hb,hget,if_pos (hSb o' hs')]
  ·exact cell_setRow_other w _ _ _ e'
 have ee:Ext H.length g w g2 w1:=⟨fun _ _ h=>.inl h,hcell,fun _ _ h=>⟨rfl,h⟩,fun t' ht' v n' h=>by
  by_cases e':t'=t
  ·subst e';rw [hown] at h; cases h;exact ⟨nv,n+m,by simp [g2,Gh.give],by omega,fun e=>by have:m=0:=y5; subst this; rfl⟩
  ·exact ⟨v,n',by simp only [g2,Gh.give]; rw [if_neg e']; exact h,j7 _,fun _=>rfl⟩⟩
 obtain ⟨olds,hos⟩:∃ olds,Src w g.S (.slice (some ⟨b,0,none⟩) n cap) xs size olds:=src_lst hxr hx
 have hold:∀ j,j < n * size→cur[j]? = some (olds.getD j undef):=fun j hj=>by
  have hj':j < olds.length:=by rw [hos.len,hn]; exact hj
  rcases hos.shape with ⟨h,_⟩|⟨ad,c,h,hcell⟩
  ·cases h
  ·cases h;have:=hcell j _ (jC hj');rw [add_lit,zW,cell_of_row _ _ _ _ _ _ hb] at this;rw [this,jB,jC hj']; rfl
 have hcur:∀ j,j < (n+m) * size→row[j]? = some ((olds++news).getD j undef):=fun j hj=>by
  rw [hget,jB,jT,hos.len,hn];by_cases c1:j < n * size
  ·rw [if_pos c1,if_pos c1,hold j c1,jB]
  ·rw [if_neg c1,if_neg c1,if_pos hj]
   have:j - n * size < news.length:=by rw [hnl]; rw [Nat.add_mul] at hj; omega
   rw [jC this]; rfl
 have hrep:RepD w1 g2.S nv (.lst (xs++es)):=RepD_joined (S:=g.S) hheap hx he hn hm hcap (by rw [hos.len,hn]) hnl hcur (fun j hj=>.inr ⟨rfl,hj⟩) (fun i j d u a b=>(hos.rep i j d u a b).ext ee) (fun i j d u a b=>(hne i j d u a b).ext ee);refine ⟨g2,ee,by simp,.vec _ _ _ nv (n+m) (by simpa using hlt) hrep (by simp [g2,Gh.give]) y6 y8,?_,⟨below_setRow hi.below hB _,by simp; exact hi.size,fun b' o' hs=>?_,fun b' o' hs=>?_⟩,⟨by simp,fun b' _ hn=>setRow_other w _ _ _ (fun e'=>hn t (by rw [tok_occ ht hown rfl,e'])),fun i b' h hb'=>?_,fun b' o' h=>h.imp id fun h=>.inr ⟨t,by rw [tok_occ ht hown rfl,h.1]⟩⟩⟩
 ·have hocc:occ g H t=some b:=tok_occ ht hown rfl;refine hH.turn ee y7 (j7 _) _ hlt (fun i b' hik hb'=>setRow_other w _ _ _ (fun e'=>hik (hH.sep i t b' hb' (by rw [hocc,e'])))) (fun i b' hik hb' o' hs=>?_) (fun t' _ hne=>by simp only [g2,Gh.give]; rw [if_neg hne]; rfl) (fun _ h=>by cases h) (fun e' n' h=>?_) (fun i b' hik hb' h=>?_)
  ·rcases hs with hs|⟨rfl,_⟩
   ·exact hs
   ·exact absurd (hH.sep i t _ hb' hocc) hik
  ·cases h
   exact ⟨nv,by simp [g2,Gh.give],.inr ⟨b,cap,row,size,rfl,hB,hheap,hs,hcap,hcm,hrs,fun o hs=>by
    rcases hs with hs|⟨_,hs⟩
    ·have:=hSb o hs; rw [Nat.add_mul]; omega
    ·exact hs⟩⟩
  ·rw [occ_tok (e:=e) (n:=n+m) (by simp [hlt])] at h;simp [g2,Gh.give,nv,Value.ownBlock] at h;subst h;exact hik (hH.sep i t _ hb' hocc)
 ·rcases hs with hs|⟨rfl,_⟩
  ·exact hi.old b' o' hs
  ·exact .inr hB
 ·rcases hs with hs|⟨rfl,_⟩
  ·simp; exact hi.lt b' o' hs
  ·simp; exact lt_of_heap hb
 ·rcases occ_set hlt h with ⟨hne,h⟩|⟨_,⟨cs',h,_⟩|⟨e',n',_,h⟩⟩
  ·refine ⟨i,?_⟩;unfold occ at h ⊢;split at h
   ·exact h
   ·simp only [g2,Gh.give] at h; rw [if_neg hne] at h; exact h
   ·simp only [g2,Gh.give] at h; rw [if_neg hne] at h; exact h
   ·exact h
   ·cases h
   ·cases h
  ·cases h
  ·simp [g2,Gh.give,nv,Value.ownBlock] at h; subst h; exact ⟨t,tok_occ ht hown rfl⟩


theorem run_append_none {ts e:TypeId} {ty:TypeId} (hty:elemOfSlice P ts=some e) {size:Nat} (hs:szOf P e=some size) (base ad:Option Addr) (n cap c:Nat) (h:n≤cap) :
  (Builtin.append_ #[ts,ts] ty #[.slice base n cap,.slice ad 0 c]).run P w=.ok (.slice base n cap) w:=by
 cases base <;> cases ad <;> simp [Builtin.append_,run_underlying (Qx hty),run_szOf hs,Builtin.lenOf,h,Builtin.firstCells,loadCells,loadCellsFrom,storeCells]

theorem append_ok {t e size bytes:Nat} {x s:Operand} {ts:TypeId} {xs es:List Dat} {n:Nat} {z:Dat} (ho:o.op=.call { callee:=.builtin .append,args:=#[s,x],argTypes:=#[ts,ts] })
  (hty:elemOfSlice P ts=some e) (hs:szOf P e=some size) (hb:bytesOf P e=some bytes) (hz:zeroOf P e=some z) (hzn:z.num=size) (h0:0 < size) (h0b:0 < bytes)
  (hsv:ρ s=.vec t xs) (hxv:appended H (ρ x)=some es) (hx:xs.all (Dat.fits size)=true) (he:es.all (Dat.fits size)=true) (ht:H[t]? = some (.tok e n)) (hn:n=xs.length)
  (hroom:(xs.length+es.length) * bytes≤room)
  (hH:Ql P g B0 H.length H w) (hi:Inv B0 w0 S0 g w) (hρ:∀ x,RepV g H.length w (a.eval x) (ρ x)) :
  ∃ v g' w',OpRes P o a w v w'∧Good P B0 w0 S0 H g w (.vec t (xs++es)) (H.set t (.tok e (xs.length+es.length))) v g' w':=by
 subst hn;obtain ⟨ie,zv,i1,i2,i3,_⟩:=zeroOf_ok hz;have hsz:ie.size=size:=by simp only [szOf,i1,jN,j9] at hs; exact hs
 have hby:ie.bytes=bytes:=by simp only [bytesOf,i1,jN,j9] at hb; exact hb
 have hzs:zv.cells.size=size:=by rw [(i3 w g.S).cells.1,← Dat.num_eq,hzn]
 obtain ⟨news,src⟩:=src_ok (P:=P) (size:=size) hH (hρ x) hxv he;have hone:=src_one src h0 he;obtain ⟨v0,hown,htok⟩:=hH.tok t e _ ht;have hsrep:=hρ s;rw [hsv] at hsrep;have hlb:xs.length+es.length≤room:=jW (Nat.le_mul_of_pos_right _ h0b) hroom;have hmax:xs.length+es.length≤maxLen:=by simp only [room] at hlb; simp only [maxLen]; omega
 have h63:((xs.length+es.length:Nat):Int)≤9223372036854775807:=by simp only [room] at hlb; omega
 generalize hvs:a.eval s=vs at hsrep;cases hsrep with
 | vec v t xs v0' n' q1 q2 q3 q4 q5 =>
  rw [hown] at q3;obtain ⟨rfl,rfl⟩:v0=v0'∧xs.length=n':=by simpa using q3
  have hvv:=q5 rfl;subst hvv
  have hex:∀ v w',(Builtin.append_ #[ts,ts] o.type #[vs,a.eval x]).run P w=.ok v w'→OpRes P o a w v w':=fun v w' hr=>by
   left;simp [execOp,ho,resolve,invoke,builtin,hvs,hr]
  by_cases hm0:es.length=0
  ·-- nothing is appended
   have:es=[]:=List.eq_nil_of_length_eq_zero hm0
   subst this
   have hset:H.set t (.tok e (xs.length+([]:List Dat).length))=H:=by
    apply List.ext_getElem?;intro i;rw [zC];split
    ·rename_i e'; subst e'; rw [ht]; rfl
    ·rfl
   rw [hset,jU];refine ⟨vs,g,w,?_,.same hH hi (.vec _ _ _ vs xs.length q1 q2 hown (j7 _) y8)⟩
   obtain ⟨base,cap,hbase,hcap⟩:∃ base cap,vs=.slice base xs.length cap∧xs.length≤cap:=by
    rcases htok with ⟨rfl,h⟩|⟨b,cap,cur,size',rfl,_,_,_,h,_⟩
    ·exact ⟨none,0,by rw [h],by omega⟩
    ·exact ⟨_,cap,rfl,h⟩
   obtain ⟨ad,c,hxa⟩:∃ ad c,a.eval x=.slice ad 0 c:=by
    rcases src.shape with ⟨h,_⟩|⟨ad,c,h,_⟩
    ·exact ⟨none,0,h⟩
    ·exact ⟨some ad,c,h⟩
   refine hex _ _ ?_;rw [hbase,hxa];exact run_append_none hty hs base ad _ cap c hcap
  ·-- something
   obtain ⟨ad,c,hxa,hnews⟩:∃ ad c,a.eval x=.slice (some ad) es.length c∧∀ (j:Nat) u,news[j]? = some u→w.cell? (ad.add j)=some u:=by
    rcases src.shape with ⟨_,h⟩|⟨ad,c,h,h'⟩
    ·subst h; exact absurd rfl hm0
    ·exact ⟨ad,c,h,h'⟩
   have hnl:=src.len;rcases htok with ⟨rfl,hx0⟩|⟨b,cap,cur,size',rfl,hB,hbk,hs',hnc,hcm,hcs,hSb⟩
   ·have hxe:xs=[]:=List.eq_nil_of_length_eq_zero hx0;subst hxe;have hr:=run_append_nil (P:=P) w ts o.type e ie zv (Qx hty) i1 i2 ad es.length c news (by rw [hsz]; exact hnl) hnews y5 (by simpa using h63) (by rw [hby]; simp only [jL,zW,room] at hroom; omega);have hge:=grownCap_ge w es.length 0 e;have hcm:=grownCap_le_maxLen w es.length 0 e (by simpa using hmax)
    obtain ⟨g',hg⟩:=append_new (P:=P) (S0:=S0) (w0:=w0) (m:=es.length) (n:=0) (olds:=[]) (zs:=Builtin.zeroCells zv.cells (grownCap w es.length 0 e - es.length)) (cap:=grownCap w es.length 0 e) ht hs hx he rfl rfl y5 y5 hcm
     y7 hnl (by simp [size_zeroCells,hzs]) hown (fun i j d u h=>by simp at h) src.rep hH hi (news.toArray++Builtin.zeroCells zv.cells (grownCap w es.length 0 e - es.length)) y7
    simp only [jL,zW] at hg ⊢;exact ⟨_,g',_,hex _ _ (by rw [hxa]; exact hr),hg⟩
   ·have hss:size'=size:=by rw [hs] at hs'; exact (jS hs').symm
    subst hss;by_cases hcap:xs.length+es.length≤cap
    ·have hroom':xs.length * ie.size+news.length≤cur.size:=by rw [hnl,hcs,hsz,← Nat.add_mul]; exact Nat.mul_le_mul_right _ hcap
     have hr:=run_append_room (P:=P) w ts o.type e ie (Qx hty) i1 b xs.length cap cur hbk ad es.length c news (by rw [hsz]; exact hnl) hnews hone hcap hroom';obtain ⟨g',hg⟩:=append_in (P:=P) (S0:=S0) (w0:=w0) (m:=es.length) (n:=xs.length) ht hs hx he rfl rfl hcap hcm hnl hown hB hbk hcs hSb q2 src.rep hH hi _ rfl;rw [hsz] at hr;exact ⟨_,g',_,hex _ _ (by rw [hxa]; exact hr),hg⟩
    ·obtain ⟨olds,hos⟩:=src_lst (size:=size') q2 hx
     have holds:∀ (j:Nat) v,olds[j]? = some v→w.cell? ((⟨b,0,none⟩:Addr).add j)=some v:=by
      rcases hos.shape with ⟨h,_⟩|⟨ad',c',h,h'⟩
      ·cases h
      ·cases h; exact h'
     have hr:=run_append_grow (P:=P) w ts o.type e ie zv (Qx hty) i1 i2 ⟨b,0,none⟩ xs.length cap olds (by rw [hsz]; exact hos.len) holds ad es.length c news (by rw [hsz]; exact hnl) hnews y5 h63 (growslice_fits y5 (by rw [hby]; exact hroom));have hge:=grownCap_ge w (xs.length+es.length) cap e;have hcm':=grownCap_le_maxLen w (xs.length+es.length) cap e hmax
     obtain ⟨g',hg⟩:=append_new (P:=P) (S0:=S0) (w0:=w0) (m:=es.length) (n:=xs.length) (olds:=olds) (zs:=Builtin.zeroCells zv.cells (grownCap w (xs.length+es.length) cap e - (xs.length+es.length))) (cap:=grownCap w (xs.length+es.length) cap e) ht hs hx he rfl rfl y5 hge hcm'
      hos.len hnl (by simp [size_zeroCells,hzs]) hown hos.rep src.rep hH hi _ rfl
     exact ⟨_,g',_,hex _ _ (by rw [hxa]; exact hr),hg⟩

end
end Go.Pm
