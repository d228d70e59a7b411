/-
 The pure machine: soundness of written lists whose elements have several cells, and of lists that are made to be written.
-/
import Derived.Test.YtlddncgoekmflaaGreatPmOps8
namespace Go.Pm
open Go Go.RowKit
set_option linter.unusedVariables false
section
variable {P:Program} {B0 N:Nat} {w0:World} {S0:Nat→Nat→Prop} {g:Gh} {H H':List Blk} {w:World} {p:PV} {o:Oper} {a:Act} {ρ:Operand→PV}

def mtLen (cs:List PV):Nat:=match cs with
 | .dat d::_=>cs.length * d.num
 | _=>cs.length
theorem mtLen_flat {cs:List PV} (h:cs.all PV.flat=true):cs.length≤mtLen cs:=by
 unfold mtLen
 split
 ·rename_i d r
  simp only [List.all_cons,Bool.and_eq_true] at h
  cases d with
  | agg=>simp [PV.flat] at h
  | raw=>simp [Dat.num]
  | lst=>simp [Dat.num]
 ·exact Nat.le_refl _
theorem mtLen_fits {size:Nat} {ds:List Dat} (h:ds.all (Dat.fits size)=true):mtLen (ds.map PV.dat)=ds.length * size:=by
 cases ds with
 | nil=>simp [mtLen]
 | cons d ds=>simp only [List.map_cons,mtLen]; rw [fits_num (List.all_eq_true.1 h d (by simp))]; simp

def RowD (w:World) (S:Nat→Nat→Prop) (size:Nat) (ds:List Dat) (cur:Array Value):Prop :=
 ∀ (i j:Nat) d u v,ds[i]? = some d→d.cells[j]? = some u→cur[i * size+j]? = some v→RepD w S v u

theorem cell_lt {size i j n:Nat} {ds:List Dat} {d u:Dat} (hf:ds.all (Dat.fits size)=true) (h1:ds[i]? = some d) (h2:d.cells[j]? = some u) (hn:ds.length≤n):j < size∧i < ds.length∧i * size+j < n * size:=by
 have hj:j < size:=by rw [← fits_num (List.all_eq_true.1 hf d (List.mem_of_getElem? h1)),Dat.num_eq]; exact (List.getElem?_eq_some_iff.1 h2).1
 have hi:i < ds.length:=(List.getElem?_eq_some_iff.1 h1).1
 have:(i+1) * size≤n * size:=Nat.mul_le_mul_right _ (by omega)
 rw [Nat.add_mul] at this
 exact ⟨hj,hi,by omega⟩

theorem mt_read {S':Nat→Nat→Prop} {e lo len:Nat} {cs:List PV} {v v0:Value} {ds:List Dat} (hm:MtOK P g N B0 w e cs v0) (hv:v=subOf v0 lo len) (hcut:(cut cs lo len).bind allDat=some ds) (hev:evenD lo ds=true) (hlc:∃ a c,v=.slice a len c∧len≤c)
  (hS:∀ b o,g.S b o→S' b o) (hS':∀ b o,mtBlock v0=some b→o < mtLen cs→S' b o):RepD w S' v (.lst ds):=by
 simp only [Option.bind_eq_some_iff] at hcut
 obtain ⟨cs',hcut,hall⟩:=hcut
 obtain ⟨c1,c2,c3⟩:=cut_some hcut
 have e1:=allDat_some _ _ hall
 subst e1
 simp at c1
 have hget:∀ (i:Nat) d,ds[i]? = some d→cs[lo+i]? = some (.dat d):=fun i d hd=>by
  have:=c3 i (by rw [← c1]; exact (List.getElem?_eq_some_iff.1 hd).1)
  rw [List.getElem?_map,hd] at this
  exact this.symm
 rcases hm with ⟨rfl,hn⟩|⟨b,l,cap,cur,rfl,q0,q1,q2,q3,q4,q5,q6,q7,q8⟩|⟨b,l,cap,cur,size,da,rfl,q0,q1,q2,q3,q3',rfl,q4,q4',q5,q6,q7,q8⟩
 ·simp at c2
  obtain ⟨rfl,rfl⟩:=c2
  have:ds=[]:=List.eq_nil_of_length_eq_zero c1
  subst this
  rcases hn with rfl|⟨a,rfl⟩
  ·rw [hv]; exact .nil
  ·rw [hv]; exact .empty _ _
 ·have hcell:∀ d∈ds,d.isCell=true:=fun d hd=>by
   obtain ⟨i,hi⟩:=List.getElem?_of_mem hd
   have:=List.all_eq_true.1 q4.2 _ (List.mem_of_getElem? (hget i d hi))
   cases d <;> simp_all [PV.flat,Dat.isCell]
  have hone:∀ d∈ds,d.cells=[d]:=fun d hd=>by
   have:=hcell d hd
   cases d <;> simp_all [Dat.cells,Dat.isCell]
  have hml:=mtLen_flat q4.2
  have hlc':len≤cap - lo:=by
   obtain ⟨a,c,e1,e2⟩:=hlc
   rw [hv] at e1; simp [subOf] at e1; omega
  have hmb:mtBlock (.slice (some ⟨b,0,none⟩) l cap)=some b:=by simp [mtBlock]; omega
  rw [hv,subOf,add_lit,Nat.zero_add]
  refine .lst b lo len (cap - lo) 1 ds (fun j=>cur.getD (lo+j) undef) c1.symm hlc' (fun d hd=>by rw [Dat.num_eq,hone d hd]; rfl) (fun j hj=>?_) (fun i' j d u hd hu=>?_)
  ·rw [Nat.mul_one] at hj
   have hlt:lo+j < cur.size:=by omega
   refine ⟨?_,hS' _ _ hmb (by omega)⟩
   rw [cell_of_row w _ _ cur _ (0,0) q2,Array.getD_eq_getD_getElem?,Array.getElem?_eq_getElem hlt]; rfl
  ·rw [hone d (List.mem_of_getElem? hd)] at hu
   have hj:j=0:=by cases j with|zero=>rfl|succ j=>simp at hu
   subst hj
   simp at hu; subst hu
   have hi':i' < len:=by rw [← c1]; exact (List.getElem?_eq_some_iff.1 hd).1
   have hlt:lo+i' < cur.size:=by omega
   have:=((q8 (lo+i') _ _ (Array.getElem?_eq_getElem hlt) (hget i' d hd)).datInv).mono hS (fun _ _ _=>rfl)
   simpa [Array.getD_eq_getD_getElem?,Array.getElem?_eq_getElem hlt] using this
 ·have hmb:mtBlock (.slice (some ⟨b,0,none⟩) l cap)=some b:=by simp [mtBlock]; omega
  rw [hv,subOf,add_lit,Nat.zero_add]
  cases hds:ds with
  | nil =>
   subst hds
   obtain rfl:len=0:=by simpa using c1.symm
   exact .empty _ _
  | cons d0 r =>
   have hin:∀ (i:Nat) d,ds[i]? = some d→da[lo+i]? = some d:=fun i d hd=>by
    have:=hget i d hd
    rw [List.getElem?_map,Option.map_eq_some_iff] at this
    obtain ⟨d',h1,h2⟩:=this
    cases h2; exact h1
   have hlo:lo=0:=by
    simp only [evenD,Bool.or_eq_true,Bool.and_eq_true,beq_iff_eq] at hev
    rcases hev with hev|hev
    ·exfalso
     have h0:=hin 0 d0 (by rw [hds]; rfl)
     have h1:=fits_num (List.all_eq_true.1 q4 _ (List.mem_of_getElem? h0))
     have h2:=List.all_eq_true.1 hev d0 (by rw [hds]; simp)
     cases d0 <;> simp [Dat.num,Dat.isCell] at h1 h2 <;> omega
    ·exact hev.1
   subst hlo
   have hfd:ds.all (Dat.fits size)=true:=by
    rw [List.all_eq_true]
    intro d hd
    obtain ⟨i,hi⟩:=List.getElem?_of_mem hd
    exact List.all_eq_true.1 q4 d (List.mem_of_getElem? (hin i d hi))
   rw [← hds]
   have hle:len≤da.length:=by simpa using c2
   have hll:len * size≤da.length * size:=Nat.mul_le_mul_right _ hle
   have hlc:da.length * size≤cap * size:=Nat.mul_le_mul_right _ q4'
   refine .lst b 0 len (cap - 0) size ds (fun j=>cur.getD (0+j) undef) c1.symm (by omega) (fun d hd=>fits_num (List.all_eq_true.1 hfd d hd)) (fun j hj=>?_) (fun i' j d u hd hu=>?_)
   ·have hlt:0+j < cur.size:=by omega
    refine ⟨?_,hS' _ _ hmb (by rw [mtLen_fits q4]; omega)⟩
    rw [cell_of_row w _ _ cur _ (0,0) q2,Array.getD_eq_getD_getElem?,Array.getElem?_eq_getElem hlt]; rfl
   ·obtain ⟨k1,k2,k3⟩:=cell_lt hfd hd hu (n:=cap) (by omega)
    have hlt:0+(i' * size+j) < cur.size:=by omega
    have h3:=hin i' d hd
    rw [Nat.zero_add] at h3
    have:=(q8 i' j d u _ h3 hu (Array.getElem?_eq_getElem (by omega))).mono hS (fun _ _ _=>rfl)
    simpa [Array.getD_eq_getD_getElem?,Array.getElem?_eq_getElem (show i' * size+j < cur.size by omega)] using this

theorem dat_of_num {p:PV} {n:Nat} (h:p.numOf=some n):∃ d,p=.dat d∧d.num=n:=by
 cases p with
 | dat d=>exact ⟨d,rfl,by simpa [PV.numOf] using h⟩
 | _=>simp [PV.numOf] at h
theorem agg_of_num {d:Dat} {n:Nat} (h:d.num=n) (h1:1 < n):d=.agg d.cells:=by
 cases d with
 | agg cs=>rfl
 | raw=>simp [Dat.num] at h; omega
 | lst=>simp [Dat.num] at h; omega
theorem MtOK.mul {e:TypeId} {cs:List PV} {v0:Value} {i n:Nat} (h:MtOK P g N B0 w e cs v0) (hn:cs[i]?.bind PV.numOf=some n) (h1:1 < n):MulOK P g B0 w e cs v0:=by
 rw [Option.bind_eq_some_iff] at hn
 obtain ⟨p,hp,hn⟩:=hn
 obtain ⟨d,rfl,hd⟩:=dat_of_num hn
 rcases h with ⟨rfl,_⟩|⟨b,l,cap,cur,rfl,q0,q1,q2,q3,q4,_⟩|h
 ·simp at hp
 ·have:=List.all_eq_true.1 q4.2 _ (List.mem_of_getElem? hp)
  rw [agg_of_num hd h1] at this
  simp [PV.flat] at this
 ·exact h

theorem new_mt {e len cap:Nat} {cs:List PV} (vals:Array Value) (hlc:len≤cap) (hpos:0 < cap) (hmt:∀ w',w'.heap[w.heap.size]? = some (.cells vals e (0,0))→Ext H.length g w g w'→∀ g',Ext H.length g w g' w'→g'.S=g.S→MtOK P g' (H.length+1) B0 w' e cs (.slice (some ⟨w.heap.size,0,none⟩) len cap))
  (hH:Qr P g B0 H.length H w) (hi:Inv B0 w0 S0 g w) :
  ∃ g',Good P B0 w0 S0 H g w (.ms H.length 1 0 len cap) (H++[.mt e 1 cs]) (.slice (some ⟨w.heap.size,0,none⟩) len cap) g' (w.alloc (.cells vals e)):=by
 let v0:Value:=.slice (some ⟨w.heap.size,0,none⟩) len cap
 have k1:Ext H.length g w g (w.alloc (.cells vals e)):=Ext.alloc hi H.length _
 have hH1:=hH.alloc hi (Nat.le_refl _) (.cells vals e)
 have hi1:=hi.alloc (.cells vals e)
 have e2:Ext H.length g (w.alloc (.cells vals e)) (g.give H.length v0 1) (w.alloc (.cells vals e)):=.giveNew _ _ _ (Nat.le_refl _)
 have he:=k1.trans e2 (Nat.le_refl _)
 have hmb:mtBlock v0=some w.heap.size:=by simp [v0,mtBlock]; omega
 have hown:(g.give H.length v0 1).own H.length=some (v0,1):=by simp [Gh.give]
 refine ⟨g.give H.length v0 1,he,by simp,.ms _ _ _ _ _ _ v0 1 (by simp) hown (Nat.le_refl _) (fun _=>⟨by simp [v0,subOf,Addr.add],.inr (.inr ⟨_,_,_,rfl⟩)⟩) ⟨_,_,rfl,Nat.le_refl _,hlc,fun _=>rfl⟩,?_,⟨hi1.below,hi1.size,hi1.old,hi1.lt⟩,Fr.old (by simp) (fun b hb=>Below.heap_alloc w _ b hb) fun i b h hb=>?_⟩
 ·have hk:=hH1.keep e2 (show H.length≤(H++[Blk.mt e 1 cs]).length by simp) (Nat.le_refl _) (fun _ _ _=>rfl) (fun _ _ _ _ h=>h) (fun t ht=>by simp only [Gh.give]; rw [if_neg (by omega)])
  refine hk.snoc _ (fun cs h=>by cases h) (fun e' n h=>by cases h) (fun i b h h2=>?_) (fun e' n cs h=>?_) (hmt0:=fun _ _ h=>by cases h)
  ·rw [occ_mt (e:=e) (n:=1) (cs:=cs) (by simp),hown] at h2
   simp only [Option.bind_some,hmb,Option.some.injEq] at h2
   subst h2
   have h3:occ g H i=some w.heap.size:=occ_ghost (g:=g) h (fun _ _=>rfl) (fun j hj=>by simp only [Gh.give]; rw [if_neg (by omega)])
   exact Nat.lt_irrefl _ (hH.occ_lt h3).2.1
  ·cases h
   refine ⟨v0,hown,?_⟩
   have:=hmt (w.alloc (.cells vals e)) (heap_alloc_new w _) k1 _ he rfl
   simpa using this
 ·rcases occ_snoc_mt h with h|⟨_,h⟩
  ·exact ⟨i,occ_ghost (g:=g) h (fun _ _=>rfl) (fun j hj=>by simp only [Gh.give]; rw [if_neg (by omega)])⟩
  ·rw [hown] at h
   simp only [Option.bind_some,hmb,Option.some.injEq] at h
   omega

theorem ownMake_ok {t e size bytes:Nat} {xl xc:Operand} {z:Dat} {c:Int} (ho:o.op=.makeSlice t xl xc) (he:elemOfSlice P t=some e) (hz:zeroOf P e=some z) (hs:szOf P e=some size) (hb:bytesOf P e=some bytes)
  (hl:ρ xl=.dat (.raw (.int .i64 c))) (hc:ρ xc=.dat (.raw (.int .i64 c))) (hm:ownMake H e size bytes z c=some (p,H'))
  (hH:Qr P g B0 H.length H w) (hi:Inv B0 w0 S0 g w) (hρ:∀ x,RepV g H.length w (a.eval x) (ρ x)) :
  ∃ v g' w',OpRes P o a w v w'∧Good P B0 w0 S0 H g w p H' v g' w':=by
 unfold ownMake at hm
 split at hm
 case isFalse=>cases hm
 rename_i hcond
 obtain ⟨h0,hroom,h63,hbp,hel⟩:=hcond
 obtain ⟨ie,zv,i1,i2,i3,_⟩:=zeroOf_ok hz
 have hsz:ie.size=size:=by simp only [szOf,i1,Option.map_some,Option.some.injEq] at hs; exact hs
 have hby:ie.bytes=bytes:=by simp only [bytesOf,i1,Option.map_some,Option.some.injEq] at hb; exact hb
 have vl:=int_rep (by rw [← hl]; exact hρ xl)
 have vc:=int_rep (by rw [← hc]; exact hρ xc)
 have hr:=run_make (P:=P) w t e ie zv (Q2 he) i1 i2 .i64 .i64 c c h0 (Int.le_refl _) (by rw [hby,Int.mul_comm]; simp only [room] at hroom; omega) h63
 have hop:OpRes P o a w (.slice (some ⟨w.heap.size,0,none⟩) c.toNat c.toNat) (w.alloc (.cells (madeCells zv.cells (c.toNat * ie.size)) e)):=.inl (by simp only [execOp,ho,vl,vc,Sem.run_bind]; rw [hr]; rfl)
 split at hm
 ·rename_i hc0
  subst hc0
  cases hm
  have hH1:=hH.alloc hi (Nat.le_refl _) (.cells (madeCells zv.cells ((0:Int).toNat * ie.size)) e)
  have hi1:=hi.alloc (.cells (madeCells zv.cells ((0:Int).toNat * ie.size)) e)
  obtain ⟨g',hg⟩:=own_mt_at (P:=P) (S0:=S0) (w0:=w0) hH1 hi1 e (some ⟨w.heap.size,0,none⟩)
  refine ⟨_,g',_,hop,⟨(Ext.alloc hi H.length _).trans hg.ext (Nat.le_refl _),hg.len,hg.rep,hg.heap,hg.inv,?_⟩⟩
  exact (Fr.old (by simp) (fun b hb=>Below.heap_alloc w _ b hb) (fun i b h _=>⟨i,h⟩)).trans hg.fr
 ·rename_i hc0
  cases hm
  have hpos:0 < c.toNat:=by omega
  have hcap:c.toNat≤maxLen:=by
   have h1:c.toNat * bytes≤room:=by
    have:((c.toNat * bytes:Nat):Int)≤(room:Int):=by rw [Int.natCast_mul,Int.toNat_of_nonneg h0]; exact hroom
    omega
   have h2:c.toNat≤c.toNat * bytes:=Nat.le_mul_of_pos_right _ hbp
   simp only [room] at h1
   simp only [maxLen]; omega
  have hmade:∀ (m:Nat) v,(madeCells zv.cells (c.toNat * ie.size))[m]? = some v→v=zv.cells[m % zv.cells.size]!:=fun m v h=>by
   simp only [madeCells,Array.getElem?_map,Option.map_eq_some_iff] at h
   obtain ⟨m',hm',rfl⟩:=h
   rw [Array.getElem?_range] at hm'
   split at hm'
   ·cases hm'; rfl
   ·cases hm'
  obtain ⟨g',hg⟩:=new_mt (P:=P) (S0:=S0) (w0:=w0) (e:=e) (len:=c.toNat) (cap:=c.toNat) (cs:=List.replicate c.toNat (.dat z)) (madeCells zv.cells (c.toNat * ie.size)) (Nat.le_refl _) hpos (fun w' hw' e1 g' e2 hS=>by
   obtain ⟨z1,z2⟩:=(i3 w' g'.S).cells
   rcases hel with ⟨rfl,hzc⟩|⟨h1s,hzf⟩
   ·have hzv:zv.cells.size=1:=by rw [z1]; cases z <;> simp_all [Dat.cells,Dat.isCell]
    have hmz:(madeCells zv.cells (c.toNat * ie.size)).size=c.toNat:=by rw [size_madeCells,hsz]; omega
    refine .inr (.inl ⟨w.heap.size,_,c.toNat,_,rfl,hpos,hi.size,hw',⟨1,hs,by decide,by omega⟩,⟨by rw [hmz]; simp,?_⟩,hcap,by omega,fun o h=>?_,fun j v d g1 g2=>?_⟩)
    ·rw [List.all_eq_true]
     intro x hx
     rw [List.eq_of_mem_replicate hx]
     cases z <;> simp_all [PV.flat,Dat.isCell]
    ·rw [hS] at h; exact Nat.lt_irrefl _ (hi.lt _ _ h)
    ·obtain rfl:=List.eq_of_mem_replicate (List.mem_of_getElem? g2)
     rw [hmade j v g1]
     have h0:zv.cells[0]? = some zv.cells[0]:=Array.getElem?_eq_getElem (by omega)
     have hm:j % zv.cells.size=0:=by rw [hzv]; exact Nat.mod_one _
     have:zv.cells[j % zv.cells.size]! = zv.cells[0]:=by simp only [hm,Array.getElem!_eq_getD,Array.getD_eq_getD_getElem?,h0,Option.getD_some]
     rw [this]
     exact .dat _ _ (z2 0 _ z h0 (by cases z <;> simp_all [Dat.cells,Dat.isCell]))
   ·exact mulB_no h1s) hH hi
  exact ⟨_,g',_,hop,hg⟩

theorem buildSlice_run' {t e:TypeId} {len size:Nat} {parts:Array (Nat × Operand)} {ds:List Dat} (ho:o.op=.buildSlice t len parts) (he:elemOfSlice P t=some e) (hs:szOf P e=some size) (hz:(zeroOf P e).isSome=true)
  (hp:pures H (parts.toList.map fun (_,x)=>ρ x)=some ds) (hl:parts.size=len) (hd:dense 0 parts.toList=true) (hf:ds.all (Dat.fits size)=true) (h0:0 < size) (h24:len * size≤16777216)
  (hnl:parts.toList.any (fun (_,x)=>(ρ x).lends)=false)
  (hH:Qr P g B0 H.length H w) (hi:Inv B0 w0 S0 g w) (hρ:∀ x,RepV g H.length w (a.eval x) (ρ x)) :
  ∃ vals:Array Value,(execOp a.eval o).run P w=.ok (.value (.slice (some ⟨w.heap.size,0,none⟩) len len)) (w.alloc (.cells vals e))∧vals.size=len * size∧ds.length=len ∧
   RowD w g.S size ds vals:=by
 obtain ⟨p1,p2⟩:=pures_some _ _ hp
 have hlen:ds.length=len:=by rw [p1]; simpa using hl
 obtain ⟨z,hz⟩:=Option.isSome_iff_exists.1 hz
 obtain ⟨ie,zv,i1,i2,_⟩:=zeroOf_ok hz
 have hsz:ie.size=size:=by simp only [szOf,i1,Option.map_some,Option.some.injEq] at hs; exact hs
 have hrep:∀ (i:Nat) q d,parts.toList[i]? = some q→ds[i]? = some d→RepD w g.S (a.eval q.2) d:=fun i q d g1 g2=>by
  have hm:q∈parts.toList:=List.mem_of_getElem? g1
  refine pure1_rep (hρ q.2) (p2 i (ρ q.2) d (by simp only [List.getElem?_map,g1,Option.map_some]) g2) ?_
  have:=List.any_eq_false.1 hnl q hm
  simpa using this
 have hex:∀ (i:Nat) q,parts.toList[i]? = some q→∃ d,ds[i]? = some d:=fun i q h=>⟨_,List.getElem?_eq_getElem (by rw [p1]; simpa using (List.getElem?_eq_some_iff.1 h).1)⟩
 have hfit:∀ (i:Nat) d,ds[i]? = some d→d.num=size:=fun i d h=>fits_num (List.all_eq_true.1 hf d (List.mem_of_getElem? h))
 obtain ⟨vals,f1,f2,f3,_⟩:=fill_dense (size:=size) (parts.toList.map fun (i,x)=>(i,a.eval x)) 0 ((Array.range (len * size)).map (zv.cells[· % zv.cells.size]!)) (fun i q h=>by
  simp only [List.getElem?_map,Option.map_eq_some_iff] at h
  obtain ⟨q',h,rfl⟩:=h
  obtain ⟨d,hd'⟩:=hex i q' h
  exact ⟨dense_get _ 0 hd i q' h,by rw [(hrep i q' d h hd').cells.1,← Dat.num_eq,hfit i d hd']⟩) (by simp [hl])
 have hvs:vals.size=len * size:=by rw [f2]; simp
 have hb:(Instr.buildSlice t len (parts.map fun (i,x)=>(i,a.eval x))).run P w=.ok (.slice (some ⟨w.heap.size,0,none⟩) len len) (w.alloc (.cells vals e)):=by
  by_cases hpos:len * size=0
  ·have hl0:len=0:=by
    rcases Nat.mul_eq_zero.1 hpos with h|h
    ·exact h
    ·omega
   subst hl0
   have hps:parts=#[]:=by simpa using hl
   subst hps
   have:vals=#[]:=by simpa using hvs
   subst this
   simp [Instr.buildSlice,run_underlying (Q2 he),run_szOf hs,Instr.fill,newRow,Array.range_zero']
  ·refine run_buildSlice w t e len _ vals ie zv (Q2 he) i1 i2 (by rw [hsz]; omega) (by rw [hsz]; exact hpos) ?_
   rw [hsz]; simpa using f1
 refine ⟨vals,by simp [execOp,ho,hb],hvs,hlen,?_⟩
 intro i j d u v g1 g2 g3
 have hi2:i < ds.length:=(List.getElem?_eq_some_iff.1 g1).1
 obtain ⟨q,hq⟩:∃ q,parts.toList[i]? = some q:=⟨_,List.getElem?_eq_getElem (by rw [p1] at hi2; simpa using hi2)⟩
 have hj:j < size:=by rw [← hfit i d g1,Dat.num_eq]; exact (List.getElem?_eq_some_iff.1 g2).1
 have h3:=f3 i j (q.1,a.eval q.2) (by simp only [List.getElem?_map,hq,Option.map_some]) hj
 simp only [Nat.zero_add] at h3
 obtain ⟨c1,c2⟩:=(hrep i q d hq g1).cells
 have hj':j < (a.eval q.2).cells.size:=by rw [c1,← Dat.num_eq,hfit i d g1]; exact hj
 rw [g3] at h3
 exact c2 j v u h3.symm g2

theorem buildSlice_mul_ok {t e:TypeId} {len size:Nat} {parts:Array (Nat × Operand)} {ds:List Dat} (ho:o.op=.buildSlice t len parts) (he:elemOfSlice P t=some e) (hs:szOf P e=some size) (hz:(zeroOf P e).isSome=true)
  (hp:pures H (parts.toList.map fun (_,x)=>ρ x)=some ds) (hl:parts.size=len) (hd:dense 0 parts.toList=true) (hf:ds.all (Dat.fits size)=true) (h0:0 < size) (h24:len * size≤16777216)
  (hnl:parts.toList.any (fun (_,x)=>(ρ x).lends)=false) (hne:ds.isEmpty=false) (hel:size=1∧ds.all Dat.isCell=true∨1 < size)
  (hH:Qr P g B0 H.length H w) (hi:Inv B0 w0 S0 g w) (hρ:∀ x,RepV g H.length w (a.eval x) (ρ x)) :
  ∃ v g' w',OpRes P o a w v w'∧Good P B0 w0 S0 H g w (.ms H.length 1 0 ds.length ds.length) (H++[.mt e 1 (ds.map .dat)]) v g' w':=by
 obtain ⟨vals,r1,r2,r3,r4⟩:=buildSlice_run' (S0:=S0) (w0:=w0) ho he hs hz hp hl hd hf h0 h24 hnl hH hi hρ
 have hpos:0 < ds.length:=by cases ds with|nil=>simp at hne|cons=>simp
 have hcap:ds.length≤maxLen:=by
  have:len≤len * size:=Nat.le_mul_of_pos_right _ h0
  simp only [maxLen]; omega
 obtain ⟨g',hg⟩:=new_mt (P:=P) (S0:=S0) (w0:=w0) (e:=e) (len:=ds.length) (cap:=ds.length) (cs:=ds.map .dat) vals (Nat.le_refl _) hpos (fun w' hw' e1 g' e2 hS=>by
  rcases hel with ⟨rfl,hc⟩|h1s
  ·have hvz:vals.size=ds.length:=by omega
   refine .inr (.inl ⟨w.heap.size,_,ds.length,_,rfl,hpos,hi.size,hw',⟨1,hs,by decide,by omega⟩,⟨by rw [hvz]; simp,?_⟩,hcap,by omega,fun o h=>?_,fun j v c g1 g2=>?_⟩)
   ·rw [List.all_map,List.all_eq_true]
    intro x hx
    have:=List.all_eq_true.1 hc x hx
    cases x <;> simp_all [PV.flat,Dat.isCell]
   ·rw [hS] at h; exact Nat.lt_irrefl _ (hi.lt _ _ h)
   ·rw [List.getElem?_map,Option.map_eq_some_iff] at g2
    obtain ⟨d,hd,rfl⟩:=g2
    have hdc:=List.all_eq_true.1 hc d (List.mem_of_getElem? hd)
    exact .dat _ _ ((r4 j 0 d d v hd (by cases d <;> simp_all [Dat.cells,Dat.isCell]) (by simpa using g1)).ext e2)
  ·exact .inr (.inr ⟨w.heap.size,_,ds.length,_,size,ds,rfl,hpos,hi.size,hw',hs,h1s,rfl,hf,Nat.le_refl _,hcap,by rw [r2,r3],fun o h=>by rw [hS] at h; exact Nat.lt_irrefl _ (hi.lt _ _ h),fun i j d u v g1 g2 g3=>(r4 i j d u v g1 g2 g3).ext e2⟩)) hH hi
 rw [r3] at hg ⊢
 exact ⟨_,g',_,.inl r1,hg⟩
end
end Go.Pm
