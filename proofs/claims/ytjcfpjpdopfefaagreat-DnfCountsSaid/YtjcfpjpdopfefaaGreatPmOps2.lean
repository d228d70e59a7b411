/-
 The pure machine: soundness of the operations that read, move and name.
-/
import Derived.Test.YtjcfpjpdopfefaaGreatPmHeap
namespace Go.Pm
open Go Go.RowKit
set_option linter.unusedVariables false

structure Good (P:Program) (B0:Nat) (w0:World) (S0:Nat→Nat→Prop) (H:List Blk) (g:Gh) (w:World) (p:PV) (H':List Blk) (v:Value) (g':Gh) (w':World):Prop where
 ext:Ext H.length g w g' w'
 len:H.length≤H'.length
 rep:RepV g' H'.length w' v p
 heap:Ql P g' B0 H'.length H' w'
 inv:Inv B0 w0 S0 g' w'
 fr:Fr g H w g' H' w'

section
variable {P:Program} {B0:Nat} {w0:World} {S0:Nat→Nat→Prop} {g:Gh} {H H':List Blk} {w:World} {p:PV} {o:Oper} {a:Act} {ρ:Operand→PV}

theorem Good.same (hH:Ql P g B0 H.length H w) (hi:Inv B0 w0 S0 g w) {v:Value} (hv:RepV g H.length w v p):Good P B0 w0 S0 H g w p H v g w :=
 ⟨Ext.refl _ _ _,j7 _,hv,hH,hi,Fr.refl _ _ _⟩

theorem run_szOf {t:TypeId} {n:Nat} (h:szOf P t=some n) (w:World):(sizeOf t).run P w=.ok n w:=by
 simp only [szOf,j5] at h;obtain ⟨i,h,rfl⟩:=h;simp [sizeOf,typeInfo,h]

theorem run_aggT {t:TypeId} {b:Bool} (h:aggT P t=some b) (w:World):(isAgg t).run P w=.ok b w:=by
 simp only [aggT,j5] at h;obtain ⟨d,h,rfl⟩:=h;simp only [isAgg,Sem.run_bind,run_underlying h,Result.andThen_ok];cases d <;> rfl

theorem Qx {t e:TypeId} (h:elemOfSlice P t=some e):P.underlying t=some (.slice e):=by
 unfold elemOfSlice at h;split at h
 ·cases h; assumption
 ·cases h

theorem fields_under {t:TypeId} {fs:List Field} (h:fieldsOf P t=some fs):P.underlying t=some (.struct fs.toArray):=by
 unfold fieldsOf at h;split at h
 ·cases h; simpa
 ·cases h

theorem boolOf_rep {N:Nat} {v:Value} {p:PV} {b:Bool} (h:RepV g N w v p) (hb:boolOf p=some b):v=.bool b:=by
 unfold boolOf at hb;split at hb
 ·cases hb; exact h.toVal rfl
 ·cases hb

theorem natOf_rep {N:Nat} {v:Value} {p:PV} {n:Nat} (h:RepV g N w v p) (hb:natOf p=some n):∃ k,v=.int k n:=by
 unfold natOf at hb;split at hb
 ·rename_i k i;split at hb
  ·rename_i h0;cases hb;exact ⟨k,by rw [h.toVal rfl]; congr 1; omega⟩
  ·cases hb
 ·cases hb

theorem move_ok (x:Operand) (ho:o.op=.move x∨o.op=.assign x) (hH:Ql P g B0 H.length H w) (hi:Inv B0 w0 S0 g w) (hρ:∀ x,RepV g H.length w (a.eval x) (ρ x)) :
  ∃ v g' w',OpRes P o a w v w'∧Good P B0 w0 S0 H g w (ρ x) H v g' w':=by
 refine ⟨a.eval x,g,w,.inl ?_,.same hH hi (hρ x)⟩;rcases ho with ho|ho <;> simp [execOp,ho]

theorem pick_ok {c x y:Operand} {t:Bool} (ho:o.op=.pick c x y) (ht:boolOf (ρ c)=some t) (hH:Ql P g B0 H.length H w) (hi:Inv B0 w0 S0 g w)
  (hρ:∀ x,RepV g H.length w (a.eval x) (ρ x)):∃ v g' w',OpRes P o a w v w'∧Good P B0 w0 S0 H g w (if t then ρ x else ρ y) H v g' w':=by
 have hc:=boolOf_rep (hρ c) ht;refine ⟨if t then a.eval x else a.eval y,g,w,.inl ?_,.same hH hi ?_⟩
 ·simp [execOp,ho,hc,asBool]
 ·cases t
  ·exact hρ y
  ·exact hρ x

theorem own_nil_ok (hH:Ql P g B0 H.length H w) (hi:Inv B0 w0 S0 g w) (e:TypeId) :
  Good P B0 w0 S0 H g w (.vec H.length []) (H++[.tok e 0]) (.slice none 0 0) (g.give H.length (.slice none 0 0) 0) w:=by
 have he:Ext H.length g w (g.give H.length (.slice none 0 0) 0) w:=.giveNew _ _ _ (j7 _);refine ⟨he,by simp,.vec _ _ _ (.slice none 0 0) 0 y7 .nil (by simp [Gh.give]) (j7 _) y8,?_,⟨hi.below,hi.size,hi.old,hi.lt⟩,Fr.old (j7 _) (fun _ _=>rfl) fun i b h _=>?_⟩
 case refine_2 =>
  rcases occ_snoc h with h|⟨_,⟨cs,h,_⟩|⟨e',n,_,h⟩⟩
  ·exact ⟨i,occ_ghost (g:=g) h (fun _ _=>rfl) (fun j hj=>by simp only [Gh.give]; rw [if_neg y5])⟩
  ·cases h
  ·simp [Gh.give,Value.ownBlock] at h
 refine Ql.snoc (hH.keep he y7 (j7 _) (fun _ _ _=>rfl) (fun _ _ _ _ h=>h) (fun t ht=>by simp [Gh.give]; omega)) _ (fun cs h=>by cases h) (fun e' n h=>?_) (fun i b h h2=>?_)
 ·cases h; exact ⟨.slice none 0 0,by simp [Gh.give],.inl ⟨rfl,rfl⟩⟩
 ·rw [occ_tok (e:=e) (n:=0) y7] at h2;simp [Gh.give,Value.ownBlock] at h2

theorem assign_own_ok {e:TypeId} (ho:o.op=.assign (.const (.slice none 0 0))) (hH:Ql P g B0 H.length H w) (hi:Inv B0 w0 S0 g w) :
  ∃ v g' w',OpRes P o a w v w'∧Good P B0 w0 S0 H g w (.vec H.length []) (H++[.tok e 0]) v g' w' :=
 ⟨_,_,w,.inl (by simp [execOp,ho,Act.eval]),own_nil_ok hH hi e⟩

theorem nilCheck_ok {x:Operand} {p:PV} (ho:o.op=.nilCheck x) (hp:ρ x=p)
  (h:(∃ i off,p=.ptr i off)∨(∃ cs,p=.iptr cs)∨(∃ f cap,p=.fn f cap)∨(∃ f fi cap,p=.dat (.raw (.func (.func f) fi cap))))
  (hH:Ql P g B0 H.length H w) (hi:Inv B0 w0 S0 g w) (hρ:∀ x,RepV g H.length w (a.eval x) (ρ x)) :
  ∃ v g' w',OpRes P o a w v w'∧Good P B0 w0 S0 H g w p H v g' w':=by
 have hx:=hρ x;rw [hp] at hx;refine ⟨a.eval x,g,w,.inl ?_,.same hH hi hx⟩;rcases h with ⟨i,off,rfl⟩|⟨cs,rfl⟩|⟨f,cap,rfl⟩|⟨f,fi,cap,rfl⟩
 ·generalize hv:a.eval x=v at hx;cases hx; simp [execOp,ho,hv]
 ·generalize hv:a.eval x=v at hx;cases hx; simp [execOp,ho,hv]
 ·generalize hv:a.eval x=v at hx;cases hx; simp [execOp,ho,hv]
 ·have:=hx.toVal (u:=.func (.func f) fi cap) rfl;simp [execOp,ho,this]

theorem makeFunc_ok {f:FuncId} {cap:Array Operand} (ho:o.op=.makeFunc (.func f) #[] cap) (hH:Ql P g B0 H.length H w) (hi:Inv B0 w0 S0 g w)
  (hρ:∀ x,RepV g H.length w (a.eval x) (ρ x)):∃ v g' w',OpRes P o a w v w'∧Good P B0 w0 S0 H g w (.fn f (cap.toList.map ρ)) H v g' w':=by
 refine ⟨.func (.func f) #[] (cap.map a.eval),g,w,.inl ?_,.same hH hi (.fn _ _ _ y7 fun j v c h1 h2=>?_)⟩
 ·simp [execOp,ho,Instr.makeFunc]
 ·simp only [zI,j5] at h1;obtain ⟨x,h1,rfl⟩:=h1;simp only [jD,zF,h1,jN,j9] at h2;subst h2; exact hρ x

theorem makeFunc0_ok {f:FuncId} (ho:o.op=.makeFunc (.func f) #[] #[]) (hH:Ql P g B0 H.length H w) (hi:Inv B0 w0 S0 g w) :
  ∃ v g' w',OpRes P o a w v w'∧Good P B0 w0 S0 H g w (.dat (.raw (.func (.func f) #[] #[]))) H v g' w' :=
 ⟨.func (.func f) #[] #[],g,w,.inl (by simp [execOp,ho,Instr.makeFunc]),.same hH hi (.dat _ _ (.raw _ rfl))⟩

theorem RepD_drop {S:Nat→Nat→Prop} {cs:List Dat} (n:Nat) {b off:Nat} {c:Nat→Value}
  (h1:∀ i,i < cs.length→w.cell? ⟨b,off+i,none⟩=some (c i)∧S b (off+i)) (h2:∀ (i:Nat) u,cs[i]? = some u→RepD w S (c i) u) :
  (∀ i,i < (cs.drop n).length→w.cell? ⟨b,off+n+i,none⟩=some (c (n+i))∧S b (off+n+i))∧(∀ (i:Nat) u,(cs.drop n)[i]? = some u→RepD w S (c (n+i)) u) :=
 ⟨fun i hi=>by rw [Nat.add_assoc]; exact h1 (n+i) (by simp at hi; omega),fun i u hu=>h2 _ _ (by simpa using hu)⟩

theorem add_lit (b off n:Nat):(⟨b,off,none⟩:Addr).add n=⟨b,off+n,none⟩:=by
 unfold Addr.add; split
 ·rename_i h; subst h; rfl
 ·rfl

theorem fieldAddr_run {s:TypeId} {x:Operand} {f:Nat} {fs:List Field} {fd:Field} {k b off:Nat} (ho:o.op=.fieldAddr s x f) (hfs:fieldsOf P s=some fs) (hfd:fs[f]? = some fd)
  (hk:szOf P fd.type=some (k+1)) (hx:a.eval x=.pointer (some ⟨b,off,none⟩)):(execOp a.eval o).run P w=.ok (.value (.pointer (some ⟨b,off+fd.offset,none⟩))) w:=by
 have hfd':(fs.toArray)[f]? = some fd:=by simpa using hfd
 simp [execOp,ho,Instr.fieldAt,run_underlying (fields_under hfs),hfd',hx,Instr.sureAddr,fieldPlace,run_szOf hk,add_lit]

theorem fieldAddr_ptr_ok {s:TypeId} {x:Operand} {f:Nat} {fs:List Field} {fd:Field} {k i off:Nat} (ho:o.op=.fieldAddr s x f) (hfs:fieldsOf P s=some fs) (hfd:fs[f]? = some fd)
  (hk:szOf P fd.type=some (k+1)) (hx:ρ x=.ptr i off) (hH:Ql P g B0 H.length H w) (hi:Inv B0 w0 S0 g w) (hρ:∀ x,RepV g H.length w (a.eval x) (ρ x)) :
  ∃ v g' w',OpRes P o a w v w'∧Good P B0 w0 S0 H g w (.ptr i (off+fd.offset)) H v g' w':=by
 have h:=hρ x;rw [hx] at h;generalize hv:a.eval x=v at h;cases h with
 | ptr i o hio=>exact ⟨_,g,w,.inl (fieldAddr_run ho hfs hfd hk hv),.same hH hi (.ptr _ _ hio)⟩

theorem fieldAddr_iptr_ok {s:TypeId} {x:Operand} {f:Nat} {fs:List Field} {fd:Field} {k:Nat} {cs:List Dat} (ho:o.op=.fieldAddr s x f) (hfs:fieldsOf P s=some fs) (hfd:fs[f]? = some fd)
  (hk:szOf P fd.type=some (k+1)) (hx:ρ x=.iptr cs) (hH:Ql P g B0 H.length H w) (hi:Inv B0 w0 S0 g w) (hρ:∀ x,RepV g H.length w (a.eval x) (ρ x)) :
  ∃ v g' w',OpRes P o a w v w'∧Good P B0 w0 S0 H g w (.iptr (cs.drop fd.offset)) H v g' w':=by
 have h:=hρ x;rw [hx] at h;generalize hv:a.eval x=v at h;cases h with
 | iptr b o cs c h1 h2 =>
  obtain ⟨k1,k2⟩:=RepD_drop fd.offset h1 h2;exact ⟨_,g,w,.inl (fieldAddr_run ho hfs hfd hk hv),.same hH hi (.iptr _ _ _ (fun i=>c (fd.offset+i)) k1 k2)⟩

theorem cut_some {α:Type} {cs ds:List α} {off n:Nat} (h:cut cs off n=some ds):ds.length=n∧off+n≤cs.length∧∀ i,i < n→ds[i]? = cs[off+i]?:=by
 unfold cut at h;split at h
 ·cases h;refine ⟨by simp; omega,by assumption,fun i hi=>?_⟩;simp [hi]
 ·cases h

theorem run_loadVar_cells {t:TypeId} {b off n:Nat} {ag:Bool} (us:List Value) (hg:aggT P t=some ag) (hn:szOf P t=some n) (hl:us.length=n) (h1:ag=false→n=1)
  (h:∀ (j:Nat) u,us[j]? = some u→w.cell? ⟨b,off+j,none⟩=some u) :
  (loadVar t ⟨b,off,none⟩).run P w=.ok (if ag then .agg us.toArray else us.headD undef) w:=by
 simp only [loadVar,Sem.run_bind,run_aggT hg,Result.andThen_ok];cases ag
 ·have hn1:=h1 rfl;subst hn1;cases us with
  | nil=>simp at hl
  | cons u us =>
   have:=h 0 u rfl;simp at this;simp [load,Sem.run,this]
 ·subst hl;have:=run_loadCells_list (P:=P) w ⟨b,off,none⟩ us (fun j v hj=>by rw [add_lit]; exact h j v hj);simp [run_szOf hn,this]

theorem load_iptr_ok {t:TypeId} {x:Operand} {cs ds:List Dat} {n:Nat} {ag:Bool} {d:Dat} (ho:o.op=.load t x) (hx:ρ x=.iptr cs) (hg:aggT P t=some ag) (hn:szOf P t=some n)
  (hc:cut cs 0 n=some ds) (hd:ofCellsD ag ds=some d) (hH:Ql P g B0 H.length H w) (hi:Inv B0 w0 S0 g w) (hρ:∀ x,RepV g H.length w (a.eval x) (ρ x)) :
  ∃ v g' w',OpRes P o a w v w'∧Good P B0 w0 S0 H g w (.dat d) H v g' w':=by
 obtain ⟨c1,c2,c3⟩:=cut_some hc;have h:=hρ x;rw [hx] at h;generalize hv:a.eval x=v at h;cases h with
 | iptr b off cs c h1 h2 =>
  have h1':ag=false→n=1:=fun e=>by
   subst e;unfold ofCellsD at hd;simp only [j6,if_false] at hd;split at hd
   ·rw [← c1]; rfl
   ·cases hd
  have hr:=run_loadVar_cells (P:=P) (w:=w) (b:=b) (off:=off) ((List.range n).map c) hg hn y7 h1' (fun j u hu=>by
   simp only [jD,j5] at hu;obtain ⟨j',hj,rfl⟩:=hu;obtain ⟨hj1,hj2⟩:=List.getElem?_eq_some_iff.1 hj;simp at hj1 hj2;subst hj2;exact (h1 j y5).1)
  refine ⟨_,g,w,.inl (by simp only [execOp,ho,hv]; simp [Instr.loadAt,Instr.sureAddr,hr]; rfl),.same hH hi (.dat _ _ ?_)⟩
  have hrep:∀ (j:Nat) u,ds[j]? = some u→RepD w g.S (c j) u:=fun j u hu=>by
   have hj:j < n:=by rw [← c1]; exact (List.getElem?_eq_some_iff.1 hu).1
   rw [c3 j hj] at hu;exact h2 j u (by simpa using hu)
  cases ag
  ·have hn1:=h1' rfl;subst hn1;unfold ofCellsD at hd;simp only [j6,if_false] at hd ⊢;split at hd
   ·rename_i c';cases hd;exact hrep 0 _ rfl
   ·cases hd
  ·simp only [ofCellsD,if_true,j9] at hd;subst hd;refine .agg _ _ (by simp [c1]) fun j v c' g1 g2=>?_
   simp only [List.getElem?_toArray,jD,j5] at g1;obtain ⟨j',hj,rfl⟩:=g1;obtain ⟨hj1,hj2⟩:=List.getElem?_eq_some_iff.1 hj;simp at hj1 hj2;subst hj2;exact hrep j c' g2

theorem allDat_some:∀ (cs:List PV) (ds:List Dat),allDat cs=some ds→cs=ds.map .dat
 | [],ds,h=>by cases h; rfl
 | .dat d::r,ds,h=>by
  simp only [allDat,j5] at h;obtain ⟨ds',h,rfl⟩:=h;rw [allDat_some r ds' h]; rfl
 | .agg _::_,_,h|.tup _::_,_,h|.vec ..::_,_,h|.ptr ..::_,_,h|.iptr _::_,_,h|.arr ..::_,_,h|.fn ..::_,_,h|.undef::_,_,h=>by simp [allDat] at h
theorem chunks_cells {size len:Nat} {ds:List Dat} (hl:ds.length=len * size) {i j:Nat} {d u:Dat} (hd:(chunks size len ds)[i]? = some d) (hu:d.cells[j]? = some u):ds[i * size+j]? = some u∧j < size:=by
 simp only [chunks,jD,j5] at hd;obtain ⟨q,hq,rfl⟩:=hd;obtain ⟨q1,q2⟩:=List.getElem?_eq_some_iff.1 hq;simp at q1 q2;subst q2;have hu':((ds.drop (i * size)).take size)[j]? = some u:=hu;rw [jR] at hu';split at hu'
 ·rename_i hj;rw [zG] at hu';exact ⟨hu',hj⟩
 ·cases hu'
theorem arrDat_some {cs:List PV} {o len cap:Nat} {es:List Dat} (h:arrDat cs o len cap=some es) :
  ∃ k,0 < k∧es.length=len∧(∀ d,d∈es→d.num=k)∧o+len * k≤cs.length∧∀ (i j:Nat) d u,es[i]? = some d→d.cells[j]? = some u→cs[o+(i * k+j)]? = some (.dat u)∧j < k:=by
 unfold arrDat at h;split at h
 ·rename_i hc;obtain ⟨rfl,h0,h2⟩:=hc;generalize hk:cs.length / cap=k at h;have hk2:0 < k:=by rw [← hk]; exact Nat.div_pos y5 h0
  simp only [jK] at h;obtain ⟨ds,⟨cs',hcut,hall⟩,h⟩:=h;split at h
  ·cases h;obtain ⟨c1,c2,c3⟩:=cut_some hcut;have e:=allDat_some _ _ hall;subst e;simp only [jY] at c1;refine ⟨k,hk2,by simp [chunks],fun d hd=>?_,c2,fun i j d u hd hu=>?_⟩
   ·simp only [chunks,List.mem_map,List.mem_range] at hd;obtain ⟨q,hq,rfl⟩:=hd
    have:(q+1) * k≤len * k:=Nat.mul_le_mul_right _ y5
    rw [Nat.add_mul] at this;simp only [Dat.num,zT,zZ,c1]; omega
   ·obtain ⟨a1,a2⟩:=chunks_cells c1 hd hu;have hlt:i * k+j < len * k:=by rw [← c1]; exact (List.getElem?_eq_some_iff.1 a1).1
    have:=c3 _ hlt;rw [jD,a1] at this;exact ⟨this.symm,a2⟩
  ·cases h
 ·simp only [jK] at h;obtain ⟨ds,⟨cs',hcut,hall⟩,h⟩:=h;split at h
  ·rename_i hcell;cases h;obtain ⟨c1,c2,c3⟩:=cut_some hcut;have e:=allDat_some _ _ hall;subst e;simp only [jY] at c1
   have hone:∀ d∈es,d.cells=[d]∧d.num=1:=fun d hd=>by
    have:=List.all_eq_true.1 hcell d hd;cases d <;> simp_all [Dat.cells,Dat.isCell,Dat.num]
   refine ⟨1,by decide,c1,fun d hd=>(hone d hd).2,by omega,fun i j d u hd hu=>?_⟩;rw [(hone d (jF hd)).1] at hu;have hj:j=0:=by cases j with|zero=>rfl|succ j=>simp at hu
   subst hj;simp at hu; subst hu;have hi:i < len:=by rw [← c1]; exact (List.getElem?_eq_some_iff.1 hd).1
   have:=c3 i hi;rw [jD,hd] at this;exact ⟨by rw [Nat.mul_one,zV]; exact this.symm,by decide⟩
  ·cases h

theorem RepV.mkAgg {N:Nat} {vs:Array Value} {cs:List PV} (hl:vs.size=cs.length) (h:∀ (j:Nat) v c,vs[j]? = some v→cs[j]? = some c→RepV g N w v c) :
  RepV g N w (.agg vs) (mkAgg cs):=by
 unfold Pm.mkAgg;split
 ·rename_i ds hds;have:=allDat_some cs ds hds;subst this;refine .dat _ _ (.agg _ _ (by simpa using hl) fun j v c h1 h2=>?_);have:=h j v (.dat c) h1 (by simp [h2]);cases this; assumption
 ·exact .agg _ _ hl h

theorem RepV.ofCells {N n:Nat} {ag:Bool} {us:List Value} {cs:List PV} {p:PV} (hl:us.length=n) (hc:cs.length=n) (h:∀ (j:Nat) v c,us[j]? = some v→cs[j]? = some c→RepV g N w v c)
  (hp:ofCells ag cs=some p):(ag=false→n=1)∧RepV g N w (if ag then .agg us.toArray else us.headD Go.undef) p:=by
 unfold Pm.ofCells at hp;cases ag
 ·simp only [j6,if_false] at hp ⊢;split at hp
  ·rename_i c;cases hp;subst hc;refine ⟨fun _=>rfl,?_⟩;cases us with
   | nil=>simp at hl
   | cons u us=>exact h 0 u _ rfl rfl
  ·cases hp
 ·simp only [if_true,j9] at hp;subst hp;refine ⟨fun e=>(by cases e),?_⟩;exact RepV.mkAgg y6 fun j v c g1 g2=>h j v c (by simpa using g1) g2

theorem load_ptr_ok {t:TypeId} {x:Operand} {cs ds:List PV} {n i off:Nat} {ag:Bool} {p:PV} (ho:o.op=.load t x) (hx:ρ x=.ptr i off) (hb:H[i]? = some (.box cs)) (hg:aggT P t=some ag) (hn:szOf P t=some n)
  (hc:cut cs off n=some ds) (hd:ofCells ag ds=some p) (hH:Ql P g B0 H.length H w) (hi:Inv B0 w0 S0 g w) (hρ:∀ x,RepV g H.length w (a.eval x) (ρ x)) :
  ∃ v g' w',OpRes P o a w v w'∧Good P B0 w0 S0 H g w p H v g' w':=by
 obtain ⟨c1,c2,c3⟩:=cut_some hc;have h:=hρ x;rw [hx] at h;generalize hv:a.eval x=v at h;cases h with
 | ptr i o hio =>
  obtain ⟨_,⟨vals,ty,k1,k2,k3⟩,_⟩:=hH.box i cs hb
  have hget:∀ (j:Nat) u,((vals.toList.drop off).take n)[j]? = some u→j < n∧vals[off+j]? = some u:=fun j u hu=>by
   rw [jR] at hu;split at hu
   ·exact ⟨by assumption,by simpa using hu⟩
   ·cases hu
  obtain ⟨p1,p2⟩:=RepV.ofCells (g:=g) (w:=w) (N:=H.length) (us:=(vals.toList.drop off).take n) (n:=n) y6 c1 (fun j v c g1 g2=>by
   obtain ⟨hj,hv⟩:=hget j v g1;rw [c3 j hj] at g2;exact k3 _ v c hv g2) hd
  have hr:=run_loadVar_cells (P:=P) (w:=w) (b:=g.blk i) (off:=off) ((vals.toList.drop off).take n) hg hn y6 p1 (fun j u hu=>by
   rw [cell_of_row w _ _ vals ty (0,0) k1]; exact (hget j u hu).2)
  exact ⟨_,g,w,.inl (by simp only [execOp,ho,hv]; simp [Instr.loadAt,Instr.sureAddr,hr]),.same hH hi p2⟩

end
end Go.Pm
