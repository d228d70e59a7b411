/-
 The pure machine: soundness of written lists whose elements have several cells, and of lists that are made to be written.
-/
import Derived.Test.YtjcfpjpdopfefaaGreatPmOps8
namespace Go.Pm
open Go Go.RowKit
set_option linter.unusedVariables false
section
variable {P:Program} {B0 N:Nat} {w0:World} {S0:Nat→Nat→Prop} {g:Gh} {H H':List Blk} {w:World} {p:PV} {o:Oper} {a:Act} {ρ:Operand→PV}

def mtLen (cs:List PV):Nat:=match cs with
 | .dat d::_=>cs.length * d.num
 | _=>cs.length
theorem mtLen_flat {cs:List PV} (h:cs.all PV.flat=true):cs.length≤mtLen cs:=by
 unfold mtLen;split
 ·rename_i d r;simp only [List.all_cons,jE] at h;cases d with
  | agg=>simp [PV.flat] at h
  | raw=>simp [Dat.num]
  | lst=>simp [Dat.num]
 ·exact j7 _
theorem mtLen_fits {size:Nat} {ds:List Dat} (h:ds.all (Dat.fits size)=true):mtLen (ds.map PV.dat)=ds.length * size:=by
 cases ds with
 | nil=>simp [mtLen]
 | cons d ds=>simp only [zS,mtLen]; rw [fits_num (List.all_eq_true.1 h d y7)]; simp

def RowD (w:World) (S:Nat→Nat→Prop) (size:Nat) (ds:List Dat) (cur:Array Value):Prop :=
 ∀ (i j:Nat) d u v,ds[i]? = some d→d.cells[j]? = some u→cur[i * size+j]? = some v→RepD w S v u

theorem cell_lt {size i j n:Nat} {ds:List Dat} {d u:Dat} (hf:ds.all (Dat.fits size)=true) (h1:ds[i]? = some d) (h2:d.cells[j]? = some u) (hn:ds.length≤n):j < size∧i < ds.length∧i * size+j < n * size:=by
 have hj:j < size:=by rw [← fits_num (List.all_eq_true.1 hf d (jF h1)),Dat.num_eq]; exact (List.getElem?_eq_some_iff.1 h2).1
 have hi:i < ds.length:=(List.getElem?_eq_some_iff.1 h1).1
 have:(i+1) * size≤n * size:=Nat.mul_le_mul_right _ y5
 rw [Nat.add_mul] at this;exact ⟨hj,hi,by omega⟩

theorem mt_read {S':Nat→Nat→Prop} {e lo len:Nat} {cs:List PV} {v v0:Value} {ds:List Dat} (hm:MtOK P g N B0 w e cs v0) (hv:v=subOf v0 lo len) (hcut:(cut cs lo len).bind allDat=some ds) (hev:evenD lo ds=true) (hlc:∃ a c,v=.slice a len c∧len≤c)
  (hS:∀ b o,g.S b o→S' b o) (hS':∀ b o,mtBlock v0=some b→o < mtLen cs→S' b o):RepD w S' v (.lst ds):=by
 simp only [jK] at hcut;obtain ⟨cs',hcut,hall⟩:=hcut;obtain ⟨c1,c2,c3⟩:=cut_some hcut;have e1:=allDat_some _ _ hall;subst e1;simp at c1
 have hget:∀ (i:Nat) d,ds[i]? = some d→cs[lo+i]? = some (.dat d):=fun i d hd=>by
  have:=c3 i (by rw [← c1]; exact (List.getElem?_eq_some_iff.1 hd).1);rw [jD,hd] at this;exact this.symm
 rcases hm with ⟨rfl,hn⟩|⟨b,l,cap,cur,rfl,q0,q1,q2,q3,q4,q5,q6,q7,q8⟩|⟨b,l,cap,cur,size,da,rfl,q0,q1,q2,q3,q3',rfl,q4,q4',q5,q6,q7,q8⟩
 ·simp at c2;obtain ⟨rfl,rfl⟩:=c2
  have:ds=[]:=List.eq_nil_of_length_eq_zero c1
  subst this;rcases hn with rfl|⟨a,rfl⟩
  ·rw [hv]; exact .nil
  ·rw [hv]; exact .empty _ _
 ·have hcell:∀ d∈ds,d.isCell=true:=fun d hd=>by
   obtain ⟨i,hi⟩:=List.getElem?_of_mem hd;have:=List.all_eq_true.1 q4.2 _ (jF (hget i d hi));cases d <;> simp_all [PV.flat,Dat.isCell]
  have hone:∀ d∈ds,d.cells=[d]:=fun d hd=>by
   have:=hcell d hd;cases d <;> simp_all [Dat.cells,Dat.isCell]
  have hml:=mtLen_flat q4.2
  have hlc':len≤cap - lo:=by
   obtain ⟨a,c,e1,e2⟩:=hlc;rw [hv] at e1; simp [subOf] at e1; omega
  have hmb:mtBlock (.slice (some ⟨b,0,none⟩) l cap)=some b:=by simp [mtBlock]; omega
  rw [hv,subOf,add_lit,zW];refine .lst b lo len (cap - lo) 1 ds (fun j=>cur.getD (lo+j) undef) c1.symm hlc' (fun d hd=>by rw [Dat.num_eq,hone d hd]; rfl) (fun j hj=>?_) (fun i' j d u hd hu=>?_)
  ·rw [Nat.mul_one] at hj;have hlt:lo+j < cur.size:=by omega
   refine ⟨?_,hS' _ _ hmb y5⟩;rw [cell_of_row w _ _ cur _ (0,0) q2,jH,jA hlt]; rfl
  ·rw [hone d (jF hd)] at hu;have hj:j=0:=by cases j with|zero=>rfl|succ j=>simp at hu
   subst hj;simp at hu; subst hu;have hi':i' < len:=by rw [← c1]; exact (List.getElem?_eq_some_iff.1 hd).1
   have hlt:lo+i' < cur.size:=by omega
   have:=((q8 (lo+i') _ _ (jA hlt) (hget i' d hd)).datInv).mono hS (fun _ _ _=>rfl)
   simpa [jH,jA hlt] using this
 ·have hmb:mtBlock (.slice (some ⟨b,0,none⟩) l cap)=some b:=by simp [mtBlock]; omega
  rw [hv,subOf,add_lit,zW];cases hds:ds with
  | nil =>
   subst hds;obtain rfl:len=0:=by simpa using c1.symm
   exact .empty _ _
  | cons d0 r =>
   have hin:∀ (i:Nat) d,ds[i]? = some d→da[lo+i]? = some d:=fun i d hd=>by
    have:=hget i d hd;rw [jD,j5] at this;obtain ⟨d',h1,h2⟩:=this;cases h2; exact h1
   have hlo:lo=0:=by
    simp only [evenD,zQ,jE,beq_iff_eq] at hev;rcases hev with hev|hev
    ·exfalso
     have h0:=hin 0 d0 (by rw [hds]; rfl);have h1:=fits_num (List.all_eq_true.1 q4 _ (jF h0));have h2:=List.all_eq_true.1 hev d0 (by rw [hds]; simp);cases d0 <;> simp [Dat.num,Dat.isCell] at h1 h2 <;> omega
    ·exact hev.1
   subst hlo
   have hfd:ds.all (Dat.fits size)=true:=by
    rw [j8];intro d hd;obtain ⟨i,hi⟩:=List.getElem?_of_mem hd;exact List.all_eq_true.1 q4 d (jF (hin i d hi))
   rw [← hds];have hle:len≤da.length:=by simpa using c2
   have hll:len * size≤da.length * size:=Nat.mul_le_mul_right _ hle;have hlc:da.length * size≤cap * size:=Nat.mul_le_mul_right _ q4';refine .lst b 0 len (cap - 0) size ds (fun j=>cur.getD (0+j) undef) c1.symm y5 (fun d hd=>fits_num (List.all_eq_true.1 hfd d hd)) (fun j hj=>?_) (fun i' j d u hd hu=>?_)
   ·have hlt:0+j < cur.size:=by omega
    refine ⟨?_,hS' _ _ hmb (by rw [mtLen_fits q4]; omega)⟩;rw [cell_of_row w _ _ cur _ (0,0) q2,jH,jA hlt]; rfl
   ·obtain ⟨k1,k2,k3⟩:=cell_lt hfd hd hu (n:=cap) y5;have hlt:0+(i' * size+j) < cur.size:=by omega
    have h3:=hin i' d hd;rw [zW] at h3;have:=(q8 i' j d u _ h3 hu (jA y5)).mono hS (fun _ _ _=>rfl)
    simpa [jH,jA (show i' * size+j < cur.size by omega)] using this

theorem dat_of_num {p:PV} {n:Nat} (h:p.numOf=some n):∃ d,p=.dat d∧d.num=n:=by
 cases p with
 | dat d=>exact ⟨d,rfl,by simpa [PV.numOf] using h⟩
 | _=>simp [PV.numOf] at h
theorem agg_of_num {d:Dat} {n:Nat} (h:d.num=n) (h1:1 < n):d=.agg d.cells:=by
 cases d with
 | agg cs=>rfl
 | raw=>simp [Dat.num] at h; omega
 | lst=>simp [Dat.num] at h; omega
theorem MtOK.mul {e:TypeId} {cs:List PV} {v0:Value} {i n:Nat} (h:MtOK P g N B0 w e cs v0) (hn:cs[i]?.bind PV.numOf=some n) (h1:1 < n):MulOK P g B0 w e cs v0:=by
 rw [jK] at hn;obtain ⟨p,hp,hn⟩:=hn;obtain ⟨d,rfl,hd⟩:=dat_of_num hn;rcases h with ⟨rfl,_⟩|⟨b,l,cap,cur,rfl,q0,q1,q2,q3,q4,_⟩|h
 ·simp at hp
 ·have:=List.all_eq_true.1 q4.2 _ (jF hp);rw [agg_of_num hd h1] at this;simp [PV.flat] at this
 ·exact h

theorem MtOK.toMul {e size:TypeId} {cs:List PV} {v0:Value} (h:MtOK P g N B0 w e cs v0) (hs:szOf P e=some size) (h1:1 < size) (hnf:cs.all (fun c=>!c.flat)=true) :
  (cs=[]∧(v0=.slice none 0 0∨∃ a,v0=.slice (some a) 0 0))∨MulOK P g B0 w e cs v0:=by
 rcases h with h|⟨b,l,cap,cur,rfl,q0,q1,q2,⟨sz,q3,q3p,q3s⟩,q4,q5,q6,q7,q8⟩|h
 ·exact .inl h
 ·rw [hs] at q3; cases q3;cases cs with
  | nil=>exact .inr ⟨b,l,cap,cur,size,[],rfl,q0,q1,q2,hs,h1,rfl,rfl,zN _,q5,q3s,q7,fun i j d u v a=>by simp at a⟩
  | cons c cs =>
   simp only [List.all_cons,jE] at hnf q4;have h2:=q4.2.1;rw [h2] at hnf;exact absurd hnf.1 y9
 ·exact .inr h

theorem load_mul_ok {t:TypeId} {x:Operand} {te:TypeId} {cs:List PV} {n tt gg j:Nat} {p:PV} (ho:o.op=.load t x) (hx:ρ x=.mp tt gg j) (hb:H[tt]? = some (.mt te gg cs)) (hg:aggT P t=some true) (hn:szOf P t=some n) (h1n:1 < n)
  (hmod:j % n=0) (hnum:cs[j / n]?.bind PV.numOf=some n) (hp:cs[j / n]? = some p) (hH:Ql P g B0 H.length H w) (hi:Inv B0 w0 S0 g w) (hρ:∀ x,RepV g H.length w (a.eval x) (ρ x)) :
  ∃ v g' w',OpRes P o a w v w'∧Good P B0 w0 S0 H g w p H v g' w':=by
 have h:=hρ x;rw [hx] at h;generalize hv:a.eval x=v at h;cases h with
 | mp t' gg' j' v v0 m h1 h2 h3 h4 h5 =>
  obtain ⟨v1,k1,k2⟩:=hH.mt tt _ _ _ hb;rw [h2] at k1;simp only [j9,jI] at k1;obtain ⟨rfl,rfl⟩:=k1;obtain ⟨b,l,cap,e1,rfl⟩:=h4 rfl;obtain ⟨b',l',cap',cur,size,ds,rfl,q0,q1,q2,q3,q3',rfl,q4,q4',q5,q6,q7,q8⟩:=k2.mul hnum h1n;simp only [Value.slice.injEq,j9,Addr.mk.injEq] at e1;obtain ⟨⟨rfl,_,_⟩,_,_⟩:=e1;rw [hp] at hnum;rw [jD,j5] at hp;obtain ⟨d,hd,rfl⟩:=hp;have hdn:d.num=n:=by simpa [PV.numOf] using hnum
  have hds:d.num=size:=fits_num (List.all_eq_true.1 q4 d (jF hd));obtain rfl:n=size:=by omega
  have hjn:j / n * n=j:=by have:=Nat.div_add_mod j n; rw [Nat.mul_comm]; omega
  have hil:j / n < ds.length:=(List.getElem?_eq_some_iff.1 hd).1
  have hlen:j+n≤cur.size:=by
   have:(j / n+1) * n≤cap' * n:=Nat.mul_le_mul_right _ y5
   rw [Nat.add_mul,hjn] at this;omega
  have hget:∀ (q:Nat) u,((cur.toList.drop j).take n)[q]? = some u→q < n∧cur[j+q]? = some u:=fun q u hu=>by
   rw [jR] at hu;split at hu
   ·exact ⟨by assumption,by simpa using hu⟩
   ·cases hu
  have hagg:=agg_of_num hdn h1n;have hdl:d.cells.length=n:=by rw [← Dat.num_eq]; exact hdn
  have hr:=run_loadVar_cells (P:=P) (w:=w) (b:=b') (off:=j) ((cur.toList.drop j).take n) hg hn y6 (fun h=>by cases h) (fun q u hu=>by
   rw [cell_of_row w _ _ cur _ (0,0) q2]; exact (hget q u hu).2)
  refine ⟨_,g,w,.inl (by simp only [execOp,ho,hv]; simp [Instr.loadAt,Instr.sureAddr,hr]; rfl),.same hH hi (.dat _ _ ?_)⟩;rw [hagg];refine .agg _ _ y6 fun q u c g1 g2=>?_
  simp only [List.getElem?_toArray] at g1;obtain ⟨_,hu⟩:=hget q u g1;exact q8 (j / n) q d c u hd g2 (by rw [hjn]; exact hu)

theorem mul_put {tt te gg gg' b l0 l1 cap0 size:Nat} {cs:List PV} {ds':List Dat} {cur new:Array Value} {v:Value} {p:PV} (hb:H[tt]? = some (.mt te gg cs)) (hown:g.own tt=some (.slice (some ⟨b,0,none⟩) l0 cap0,gg))
  (q0:0 < cap0) (q1:B0≤b) (q2:w.heap[b]? = some (.cells cur te (0,0))) (q3:szOf P te=some size) (q3':1 < size) (q5:cap0≤maxLen) (q6:cur.size=cap0 * size) (q7:∀ o,¬ g.S b o)
  (hf:ds'.all (Dat.fits size)=true) (hl:ds'.length≤cap0) (hn:new.size=cur.size) (hrow:RowD w g.S size ds' new) (hg:gg'=gg∧l1=l0∨gg'=gg+1)
  (hH:Ql P g B0 H.length H w) (hi:Inv B0 w0 S0 g w) (hv:RepV (g.give tt (.slice (some ⟨b,0,none⟩) l1 cap0) gg') H.length w v p) :
  Good P B0 w0 S0 H g w p (H.set tt (.mt te gg' (ds'.map .dat))) v (g.give tt (.slice (some ⟨b,0,none⟩) l1 cap0) gg') (w.setRow b new):=by
 have hlt:tt < H.length:=(List.getElem?_eq_some_iff.1 hb).1;have hocc:occ g H tt=some b:=by rw [occ_mt hb,hown]; simp [mtBlock]; omega
 have hheap:(w.setRow b new).heap[b]? = some (.cells new te (0,0)):=setRow_heap w _ _ _ _ _ q2
 have hcell:∀ b' o',g.S b' o'→(w.setRow b new).cell? ⟨b',o',none⟩=w.cell? ⟨b',o',none⟩:=fun b' o' hs=>cell_setRow_other w _ _ _ (fun e=>by
  simp only at e; subst e; exact q7 o' hs)
 have he:Ext H.length g w (g.give tt (.slice (some ⟨b,0,none⟩) l1 cap0) gg') (w.setRow b new):=⟨fun _ _ h=>h,hcell,fun _ _ h=>⟨rfl,h⟩,fun t' _ v n h=>by
   by_cases e':t'=tt
   ·subst e';rw [hown] at h; cases h;refine ⟨_,gg',by simp [Gh.give]; rfl,by omega,fun e=>?_⟩;rcases hg with ⟨_,rfl⟩|hg
    ·rfl
    ·omega
   ·exact ⟨v,n,by simp only [Gh.give]; rw [if_neg e']; exact h,j7 _,fun _=>rfl⟩⟩
 have he1:Ext H.length (g.give tt (.slice (some ⟨b,0,none⟩) l1 cap0) gg') w (g.give tt (.slice (some ⟨b,0,none⟩) l1 cap0) gg') (w.setRow b new):=⟨fun _ _ h=>h,hcell,fun _ _ h=>⟨rfl,h⟩,fun _ _ v n h=>⟨v,n,h,j7 _,fun _=>rfl⟩⟩;have hmine:(g.give tt (.slice (some ⟨b,0,none⟩) l1 cap0) gg').own tt=some (.slice (some ⟨b,0,none⟩) l1 cap0,gg'):=by simp [Gh.give]
 have hbl:mtBlock (.slice (some ⟨b,0,none⟩) l1 cap0)=some b:=by simp [mtBlock]; omega
 refine ⟨he,by simp,hv.ext he1 y7,?_,⟨below_setRow hi.below q1 _,by simp; exact hi.size,hi.old,fun b o' hs=>by simp; exact hi.lt b o' hs⟩,⟨by simp,fun b _ hn=>setRow_other w _ _ _ (fun e=>hn tt (by rw [hocc,e])),fun i b' hi' _=>?_,fun b o h=>.inl h⟩⟩
 ·refine hH.turn he y7 (j7 _) _ hlt (fun i b hik hb'=>setRow_other w _ _ _ (fun e=>hik (hH.sep i tt b hb' (by rw [hocc,e]))))
   (fun _ _ _ _ _ h=>h) (fun t' _ hne=>by simp only [Gh.give]; rw [if_neg hne]) (fun cs' hc=>by cases hc) (fun _ _ h=>by cases h) (fun i b' hik hb' h=>?_) (fun e' n' cs' hc=>?_) (hmt0:=fun e' cs' hc=>?_)
  ·rw [occ_mt (e:=te) (n:=gg') (cs:=ds'.map .dat) (by simp [hlt]),hmine] at h;simp only [zU,hbl,j9] at h;subst h;exact hik (hH.sep i _ _ hb' hocc)
  ·cases hc;exact ⟨_,hmine,.inr (.inr ⟨b,l1,cap0,new,size,ds',rfl,q0,q1,hheap,q3,q3',rfl,hf,hl,q5,by omega,q7,fun i j d u v a1 a2 a3=>(hrow i j d u v a1 a2 a3).ext he⟩)⟩
  ·exfalso
   rcases hg with ⟨rfl,_⟩|rfl
   ·cases hc;obtain ⟨v1,k1,k2⟩:=hH.mt0 _ _ _ hb;rw [hown] at k1;cases k1;simp [mtBlock] at k2; omega
   ·cases hc
 ·rcases occ_set_mt hlt hi' with ⟨hne,h⟩|⟨rfl,h⟩
  ·refine ⟨i,?_⟩;unfold occ at h ⊢;split at h
   ·exact h
   ·simp only [Gh.give] at h; rw [if_neg hne] at h; exact h
   ·simp only [Gh.give] at h; rw [if_neg hne] at h; exact h
   ·exact h
   ·cases h
   ·cases h
  ·refine ⟨i,?_⟩;rw [hmine] at h;simp only [zU,hbl,j9] at h;subst h;exact hocc

theorem store_mul_ok {t:TypeId} {x y:Operand} {te:TypeId} {cs:List PV} {tt gg j n:Nat} {d:Dat} (ho:o.op=.store t x y) (hx:ρ x=.mp tt gg j) (hy:ρ y=.dat d) (hb:H[tt]? = some (.mt te gg cs)) (hn:szOf P t=some n) (h1n:1 < n)
  (hd:d.fits n=true) (hmod:j % n=0) (hnum:cs[j / n]?.bind PV.numOf=some n) (hH:Ql P g B0 H.length H w) (hi:Inv B0 w0 S0 g w) (hρ:∀ x,RepV g H.length w (a.eval x) (ρ x)) :
  ∃ v g' w',OpRes P o a w v w'∧Good P B0 w0 S0 H g w (.tup []) (H.set tt (.mt te gg (cs.set (j / n) (.dat d)))) v g' w':=by
 have h:=hρ x;rw [hx] at h;generalize hv:a.eval x=v at h;cases h with
 | mp t' gg' j' v v0 m h1 h2 h3 h4 h5 =>
  obtain ⟨v1,k1,k2⟩:=hH.mt tt _ _ _ hb;have hown:=h2;rw [h2] at k1;simp only [j9,jI] at k1;obtain ⟨rfl,rfl⟩:=k1;obtain ⟨b,l,cap,e1,rfl⟩:=h4 rfl;obtain ⟨b',l',cap',cur,size,ds,rfl,q0,q1,q2,q3,q3',rfl,q4,q4',q5,q6,q7,q8⟩:=k2.mul hnum h1n;simp only [Value.slice.injEq,j9,Addr.mk.injEq] at e1;obtain ⟨⟨rfl,_,_⟩,_,_⟩:=e1;rw [jK] at hnum;obtain ⟨p0,hp0,hnum⟩:=hnum;rw [jD,j5] at hp0;obtain ⟨d0,hd0,rfl⟩:=hp0;have hds:d0.num=size:=fits_num (List.all_eq_true.1 q4 d0 (jF hd0));have hd0n:d0.num=n:=by simpa [PV.numOf] using hnum
  obtain rfl:n=size:=by omega
  have hjn:j / n * n=j:=by have:=Nat.div_add_mod j n; rw [Nat.mul_comm]; omega
  have hil:j / n < ds.length:=(List.getElem?_eq_some_iff.1 hd0).1
  have hlen:j+n≤cur.size:=by
   have:(j / n+1) * n≤cap' * n:=Nat.mul_le_mul_right _ y5
   rw [Nat.add_mul,hjn] at this;omega
  have hry:RepD w g.S (a.eval y) d:=by have:=hρ y; rw [hy] at this; exact this.datInv
  obtain ⟨y1,y2⟩:=hry.cells;have hdl:d.cells.length=n:=by rw [← Dat.num_eq]; exact fits_num hd
  have hcl:(a.eval y).cells.toList.length=n:=by simp; omega
  have hone:∀ u∈(a.eval y).cells.toList,u.oneCell'=true:=by
   refine one_of_cells (hρ y) ?_;rw [hy];simp only [PV.cells,List.all_map];rw [j8];intro c hc;simp only [Dat.fits,jE] at hd;have:=List.all_eq_true.1 hd.2 c hc;cases c <;> simp_all [PV.cell,Dat.isCell]
  have hst:=run_storeCells_at P b' j te (a.eval y).cells.toList 0 cur w q2 (by rw [hcl]; simpa using hlen) hone;simp only [zV] at hst;generalize hnew:(cur.toList.take j++(a.eval y).cells.toList++cur.toList.drop (j+(a.eval y).cells.toList.length))=new at hst
  have hget:∀ q,new[q]? = if q < j then cur[q]? else if q < j+n then (a.eval y).cells[q - j]? else cur[q]?:=fun q=>by
   rw [← hnew,pasted_get _ _ _ (by rw [hcl]; simpa using hlen),hcl];simp
  have hg:=mul_put (P:=P) (S0:=S0) (w0:=w0) (gg':=m) (l1:=l') (ds':=ds.set (j / n) d) (cur:=cur) (new:=new.toArray) (v:=undef) (p:=.tup []) hb hown q0 q1 q2 q3 q3' q5 q6 q7
   (by
    rw [j8] at q4 ⊢;intro c hc;rcases List.mem_or_eq_of_mem_set hc with hc|rfl
    ·exact q4 c hc
    ·exact hd) (by simpa using q4') (by rw [← hnew]; simp only [List.size_toArray,jV,zT,zZ,Array.length_toList,hcl]; omega)
   (fun i q d' u v' a1 a2 a3=>by
    simp only [List.getElem?_toArray] at a3;rw [hget] at a3;rw [zC] at a1;by_cases hij:j / n=i
    ·subst hij;rw [if_pos rfl,if_pos hil] at a1;cases a1;have hq:q < n:=by rw [← hdl]; exact (List.getElem?_eq_some_iff.1 a2).1
     rw [hjn,if_neg y5,if_pos y5,show j+q - j=q by omega] at a3;exact y2 q _ _ a3 a2
    ·rw [if_neg hij] at a1;obtain ⟨z1,z2,z3⟩:=cell_lt q4 a1 a2 q4'
     have hc:cur[i * n+q]? = some v':=by
      have:i * n+q < j∨j+n≤i * n+q:=by
       rcases Nat.lt_or_gt_of_ne hij with h|h
       ·have:(j / n+1) * n≤i * n:=Nat.mul_le_mul_right _ y5
        rw [Nat.add_mul,hjn] at this;omega
       ·have:(i+1) * n≤(j / n) * n:=Nat.mul_le_mul_right _ y5
        rw [Nat.add_mul,hjn] at this;omega
      rcases this with h|h
      ·rw [if_pos h] at a3; exact a3
      ·rw [if_neg y5,if_neg y5] at a3; exact a3
     exact q8 i q d' u v' a1 a2 hc)
   (.inl ⟨rfl,rfl⟩) hH hi (.tup _ _ rfl (fun j v c h=>by simp at h))
  rw [List.map_set] at hg;refine ⟨undef,_,_,.inr ⟨?_,rfl⟩,hg⟩;have hsz:(a.eval y).cells.size=n:=by simpa using hcl
  simp only [execOp,ho,hv];simp [Instr.storeAt,Instr.sureAddr,storeVar,hsz,run_szOf hn,hst]

theorem mul_new {tt te gg cap size:Nat} {xs es:List Dat} {olds news:List Value} {zs:Array Value} {v0:Value} (hb:H[tt]? = some (.mt te gg (xs.map PV.dat))) (hown:g.own tt=some (v0,gg))
  (q3:szOf P te=some size) (q3':1 < size) (q4:xs.length+es.length≤cap) (q5:cap≤maxLen) (hpos:0 < es.length) (hfx:xs.all (Dat.fits size)=true) (hfe:es.all (Dat.fits size)=true)
  (holen:olds.length=xs.length * size) (hlen:news.length=es.length * size) (hz:zs.size=(cap - (xs.length+es.length)) * size)
  (hore:∀ (i j:Nat) d u,xs[i]? = some d→d.cells[j]? = some u→RepD w g.S (olds.getD (i * size+j) undef) u)
  (hrep:∀ (i j:Nat) d u,es[i]? = some d→d.cells[j]? = some u→RepD w g.S (news.getD (i * size+j) undef) u)
  (hH:Ql P g B0 H.length H w) (hi:Inv B0 w0 S0 g w) (vals:Array Value) (hvals:vals=olds.toArray++news.toArray++zs) :
  ∃ g',Good P B0 w0 S0 H g w (.ms tt (gg+1) 0 (xs.length+es.length) (xs.length+es.length)) (H.set tt (.mt te (gg+1) (xs.map PV.dat++es.map PV.dat))) (.slice (some ⟨w.heap.size,0,none⟩) (xs.length+es.length) cap) g' (w.drew.alloc (.cells vals te)):=by
 have hlt:tt < H.length:=(List.getElem?_eq_some_iff.1 hb).1;have hiD:Inv B0 w0 S0 g w.drew:=⟨hi.below.drew,hi.size,hi.old,hi.lt⟩;have eD:Ext H.length g w g w.drew:=⟨fun _ _ h=>h,fun _ _ _=>rfl,fun _ _ h=>⟨rfl,h⟩,fun _ _ v n h=>⟨v,n,h,j7 _,fun _=>rfl⟩⟩;have hHD:Ql P g B0 H.length H w.drew:=hH.keep eD (j7 _) (j7 _) (fun _ _ _=>rfl) (fun _ _ _ _ h=>h) (fun _ _=>rfl)
 let nv:Value:=.slice (some ⟨w.heap.size,0,none⟩) (xs.length+es.length) cap
 let g2:=g.give tt nv (gg+1)
 let w1:=w.drew.alloc (.cells vals te)
 have k1:Ext H.length g w.drew g w1:=Ext.alloc hiD H.length _;have hi':Inv B0 w0 S0 g w1:=hiD.alloc _;have hheap:w1.heap[w.heap.size]? = some (.cells vals te (0,0)):=heap_alloc_new w.drew _
 have e2:Ext H.length g w1 g2 w1:=⟨fun _ _ h=>h,fun _ _ _=>rfl,fun _ _ h=>⟨rfl,h⟩,fun t' ht' v n' h=>by
  by_cases e':t'=tt
  ·subst e';rw [hown] at h; cases h;exact ⟨nv,gg+1,by simp [g2,Gh.give],by omega,fun e=>by omega⟩
  ·exact ⟨v,n',by simp only [g2,Gh.give]; rw [if_neg e']; exact h,j7 _,fun _=>rfl⟩⟩
 have ee:Ext H.length g w g2 w1:=(eD.trans k1 (j7 _)).trans e2 (j7 _)
 have hvs:vals.size=cap * size:=by
  rw [hvals]; simp only [Array.size_append,List.size_toArray,holen,hlen,hz]; rw [← Nat.add_mul,← Nat.add_mul]; congr 1; omega
 refine ⟨g2,ee,by simp,.ms _ _ _ _ _ _ nv (gg+1) (by simpa using hlt) (by simp [g2,Gh.give]) (j7 _) (fun _=>⟨by simp [nv,subOf,Addr.add],.inr (.inr ⟨_,_,_,rfl⟩)⟩) ⟨_,_,rfl,q4,q4,fun _=>rfl⟩,?_,⟨hi'.below,hi'.size,hi'.old,hi'.lt⟩,Fr.old y7 (fun b hb=>Below.heap_alloc w.drew _ b hb) (fun i b h hb'=>?_)⟩
 case refine_2 =>
  rcases occ_set_mt hlt h with ⟨hne,h⟩|⟨rfl,h⟩
  ·refine ⟨i,?_⟩;unfold occ at h ⊢;split at h
   ·exact h
   ·simp only [g2,Gh.give] at h; rw [if_neg hne] at h; exact h
   ·simp only [g2,Gh.give] at h; rw [if_neg hne] at h; exact h
   ·exact h
   ·cases h
   ·cases h
  ·simp [g2,Gh.give,nv,mtBlock] at h;obtain ⟨_,rfl⟩:=h;exact absurd hb' (jZ _)
 refine hH.turn ee y7 (j7 _) _ hlt (fun i b _ hb=>Below.heap_alloc w.drew _ b (hH.occ_lt hb).2.1) (fun i b _ hb o hs=>hs) (fun t' _ hne=>by simp only [g2,Gh.give]; rw [if_neg hne]) (fun _ h=>by cases h) (fun _ _ h=>by cases h) (fun i b hik hb h=>?_) (fun e' n' cs' hc=>?_)
 ·rw [occ_mt (e:=te) (n:=gg+1) (cs:=xs.map PV.dat++es.map PV.dat) (by simp [hlt])] at h;simp [g2,Gh.give,nv,mtBlock] at h;obtain ⟨_,rfl⟩:=h;exact jZ _ (hH.occ_lt hb).2.1
 ·cases hc;refine ⟨nv,by simp [g2,Gh.give],.inr (.inr ⟨w.heap.size,_,cap,vals,size,xs++es,rfl,by omega,hi.size,hheap,q3,q3',by rw [zJ],by rw [zO,hfx,hfe]; rfl,by simp; omega,q5,hvs,fun o hs=>jZ _ (hi.lt _ _ hs),fun i j d u v a1 a2 a3=>?_⟩)⟩;have hfa:(xs++es).all (Dat.fits size)=true:=by rw [zO,hfx,hfe]; rfl
  obtain ⟨z1,z2,z3⟩:=cell_lt hfa a1 a2 (j7 _)
  have:RepD w g.S v u:=by
   rw [jT] at a1;split at a1
   ·rename_i hix;have hq:i * size+j < olds.length:=by rw [holen]; exact (cell_lt hfx a1 a2 (j7 _)).2.2
    have:=hore i j d u a1 a2;rw [hvals,Array.getElem?_append,if_pos y6,Array.getElem?_append,if_pos (by simpa using hq)] at a3;rw [jB,show olds[i * size+j]? = some v by simpa using a3] at this;exact this
   ·rename_i hix;obtain ⟨q,rfl⟩:∃ q,i=xs.length+q:=⟨i - xs.length,by omega⟩;rw [show xs.length+q - xs.length=q by omega] at a1;have hq:q * size+j < news.length:=by rw [hlen]; exact (cell_lt hfe a1 a2 (j7 _)).2.2
    have hsum:(xs.length+q) * size+j=olds.length+(q * size+j):=by rw [holen,Nat.add_mul]; omega
    have:=hrep q j d u a1 a2;rw [hvals,Array.getElem?_append,if_pos y6,Array.getElem?_append,if_neg y6] at a3
    rw [jB,show news[q * size+j]? = some v by
     rw [hsum] at a3
     simpa using a3] at this
    exact this
  exact this.ext ee

theorem append_mul_ok {e bytes size tt gg lo len cap:Nat} {x s:Operand} {ts:TypeId} (ho:o.op=.call { callee:=.builtin .append,args:=#[s,x],argTypes:=#[ts,ts] })
  (hty:elemOfSlice P ts=some e) (hs:szOf P e=some size) (hb:bytesOf P e=some bytes) (hz:(zeroOf P e).map Dat.num=some size) (h0b:0 < bytes)
  (hsv:ρ s=.ms tt gg lo len cap) (hap:appendMul H e size bytes tt gg lo len (ρ x)=some (p,H'))
  (hH:Ql P g B0 H.length H w) (hi:Inv B0 w0 S0 g w) (hρ:∀ x,RepV g H.length w (a.eval x) (ρ x)) :
  ∃ v g' w',OpRes P o a w v w'∧Good P B0 w0 S0 H g w p H' v g' w':=by
 unfold appendMul at hap;split at hap
 case h_2=>cases hap
 rename_i es te g' cs hxv hm;split at hap
 case isFalse=>cases hap
 rename_i hc;obtain ⟨h1s,he,rfl,rfl,rfl,rfl,hpos,hroom,hnf⟩:=hc;cases hap;simp only [j5] at hz;obtain ⟨z,hz,hzn⟩:=hz;obtain ⟨ie,zv,i1,i2,i3,_⟩:=zeroOf_ok hz;have hsz:ie.size=size:=by simp only [szOf,i1,jN,j9] at hs; exact hs
 have hby:ie.bytes=bytes:=by simp only [bytesOf,i1,jN,j9] at hb; exact hb
 have hzs:zv.cells.size=size:=by rw [(i3 w g.S).cells.1,← Dat.num_eq,hzn]
 obtain ⟨news,src⟩:=src_ok (P:=P) (size:=size) hH (hρ x) hxv he;have hone:=src_one src y5 he;have hnl:=src.len;have hbk:=QH hm;simp only at hbk;have hsrep:=hρ s;rw [hsv] at hsrep;generalize hvs:a.eval s=vs at hsrep
 have hex:∀ v w',(Builtin.append_ #[ts,ts] o.type #[vs,a.eval x]).run P w=.ok v w'→OpRes P o a w v w':=fun v w' hr=>by
  left;simp [execOp,ho,resolve,invoke,builtin,hvs,hr]
 have hlb:cs.length+es.length≤room:=jW (Nat.le_mul_of_pos_right _ h0b) hroom;have hmax:cs.length+es.length≤maxLen:=by simp only [room] at hlb; simp only [maxLen]; omega
 have h63:((cs.length+es.length:Nat):Int)≤9223372036854775807:=by simp only [room] at hlb; omega
 obtain ⟨ad,c,hxa,hnews⟩:∃ ad c,a.eval x=.slice (some ad) es.length c∧∀ (j:Nat) u,news[j]? = some u→w.cell? (ad.add j)=some u:=by
  rcases src.shape with ⟨_,h⟩|⟨ad,c,h,h'⟩
  ·subst h; simp at hpos
  ·exact ⟨ad,c,h,h'⟩
 cases hsrep with
 | ms _ _ _ _ _ v v0 m k1 k2 k3 k4 k5 =>
  obtain ⟨v1,j1,j2⟩:=hH.mt tt _ _ _ hbk;have hown:=k2;rw [k2] at j1;simp only [j9,jI] at j1;obtain ⟨rfl,rfl⟩:=j1;obtain ⟨hv,hbase⟩:=k4 rfl;rcases j2.toMul hs h1s hnf with ⟨rfl,hv0⟩|⟨b,l',cap',cur,size',xs,rfl,q0,q1,q2,q3,q3',rfl,q4,q4',q5,q6,q7,q8⟩
  rotate_left
  ·obtain rfl:size=size':=by rw [hs] at q3; exact jS q3
   simp only [jY] at hroom hlb hmax h63 hv hsv ⊢;have hv':vs=.slice (some ⟨b,0,none⟩) xs.length cap':=by rw [hv]; simp [subOf,Addr.add]
   have hxc:xs.length * size≤cap' * size:=Nat.mul_le_mul_right _ q4';by_cases hcap:xs.length+es.length≤cap'
   ·have hroom':xs.length * ie.size+news.length≤cur.size:=by rw [hnl,q6,hsz,← Nat.add_mul]; exact Nat.mul_le_mul_right _ hcap
    have hr:=run_append_room (P:=P) w ts o.type te ie (Qx hty) i1 b xs.length cap' cur q2 ad es.length c news (by rw [hsz]; exact hnl) hnews hone hcap hroom';rw [hsz] at hr hroom';generalize hnew:(cur.toList.take (xs.length * size)++news++cur.toList.drop (xs.length * size+news.length))=new at hr
    have hget:∀ q,new[q]? = if q < xs.length * size then cur[q]? else if q < xs.length * size+news.length then news[q - xs.length * size]? else cur[q]?:=fun q=>by
     rw [← hnew,pasted_get _ _ _ (by simpa using hroom')];simp
    have hg:=mul_put (P:=P) (S0:=S0) (w0:=w0) (gg':=m+1) (l1:=xs.length+es.length) (ds':=xs++es) (cur:=cur) (new:=new.toArray) (v:=.slice (some ⟨b,0,none⟩) (xs.length+es.length) cap') (p:=.ms tt (m+1) 0 (xs.length+es.length) (xs.length+es.length)) hbk hown q0 q1 q2 hs h1s q5 q6 q7
     (by rw [zO,q4,he]; rfl) (by simpa using hcap) (by rw [← hnew]; simp only [List.size_toArray,jV,zT,zZ,Array.length_toList]; omega)
     (fun i q d u v' a1 a2 a3=>by
      simp only [List.getElem?_toArray] at a3;rw [hget] at a3;rw [jT] at a1;split at a1
      ·obtain ⟨z1,z2,z3⟩:=cell_lt q4 a1 a2 (j7 _);rw [if_pos z3] at a3;exact q8 i q d u v' a1 a2 a3
      ·obtain ⟨r,rfl⟩:∃ r,i=xs.length+r:=⟨i - xs.length,by omega⟩;rw [show xs.length+r - xs.length=r by omega] at a1;obtain ⟨z1,z2,z3⟩:=cell_lt he a1 a2 (j7 _);have hsum:(xs.length+r) * size+q=xs.length * size+(r * size+q):=by rw [Nat.add_mul]; omega
       rw [hsum,if_neg y5,if_pos (by rw [hnl]; omega),show xs.length * size+(r * size+q) - xs.length * size=r * size+q by omega] at a3;have:=src.rep r q d u a1 a2;rw [jB,a3] at this;exact this)
     (.inr rfl) hH hi (.ms _ _ _ _ _ _ (.slice (some ⟨b,0,none⟩) (xs.length+es.length) cap') (m+1) k1 (by simp [Gh.give]) (j7 _) (fun _=>⟨by simp [subOf,Addr.add],.inr (.inr ⟨b,_,_,rfl⟩)⟩) ⟨_,_,rfl,hcap,hcap,fun _=>rfl⟩)
    rw [zJ] at hg;exact ⟨_,_,_,hex _ _ (by rw [hxa,hv']; exact hr),hg⟩
   ·have holds:∀ (j:Nat) v,(cur.toList.take (xs.length * size))[j]? = some v→w.cell? ((⟨b,0,none⟩:Addr).add j)=some v:=fun j v h=>by
     rw [jR] at h;split at h
     ·rw [add_lit,cell_of_row w _ _ cur _ (0,0) q2]; simpa using h
     ·cases h
    have hr:=run_append_grow (P:=P) w ts o.type te ie zv (Qx hty) i1 i2 ⟨b,0,none⟩ xs.length cap' (cur.toList.take (xs.length * size)) (by rw [hsz]; simp; omega) holds ad es.length c news (by rw [hsz]; exact hnl) hnews y5 h63 (growslice_fits y5 (by rw [hby]; exact hroom));have hge:=grownCap_ge w (xs.length+es.length) cap' te;have hcm:=grownCap_le_maxLen w (xs.length+es.length) cap' te hmax
    obtain ⟨g',hg⟩:=mul_new (P:=P) (S0:=S0) (w0:=w0) (olds:=cur.toList.take (xs.length * size)) (zs:=Builtin.zeroCells zv.cells (grownCap w (xs.length+es.length) cap' te - (xs.length+es.length))) (cap:=grownCap w (xs.length+es.length) cap' te) hbk hown hs h1s hge hcm hpos q4 he y6 hnl
     (by simp [size_zeroCells,hzs]) (fun i j d u a1 a2=>by
      obtain ⟨z1,z2,z3⟩:=cell_lt q4 a1 a2 (j7 _);have hc:cur[i * size+j]? = some (cur[i * size+j]'y5):=jA y5;have:=q8 i j d u _ a1 a2 hc;rw [jB,jR,if_pos z3,zF,hc];exact this) src.rep hH hi _ rfl
    exact ⟨_,g',_,hex _ _ (by rw [hxa,hv']; exact hr),hg⟩
  ·simp only [jL,zW] at hroom hlb hmax h63 hv hsv ⊢;rcases hv0 with rfl|⟨a0,rfl⟩
   ·have hr:=run_append_nil (P:=P) w ts o.type te ie zv (Qx hty) i1 i2 ad es.length c news (by rw [hsz]; exact hnl) hnews hpos h63 (by rw [hby]; simp only [room] at hroom; omega);have hge:=grownCap_ge w es.length 0 te;have hcm:=grownCap_le_maxLen w es.length 0 te hmax
    obtain ⟨g',hg⟩:=mul_new (P:=P) (S0:=S0) (w0:=w0) (xs:=[]) (olds:=[]) (zs:=Builtin.zeroCells zv.cells (grownCap w es.length 0 te - es.length)) (cap:=grownCap w es.length 0 te) hbk hown hs h1s (by simpa using hge) hcm hpos rfl he y7 hnl
     (by simp [size_zeroCells,hzs]) (fun i j d u h=>by simp at h) src.rep hH hi (news.toArray++Builtin.zeroCells zv.cells (grownCap w es.length 0 te - es.length)) y7
    simp only [jL,zW,List.map_nil,jQ] at hg ⊢;exact ⟨_,g',_,hex _ _ (by rw [hxa,hv]; exact hr),hg⟩
   ·have hv':vs=.slice (some (a0.add 0)) 0 0:=by rw [hv]; simp [subOf]
    have hr:=run_append_grow (P:=P) w ts o.type te ie zv (Qx hty) i1 i2 (a0.add 0) 0 0 [] y7 (fun j v h=>by simp at h) ad es.length c news (by rw [hsz]; exact hnl) hnews y5 (by simpa using h63) (growslice_fits y5 (by rw [hby]; simpa [room] using hroom));have hge:=grownCap_ge w (0+es.length) 0 te;have hcm:=grownCap_le_maxLen w (0+es.length) 0 te (by simpa using hmax)
    obtain ⟨g',hg⟩:=mul_new (P:=P) (S0:=S0) (w0:=w0) (xs:=[]) (olds:=[]) (zs:=Builtin.zeroCells zv.cells (grownCap w (0+es.length) 0 te - (0+es.length))) (cap:=grownCap w (0+es.length) 0 te) hbk hown hs h1s (by simpa using hge) hcm hpos rfl he y7 hnl
     (by simp [size_zeroCells,hzs]) (fun i j d u h=>by simp at h) src.rep hH hi _ rfl
    simp only [jL,zW,List.map_nil,jQ] at hg hr ⊢;exact ⟨_,g',_,hex _ _ (by rw [hxa,hv']; exact hr),hg⟩

theorem new_mt {e len cap:Nat} {cs:List PV} (vals:Array Value) (hlc:len≤cap) (hpos:0 < cap) (hmt:∀ w',w'.heap[w.heap.size]? = some (.cells vals e (0,0))→Ext H.length g w g w'→∀ g',Ext H.length g w g' w'→g'.S=g.S→MtOK P g' (H.length+1) B0 w' e cs (.slice (some ⟨w.heap.size,0,none⟩) len cap))
  (hH:Ql P g B0 H.length H w) (hi:Inv B0 w0 S0 g w) :
  ∃ g',Good P B0 w0 S0 H g w (.ms H.length 1 0 len cap) (H++[.mt e 1 cs]) (.slice (some ⟨w.heap.size,0,none⟩) len cap) g' (w.alloc (.cells vals e)):=by
 let v0:Value:=.slice (some ⟨w.heap.size,0,none⟩) len cap
 have k1:Ext H.length g w g (w.alloc (.cells vals e)):=Ext.alloc hi H.length _;have hH1:=hH.alloc hi (j7 _) (.cells vals e);have hi1:=hi.alloc (.cells vals e);have e2:Ext H.length g (w.alloc (.cells vals e)) (g.give H.length v0 1) (w.alloc (.cells vals e)):=.giveNew _ _ _ (j7 _);have he:=k1.trans e2 (j7 _);have hmb:mtBlock v0=some w.heap.size:=by simp [v0,mtBlock]; omega
 have hown:(g.give H.length v0 1).own H.length=some (v0,1):=by simp [Gh.give]
 refine ⟨g.give H.length v0 1,he,by simp,.ms _ _ _ _ _ _ v0 1 y7 hown (j7 _) (fun _=>⟨by simp [v0,subOf,Addr.add],.inr (.inr ⟨_,_,_,rfl⟩)⟩) ⟨_,_,rfl,j7 _,hlc,fun _=>rfl⟩,?_,⟨hi1.below,hi1.size,hi1.old,hi1.lt⟩,Fr.old y7 (fun b hb=>Below.heap_alloc w _ b hb) fun i b h hb=>?_⟩
 ·have hk:=hH1.keep e2 (show H.length≤(H++[Blk.mt e 1 cs]).length by simp) (j7 _) (fun _ _ _=>rfl) (fun _ _ _ _ h=>h) (fun t ht=>by simp only [Gh.give]; rw [if_neg y5]);refine hk.snoc _ (fun cs h=>by cases h) (fun e' n h=>by cases h) (fun i b h h2=>?_) (fun e' n cs h=>?_) (hmt0:=fun _ _ h=>by cases h)
  ·rw [occ_mt (e:=e) (n:=1) (cs:=cs) y7,hown] at h2;simp only [zU,hmb,j9] at h2;subst h2;have h3:occ g H i=some w.heap.size:=occ_ghost (g:=g) h (fun _ _=>rfl) (fun j hj=>by simp only [Gh.give]; rw [if_neg y5]);exact jZ _ (hH.occ_lt h3).2.1
  ·cases h;refine ⟨v0,hown,?_⟩;have:=hmt (w.alloc (.cells vals e)) (heap_alloc_new w _) k1 _ he rfl
   simpa using this
 ·rcases occ_snoc_mt h with h|⟨_,h⟩
  ·exact ⟨i,occ_ghost (g:=g) h (fun _ _=>rfl) (fun j hj=>by simp only [Gh.give]; rw [if_neg y5])⟩
  ·rw [hown] at h;simp only [zU,hmb,j9] at h;omega

theorem ownMake_ok {t e size bytes:Nat} {xl xc:Operand} {z:Dat} {c:Int} (ho:o.op=.makeSlice t xl xc) (he:elemOfSlice P t=some e) (hz:zeroOf P e=some z) (hs:szOf P e=some size) (hb:bytesOf P e=some bytes)
  (hl:ρ xl=.dat (.raw (.int .i64 c))) (hc:ρ xc=.dat (.raw (.int .i64 c))) (hm:ownMake H e size bytes z c=some (p,H'))
  (hH:Ql P g B0 H.length H w) (hi:Inv B0 w0 S0 g w) (hρ:∀ x,RepV g H.length w (a.eval x) (ρ x)) :
  ∃ v g' w',OpRes P o a w v w'∧Good P B0 w0 S0 H g w p H' v g' w':=by
 unfold ownMake at hm;split at hm
 case isFalse=>cases hm
 rename_i hcond;obtain ⟨h0,hroom,h63,hbp,hel⟩:=hcond;obtain ⟨ie,zv,i1,i2,i3,_⟩:=zeroOf_ok hz;have hsz:ie.size=size:=by simp only [szOf,i1,jN,j9] at hs; exact hs
 have hby:ie.bytes=bytes:=by simp only [bytesOf,i1,jN,j9] at hb; exact hb
 have vl:=int_rep (by rw [← hl]; exact hρ xl);have vc:=int_rep (by rw [← hc]; exact hρ xc);have hr:=run_make (P:=P) w t e ie zv (Qx he) i1 i2 .i64 .i64 c c h0 (Int.le_refl _) (by rw [hby,Int.mul_comm]; simp only [room] at hroom; omega) h63;have hop:OpRes P o a w (.slice (some ⟨w.heap.size,0,none⟩) c.toNat c.toNat) (w.alloc (.cells (madeCells zv.cells (c.toNat * ie.size)) e)):=.inl (by simp only [execOp,ho,vl,vc,Sem.run_bind]; rw [hr]; rfl);split at hm
 ·rename_i hc0;subst hc0;cases hm;have hH1:=hH.alloc hi (j7 _) (.cells (madeCells zv.cells ((0:Int).toNat * ie.size)) e);have hi1:=hi.alloc (.cells (madeCells zv.cells ((0:Int).toNat * ie.size)) e);obtain ⟨g',hg⟩:=own_mt_at (P:=P) (S0:=S0) (w0:=w0) hH1 hi1 e (some ⟨w.heap.size,0,none⟩);refine ⟨_,g',_,hop,⟨(Ext.alloc hi H.length _).trans hg.ext (j7 _),hg.len,hg.rep,hg.heap,hg.inv,?_⟩⟩;exact (Fr.old y7 (fun b hb=>Below.heap_alloc w _ b hb) (fun i b h _=>⟨i,h⟩)).trans hg.fr
 ·rename_i hc0;cases hm;have hpos:0 < c.toNat:=by omega
  have hcap:c.toNat≤maxLen:=by
   have h1:c.toNat * bytes≤room:=by
    have:((c.toNat * bytes:Nat):Int)≤(room:Int):=by rw [Int.natCast_mul,Int.toNat_of_nonneg h0]; exact hroom
    omega
   have h2:c.toNat≤c.toNat * bytes:=Nat.le_mul_of_pos_right _ hbp;simp only [room] at h1;simp only [maxLen]; omega
  have hmade:∀ (m:Nat) v,(madeCells zv.cells (c.toNat * ie.size))[m]? = some v→v=zv.cells[m % zv.cells.size]!:=fun m v h=>by
   simp only [madeCells,zI,j5] at h;obtain ⟨m',hm',rfl⟩:=h;rw [Array.getElem?_range] at hm';split at hm'
   ·cases hm'; rfl
   ·cases hm'
  obtain ⟨g',hg⟩:=new_mt (P:=P) (S0:=S0) (w0:=w0) (e:=e) (len:=c.toNat) (cap:=c.toNat) (cs:=List.replicate c.toNat (.dat z)) (madeCells zv.cells (c.toNat * ie.size)) (j7 _) hpos (fun w' hw' e1 g' e2 hS=>by
   obtain ⟨z1,z2⟩:=(i3 w' g'.S).cells;rcases hel with ⟨rfl,hzc⟩|⟨h1s,hzf⟩
   ·have hzv:zv.cells.size=1:=by rw [z1]; cases z <;> simp_all [Dat.cells,Dat.isCell]
    have hmz:(madeCells zv.cells (c.toNat * ie.size)).size=c.toNat:=by rw [size_madeCells,hsz]; omega
    refine .inr (.inl ⟨w.heap.size,_,c.toNat,_,rfl,hpos,hi.size,hw',⟨1,hs,by decide,by omega⟩,⟨by rw [hmz]; simp,?_⟩,hcap,by omega,fun o h=>?_,fun j v d g1 g2=>?_⟩)
    ·rw [j8];intro x hx;rw [List.eq_of_mem_replicate hx];cases z <;> simp_all [PV.flat,Dat.isCell]
    ·rw [hS] at h; exact jZ _ (hi.lt _ _ h)
    ·obtain rfl:=List.eq_of_mem_replicate (jF g2);rw [hmade j v g1];have h0:zv.cells[0]? = some zv.cells[0]:=jA y5;have hm:j % zv.cells.size=0:=by rw [hzv]; exact Nat.mod_one _
     have:zv.cells[j % zv.cells.size]! = zv.cells[0]:=by simp only [hm,Array.getElem!_eq_getD,jH,h0,Option.getD_some]
     rw [this];exact .dat _ _ (z2 0 _ z h0 (by cases z <;> simp_all [Dat.cells,Dat.isCell]))
   ·have hzl:z.cells.length=size:=by rw [← Dat.num_eq]; exact fits_num hzf
    have hzv:zv.cells.size=size:=by rw [z1,hzl]
    refine .inr (.inr ⟨w.heap.size,_,c.toNat,_,size,List.replicate c.toNat z,rfl,hpos,hi.size,hw',hs,h1s,by simp,?_,by simp,hcap,by rw [size_madeCells,hsz],fun o h=>?_,fun i j d u v g1 g2 g3=>?_⟩)
    ·rw [j8];intro x hx;rw [List.eq_of_mem_replicate hx]; exact hzf
    ·rw [hS] at h; exact jZ _ (hi.lt _ _ h)
    ·obtain rfl:=List.eq_of_mem_replicate (jF g1);have hj:j < size:=by rw [← hzl]; exact (List.getElem?_eq_some_iff.1 g2).1
     rw [hmade _ v g3];have hm:(i * size+j) % zv.cells.size=j:=by rw [hzv,Nat.mul_comm,Nat.mul_add_mod]; exact Nat.mod_eq_of_lt hj
     have hj':zv.cells[j]? = some (zv.cells[j]'y5):=jA y5
     have:zv.cells[(i * size+j) % zv.cells.size]! = zv.cells[j]'y5:=by simp only [hm,Array.getElem!_eq_getD,jH,hj',Option.getD_some]
     rw [this];exact z2 j _ u hj' g2) hH hi
  exact ⟨_,g',_,hop,hg⟩

theorem buildSlice_run' {t e:TypeId} {len size:Nat} {parts:Array (Nat × Operand)} {ds:List Dat} (ho:o.op=.buildSlice t len parts) (he:elemOfSlice P t=some e) (hs:szOf P e=some size) (hz:(zeroOf P e).isSome=true)
  (hp:pures H (parts.toList.map fun (_,x)=>ρ x)=some ds) (hl:parts.size=len) (hd:dense 0 parts.toList=true) (hf:ds.all (Dat.fits size)=true) (h0:0 < size) (h24:len * size≤16777216)
  (hnl:parts.toList.any (fun (_,x)=>(ρ x).lends)=false)
  (hH:Ql P g B0 H.length H w) (hi:Inv B0 w0 S0 g w) (hρ:∀ x,RepV g H.length w (a.eval x) (ρ x)) :
  ∃ vals:Array Value,(execOp a.eval o).run P w=.ok (.value (.slice (some ⟨w.heap.size,0,none⟩) len len)) (w.alloc (.cells vals e))∧vals.size=len * size∧ds.length=len ∧
   RowD w g.S size ds vals:=by
 obtain ⟨p1,p2⟩:=pures_some _ _ hp;have hlen:ds.length=len:=by rw [p1]; simpa using hl
 obtain ⟨z,hz⟩:=Option.isSome_iff_exists.1 hz;obtain ⟨ie,zv,i1,i2,_⟩:=zeroOf_ok hz;have hsz:ie.size=size:=by simp only [szOf,i1,jN,j9] at hs; exact hs
 have hrep:∀ (i:Nat) q d,parts.toList[i]? = some q→ds[i]? = some d→RepD w g.S (a.eval q.2) d:=fun i q d g1 g2=>by
  have hm:q∈parts.toList:=jF g1;refine pure1_rep (hρ q.2) (p2 i (ρ q.2) d (by simp only [jD,g1,jN]) g2) ?_;have:=List.any_eq_false.1 hnl q hm
  simpa using this
 have hex:∀ (i:Nat) q,parts.toList[i]? = some q→∃ d,ds[i]? = some d:=fun i q h=>⟨_,jC (by rw [p1]; simpa using (List.getElem?_eq_some_iff.1 h).1)⟩
 have hfit:∀ (i:Nat) d,ds[i]? = some d→d.num=size:=fun i d h=>fits_num (List.all_eq_true.1 hf d (jF h))
 obtain ⟨vals,f1,f2,f3,_⟩:=fill_dense (size:=size) (parts.toList.map fun (i,x)=>(i,a.eval x)) 0 ((Array.range (len * size)).map (zv.cells[· % zv.cells.size]!)) (fun i q h=>by
  simp only [jD,j5] at h;obtain ⟨q',h,rfl⟩:=h;obtain ⟨d,hd'⟩:=hex i q' h;exact ⟨dense_get _ 0 hd i q' h,by rw [(hrep i q' d h hd').cells.1,← Dat.num_eq,hfit i d hd']⟩) (by simp [hl])
 have hvs:vals.size=len * size:=by rw [f2]; simp
 have hb:(Instr.buildSlice t len (parts.map fun (i,x)=>(i,a.eval x))).run P w=.ok (.slice (some ⟨w.heap.size,0,none⟩) len len) (w.alloc (.cells vals e)):=by
  by_cases hpos:len * size=0
  ·have hl0:len=0:=by
    rcases Nat.mul_eq_zero.1 hpos with h|h
    ·exact h
    ·omega
   subst hl0;have hps:parts=#[]:=by simpa using hl
   subst hps
   have:vals=#[]:=by simpa using hvs
   subst this;simp [Instr.buildSlice,run_underlying (Qx he),run_szOf hs,Instr.fill,newRow,Array.range_zero']
  ·refine run_buildSlice w t e len _ vals ie zv (Qx he) i1 i2 (by rw [hsz]; omega) (by rw [hsz]; exact hpos) ?_;rw [hsz]; simpa using f1
 refine ⟨vals,by simp [execOp,ho,hb],hvs,hlen,?_⟩;intro i j d u v g1 g2 g3;have hi2:i < ds.length:=(List.getElem?_eq_some_iff.1 g1).1;obtain ⟨q,hq⟩:∃ q,parts.toList[i]? = some q:=⟨_,jC (by rw [p1] at hi2; simpa using hi2)⟩;have hj:j < size:=by rw [← hfit i d g1,Dat.num_eq]; exact (List.getElem?_eq_some_iff.1 g2).1
 have h3:=f3 i j (q.1,a.eval q.2) (by simp only [jD,hq,jN]) hj;simp only [zW] at h3;obtain ⟨c1,c2⟩:=(hrep i q d hq g1).cells;have hj':j < (a.eval q.2).cells.size:=by rw [c1,← Dat.num_eq,hfit i d g1]; exact hj
 rw [g3] at h3;exact c2 j v u h3.symm g2

theorem buildSlice_mul_ok {t e:TypeId} {len size:Nat} {parts:Array (Nat × Operand)} {ds:List Dat} (ho:o.op=.buildSlice t len parts) (he:elemOfSlice P t=some e) (hs:szOf P e=some size) (hz:(zeroOf P e).isSome=true)
  (hp:pures H (parts.toList.map fun (_,x)=>ρ x)=some ds) (hl:parts.size=len) (hd:dense 0 parts.toList=true) (hf:ds.all (Dat.fits size)=true) (h0:0 < size) (h24:len * size≤16777216)
  (hnl:parts.toList.any (fun (_,x)=>(ρ x).lends)=false) (hne:ds.isEmpty=false) (hel:size=1∧ds.all Dat.isCell=true∨1 < size)
  (hH:Ql P g B0 H.length H w) (hi:Inv B0 w0 S0 g w) (hρ:∀ x,RepV g H.length w (a.eval x) (ρ x)) :
  ∃ v g' w',OpRes P o a w v w'∧Good P B0 w0 S0 H g w (.ms H.length 1 0 ds.length ds.length) (H++[.mt e 1 (ds.map .dat)]) v g' w':=by
 obtain ⟨vals,r1,r2,r3,r4⟩:=buildSlice_run' (S0:=S0) (w0:=w0) ho he hs hz hp hl hd hf h0 h24 hnl hH hi hρ;have hpos:0 < ds.length:=by cases ds with|nil=>simp at hne|cons=>simp
 have hcap:ds.length≤maxLen:=by
  have:len≤len * size:=Nat.le_mul_of_pos_right _ h0
  simp only [maxLen]; omega
 obtain ⟨g',hg⟩:=new_mt (P:=P) (S0:=S0) (w0:=w0) (e:=e) (len:=ds.length) (cap:=ds.length) (cs:=ds.map .dat) vals (j7 _) hpos (fun w' hw' e1 g' e2 hS=>by
  rcases hel with ⟨rfl,hc⟩|h1s
  ·have hvz:vals.size=ds.length:=by omega
   refine .inr (.inl ⟨w.heap.size,_,ds.length,_,rfl,hpos,hi.size,hw',⟨1,hs,by decide,by omega⟩,⟨by rw [hvz]; simp,?_⟩,hcap,by omega,fun o h=>?_,fun j v c g1 g2=>?_⟩)
   ·rw [List.all_map,j8];intro x hx;have:=List.all_eq_true.1 hc x hx;cases x <;> simp_all [PV.flat,Dat.isCell]
   ·rw [hS] at h; exact jZ _ (hi.lt _ _ h)
   ·rw [jD,j5] at g2;obtain ⟨d,hd,rfl⟩:=g2;have hdc:=List.all_eq_true.1 hc d (jF hd);exact .dat _ _ ((r4 j 0 d d v hd (by cases d <;> simp_all [Dat.cells,Dat.isCell]) (by simpa using g1)).ext e2)
  ·exact .inr (.inr ⟨w.heap.size,_,ds.length,_,size,ds,rfl,hpos,hi.size,hw',hs,h1s,rfl,hf,j7 _,hcap,by rw [r2,r3],fun o h=>by rw [hS] at h; exact jZ _ (hi.lt _ _ h),fun i j d u v g1 g2 g3=>(r4 i j d u v g1 g2 g3).ext e2⟩)) hH hi
 rw [r3] at hg ⊢;exact ⟨_,g',_,.inl r1,hg⟩
end
end Go.Pm
