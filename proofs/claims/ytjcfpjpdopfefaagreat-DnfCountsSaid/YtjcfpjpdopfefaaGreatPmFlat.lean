/-
 The pure machine: soundness of lists of structures that are written within: their cells stand one by one, and one of them may be a list that is still written.
-/
import Derived.Test.YtjcfpjpdopfefaaGreatPmRun
namespace Go.Pm
open Go Go.RowKit
set_option linter.unusedVariables false
section
variable {P:Program} {B0 N Nb:Nat} {w0:World} {S0:Nat→Nat→Prop} {g:Gh} {H H':List Blk} {w:World} {p:PV} {o:Oper} {a:Act} {ρ:Operand→PV} {pf:FuncId→Bool} {call:CallF} {h:Hint} {F:Fence} {m:Nat}

theorem MtOK.flat {e:TypeId} {cs:List PV} {v0:Value} (h:MtOK P g N B0 w e cs v0) (hf:cs.all PV.flat=true):(cs=[]∧(v0=.slice none 0 0∨∃ a,v0=.slice (some a) 0 0)) ∨
  ∃ b n cap cur,v0=.slice (some ⟨b,0,none⟩) n cap∧0 < cap∧B0≤b∧w.heap[b]? = some (.cells cur e (0,0))∧(∃ size,szOf P e=some size∧0 < size∧cur.size=cap * size)∧(cs.length≤cur.size∧cs.all PV.flat=true)∧cap≤maxLen∧cap≤cur.size∧(∀ o,¬ g.S b o) ∧
   ∀ (j:Nat) v c,cur[j]? = some v→cs[j]? = some c→RepV g N w v c:=by
 rcases h with h|h|h
 ·exact .inl h
 ·exact .inr h
 ·cases cs with
  | nil =>
   obtain ⟨b,n,cap,cur,size,ds,rfl,h0,h1,h2,h3,h3',h4,h4',h4'',h5,h6,h7,h8⟩:=h;exact .inr ⟨b,n,cap,cur,rfl,h0,h1,h2,⟨size,h3,by omega,h6⟩,⟨zN _,rfl⟩,h5,by rw [h6]; exact Nat.le_mul_of_pos_right _ y5,h7,fun j v c _ h=>by simp at h⟩
  | cons c cs =>
   simp only [List.all_cons,jE] at hf;exact absurd (by simp [hf.1]) (h.not_flat 0)

theorem consume1_isCell {c:PV} {d:Dat} (hc:c.flat=true) (h:consume1 H c=some (d,H')):d.isCell=true:=by
 cases c with
 | dat d0 =>
  simp only [consume1,j9,jI] at h;obtain ⟨rfl,_⟩:=h;cases d0 <;> first|rfl|(simp [PV.flat] at hc)
 | vec t es =>
  simp only [consume1,j9,jI] at h;obtain ⟨rfl,_⟩:=h;rfl
 | ms t g lo len cap =>
  simp only [consume1] at h;split at h
  ·rename_i d0 e g' cs hp hm;simp only [j9,jI] at h;obtain ⟨rfl,_⟩:=h;simp only [pureC,hm] at hp;split at hp
   ·rw [jK] at hp;obtain ⟨ds,_,hp⟩:=hp;split at hp
    ·cases hp; rfl
    ·cases hp
   ·cases hp
  ·cases h
 | _=>simp [consume1] at h
theorem consumeL_isCell:∀ (cs:List PV) (H:List Blk) (ds:List Dat) (H':List Blk),cs.all PV.flat=true→consumeL H cs=some (ds,H')→ds.all Dat.isCell=true
 | [],H,ds,H',_,h=>by
  simp only [consumeL,j9,jI] at h;obtain ⟨rfl,_⟩:=h;rfl
 | c::cs,H,ds,H',hc,h=>by
  simp only [List.all_cons,jE] at hc;simp only [consumeL] at h;split at h
  ·rename_i d H1 h1;split at h
   ·rename_i ds' H2 h2;simp only [j9,jI] at h;obtain ⟨rfl,_⟩:=h;simp only [List.all_cons,jE];exact ⟨consume1_isCell hc.1 h1,consumeL_isCell cs H1 ds' H2 hc.2 h2⟩
   ·cases h
  ·cases h
theorem flat_dats {ds:List Dat} (h:ds.all Dat.isCell=true):(ds.map PV.dat).all PV.flat=true:=by
 rw [List.all_map,j8];intro d hd;have:=List.all_eq_true.1 h d hd;cases d <;> first|rfl|(simp [Dat.isCell] at this)

theorem cool_ok {t:Nat} {ds:List Dat} (hc:coolB H t=some (ds,H')) (hH:Ql P g B0 H.length H w) (hi:Inv B0 w0 S0 g w) :
  ∃ g',H'.length=H.length∧Ext H.length g w g' w∧Ql P g' B0 H.length H' w∧Inv B0 w0 S0 g' w∧Fr g H w g' H' w∧∃ e gg cs,mtOf H t=some (e,gg,cs)∧mtOf H' t=some (e,gg,ds.map .dat)∧ds.all Dat.isCell=true:=by
 unfold coolB at hc;split at hc
 case h_2=>cases hc
 rename_i e gg cs hm;split at hc
 ·rename_i hem;cases hc
  have:cs=[]:=by simpa using hem
  subst this;exact ⟨g,rfl,Ext.refl _ _ _,hH,hi,Fr.refl _ _ _,e,gg,[],hm,hm,rfl⟩
 split at hc
 case isFalse=>cases hc
 rename_i hne hfl;split at hc
 case h_2=>cases hc
 rename_i ds' H1 hcl;split at hc
 case h_2=>cases hc
 rename_i e' g' cs' hm1;split at hc
 case isFalse=>cases hc
 rename_i hq;obtain ⟨rfl,rfl⟩:=hq;cases hc;have hb:=QH hm;simp only at hb;obtain ⟨v0,k1,k2⟩:=hH.mt t _ _ _ hb;rcases k2.flat hfl with ⟨hn,_⟩|⟨b,n,cap,cur,rfl,q0,q1,q2,q3,q4,q5,q6,q7,q8⟩
 ·subst hn; simp at hne
 obtain ⟨g1,l1,e1,hH1,hi1,f1,l2,r1⟩:=consume_ok (P:=P) (w0:=w0) (S0:=S0) cs cur.toList g H ds H1 hH hi (fun j v c hv hc=>q8 j v c (by simpa using hv) hc) hcl;have hdc:=consumeL_isCell cs H ds H1 hfl hcl;have hb1:=QH hm1;simp only at hb1;have hlt1:t < H1.length:=(List.getElem?_eq_some_iff.1 hb1).1;have hlt:t < H.length:=by omega
 obtain ⟨v1,j1,j2⟩:=hH1.mt t _ _ _ hb1;obtain ⟨v2,n2,o1,o2,o3⟩:=e1.own t hlt _ _ k1;rw [j1] at o1;simp only [j9,jI] at o1;obtain ⟨rfl,rfl⟩:=o1;obtain rfl:=o3 rfl
 have hno:∀ o,¬ g1.S b o:=by
  rcases j2 with ⟨_,h|⟨x,h⟩⟩|⟨b',_,_,_,h,_,_,_,_,_,_,_,h7,_⟩|⟨b',_,_,_,_,_,h,_,_,_,_,_,_,_,_,_,_,h7,_⟩
  ·cases h
  ·cases h; omega
  ·cases h; exact h7
  ·cases h; exact h7
 have he2:Ext H.length g1 w g1 w:=Ext.refl _ _ _
 have hocc:occ g1 (H1.set t (.mt e' g' (ds.map .dat))) t=occ g1 H1 t:=by
  rw [occ_mt hb1,occ_mt (e:=e') (n:=g') (cs:=ds.map .dat) (by simp [hlt1])]
 refine ⟨g1,by simp [l1],e1,?_,hi1,f1.trans ⟨j7 _,fun _ _ _=>rfl,fun i b hi' _=>?_,fun b o h=>.inl h⟩,e',g',cs,hm,by simp [mtOf,hlt1,Blk.mtOf],hdc⟩
 ·refine hH1.turn he2 (j7 _) y5 _ hlt1 (fun _ _ _ _=>rfl) (fun _ _ _ _ _ h=>h) (fun _ _ _=>rfl) (fun cs' hc=>by cases hc) (fun _ _ h=>by cases h) (fun i b hik hb' h=>?_) (fun e2 n2 cs2 hc=>?_) (hmt0:=fun _ _ hc=>by cases hc; exact hH1.mt0 _ _ _ hb1)
  ·rw [hocc] at h;exact hik (hH1.sep i _ _ hb' h)
  ·cases hc;refine ⟨_,j1,.inr (.inl ⟨b,n,cap,cur,rfl,q0,q1,q2,q3,⟨by rw [jY,l2]; exact q4.1,flat_dats hdc⟩,q5,q6,hno,fun j v c a1 a2=>?_⟩)⟩;rw [jD,j5] at a2;obtain ⟨d,a2,rfl⟩:=a2;exact .dat _ _ (r1 j v d (by simpa using a1) a2)
 ·refine ⟨i,?_⟩;by_cases e3:i=t
  ·subst e3; rw [hocc] at hi'; exact hi'
  ·unfold occ at hi' ⊢
   rwa [List.getElem?_set_ne (fun h=>e3 h.symm)] at hi'

theorem build_nil {t:TypeId} {parts:Array (Nat × Operand)} {z:Dat} {pl:Nat→Option (Nat × Nat)} {cs:List PV} {k:Nat} (ho:o.op=.build t parts) (hz:zeroOf P t=some z) (hpl:places P t=some pl)
  (hf:fillA pl (z.cells.map PV.dat) (parts.toList.map fun (i,x)=>(i,(ρ x).cells))=some cs) (hall:parts.toList.all (fun (_,x)=>(ρ x).cells.all PV.cell)=true)
  (hun:uncovered pl k parts.toList=true) (hk:cs[k]? = some (.dat (.lst []))) (hρ:∀ x,RepV g H.length w (a.eval x) (ρ x)) :
  ∃ vals:Array Value,OpRes P o a w (.agg vals) w∧vals.size=cs.length∧vals[k]? = some (.slice none 0 0)∧∀ (j:Nat) v c,vals[j]? = some v→cs[j]? = some c→RepV g H.length w v c:=by
 obtain ⟨i,zv,h1,h2,h3,h4,_⟩:=zeroOf_ok hz;obtain ⟨z1,z2⟩:=(h3 w g.S).cells;have hpne:∀ i x,(i,x)∈parts.toList→ρ x≠.undef:=fun i x hx=>cell_ne_undef (by have:=List.all_eq_true.1 hall (i,x) hx; exact this)
 obtain ⟨vals,f1,f2,f3,f4,f5⟩:=fill_ok (a:=a) (ρ:=ρ) parts.toList zv.cells _ _ hf (by simpa using z1) (fun j v c g1 g2=>by
  simp only [jD,j5] at g2;obtain ⟨d,hd,rfl⟩:=g2;exact RepV.dat (N:=H.length) _ _ (z2 j v d g1 hd)) hρ hpne
 refine ⟨vals,.inl ?_,f2,?_,f4⟩
 ·have hb:=run_build (P:=P) w t (parts.map fun (i,x)=>(i,a.eval x)) vals (by rw [built_of_places hpl h1 h2]; simpa using f1);simp only [execOp,ho,Sem.run_bind];rw [hb]; rfl
 ·obtain ⟨u1,u2⟩:=f5 k hun;rw [u1];rw [u2] at hk;simp only [jD,j5] at hk;obtain ⟨d,hd,e⟩:=hk;cases e; exact h4 k hd

theorem restart_ok {t h:Nat} {k:Nat} {ty:TypeId} {parts:Array (Nat × Operand)} {z:Dat} {pl:Nat→Option (Nat × Nat)} {cs cs':List PV} {ds:List Dat} {H1:List Blk} {e:TypeId} {gg:Nat} (ho:o.op=.build ty parts) (hz:zeroOf P ty=some z) (hpl:places P ty=some pl)
  (hf:fillA pl (z.cells.map PV.dat) (parts.toList.map fun (i,x)=>(i,(ρ x).cells))=some cs) (hall:parts.toList.all (fun (_,x)=>(ρ x).cells.all PV.cell)=true)
  (hun:uncovered pl k parts.toList=true) (hk:cs[k]? = some (.dat (.lst []))) (hcool:coolB H t=some (ds,H1)) (hm:mtOf H1 h=some (e,gg,cs'))
  (hH:Ql P g B0 H.length H w) (hi:Inv B0 w0 S0 g w) (hρ:∀ x,RepV g H.length w (a.eval x) (ρ x)) :
  Done P B0 w0 S0 H g w o a (mkAgg (cs.set k (.ms h (gg+1) 0 0 0))) (H1.set h (.mt e (gg+1) [])):=by
 obtain ⟨vals,r1,r2,r3,r4⟩:=build_nil ho hz hpl hf hall hun hk hρ;obtain ⟨g1,l1,e1,hH1,hi1,f1,_⟩:=cool_ok hcool hH hi;have hb:=QH hm;simp only at hb;have hlt:h < H1.length:=(List.getElem?_eq_some_iff.1 hb).1;rw [← l1] at hH1;obtain ⟨e2,hH2,hi2,f2⟩:=give_ok hb hH1 hi1;have e12:Ext H.length g w (g1.give0 H1 h gg (mtLen cs')) w:=e1.trans e2 y5;have hkc:k < cs.length:=(List.getElem?_eq_some_iff.1 hk).1;refine ⟨.agg vals,_,w,r1,⟨e12,by simp [l1],?_,by simpa using hH2,hi2,f1.trans f2⟩⟩;refine RepV.mkAgg (by simpa using r2) fun j v c a1 a2=>?_
 rw [zC] at a2;by_cases hj:k=j
 ·subst hj;rw [if_pos rfl,if_pos hkc] at a2;cases a2;rw [r3] at a1;cases a1;exact .ms _ _ _ _ _ _ (.slice none 0 0) (gg+1) (by simpa using hlt) (by simp [Gh.give0]) (j7 _) (fun _=>⟨rfl,.inl rfl⟩) ⟨none,0,rfl,j7 _,j7 _,fun h=>absurd h (jZ _)⟩
 ·rw [if_neg hj] at a2;exact (r4 j v c a1 a2).ext e12 (by simp [l1])

theorem buildOne_ok {t e:TypeId} {size:Nat} {parts:Array (Nat × Operand)} {x:Operand} (ho:o.op=.buildSlice t 1 parts) (hp:parts.toList=[(0,x)]) (he:elemOfSlice P t=some e) (hs:szOf P e=some size) (hz:(zeroOf P e).isSome=true)
  (hl:(ρ x).cells.length=size) (hc:(ρ x).cells.all PV.cell=true) (h0:0 < size) (h24:size≤16777216)
  (hH:Ql P g B0 H.length H w) (hi:Inv B0 w0 S0 g w) (hρ:∀ x,RepV g H.length w (a.eval x) (ρ x)) :
  Done P B0 w0 S0 H g w o a (.arr H.length 0 1 1) (H++[.box (ρ x).cells]):=by
 obtain ⟨z,hz⟩:=Option.isSome_iff_exists.1 hz;obtain ⟨ie,zv,i1,i2,_⟩:=zeroOf_ok hz;have hsz:ie.size=size:=by simp only [szOf,i1,jN,j9] at hs; exact hs
 obtain ⟨c1,c2⟩:=(hρ x).cells (cell_ne_undef hc)
 obtain ⟨vals,f1,f2,f3,_⟩:=fill_dense (size:=size) [(0,a.eval x)] 0 ((Array.range (1 * size)).map (zv.cells[· % zv.cells.size]!)) (fun i q h=>by
  cases i with
  | zero=>simp at h; subst h; exact ⟨rfl,by rw [c1,hl]⟩
  | succ i=>simp at h) y7
 have hvs:vals.size=size:=by rw [f2]; simp
 have hb:(Instr.buildSlice t 1 (parts.map fun (i,x)=>(i,a.eval x))).run P w=.ok (.slice (some ⟨w.heap.size,0,none⟩) 1 1) (w.alloc (.cells vals e)):=by
  refine run_buildSlice w t e 1 _ vals ie zv (Qx he) i1 i2 (by rw [hsz]; omega) (by rw [hsz]; omega) ?_;rw [hsz]; simpa [hp] using f1
 have nb:=new_box (P:=P) (S0:=S0) (w0:=w0) hH hi vals e (ρ x).cells (by rw [hvs,hl]) (fun j v d g1 g2=>by
  have hj:j < size:=by rw [← hl]; exact (List.getElem?_eq_some_iff.1 g2).1
  have h3:=f3 0 j (0,a.eval x) rfl hj;simp only [zV,Nat.zero_mul,zW] at h3;rw [g1] at h3;exact c2 j v d h3.symm g2)
 refine ⟨.slice (some ⟨w.heap.size,0,none⟩) 1 1,g.box H.length w.heap.size,w.alloc (.cells vals e),.inl (by simp [execOp,ho,hb]),nb.ext,nb.len,?_,nb.heap,nb.inv,nb.fr⟩;have:=RepV.arr (g:=g.box H.length w.heap.size) (N:=(H++[Blk.box (ρ x).cells]).length) (w:=w.alloc (.cells vals e)) H.length 0 1 1 ⟨by simp,.inl rfl⟩ (j7 _)
 rwa [show (g.box H.length w.heap.size).blk H.length=w.heap.size by simp [Gh.box]] at this

theorem appendFlat_ok {e bytes size tt gg len cap i:Nat} {x s:Operand} {ts:TypeId} {cs pcs:List PV} (ho:o.op=.call { callee:=.builtin .append,args:=#[s,x],argTypes:=#[ts,ts] })
  (hty:elemOfSlice P ts=some e) (hs:szOf P e=some size) (hb:bytesOf P e=some bytes) (hz:(zeroOf P e).map Dat.num=some size) (h0b:0 < bytes) (h0:0 < size)
  (hsv:ρ s=.ms tt gg 0 len cap) (hxv:ρ x=.arr i 0 1 1) (hm:mtOf H tt=some (e,gg,cs)) (hbx:H[i]? = some (.box pcs)) (hcl:cs.length=len * size) (hcf:cs.all PV.flat=true)
  (hpl:pcs.length=size) (hpc:pcs.all PV.cell=true) (hroom:(len+1) * bytes≤room)
  (hH:Ql P g B0 H.length H w) (hi:Inv B0 w0 S0 g w) (hρ:∀ x,RepV g H.length w (a.eval x) (ρ x)) :
  Done P B0 w0 S0 H g w o a (.ms tt (gg+1) 0 (len+1) (len+1)) (H.set tt (.mt e (gg+1) (cs++pcs))):=by
 simp only [j5] at hz;obtain ⟨z,hz,hzn⟩:=hz;obtain ⟨ie,zv,i1,i2,i3,_⟩:=zeroOf_ok hz;have hsz:ie.size=size:=by simp only [szOf,i1,jN,j9] at hs; exact hs
 have hby:ie.bytes=bytes:=by simp only [bytesOf,i1,jN,j9] at hb; exact hb
 have hflat:=flat_of_cells hpc;obtain ⟨x1,⟨vals,ty,x2,x3,x4⟩,x5⟩:=hH.box i pcs hbx;have hxr:=hρ x;rw [hxv] at hxr
 have hxa:a.eval x=.slice (some ⟨g.blk i,0,none⟩) 1 1:=by
  generalize a.eval x=u at hxr;cases hxr; rfl
 have hnews:∀ (j:Nat) u,vals.toList[j]? = some u→w.cell? ((⟨g.blk i,0,none⟩:Addr).add j)=some u:=fun j u hu=>by
  rw [add_lit,zW,cell_of_row w _ _ vals _ (0,0) x2]; simpa using hu
 have hnl:vals.toList.length=1 * ie.size:=by simp [hsz,x3,hpl]
 have hrep:∀ (j:Nat) u c,vals.toList[j]? = some u→pcs[j]? = some c→RepV g H.length w u c:=fun j u c h1 h2=>x4 j u c (by simpa using h1) h2
 have hone:∀ u∈vals.toList,u.oneCell'=true:=fun u hu=>by
  obtain ⟨j,hj⟩:=List.getElem?_of_mem hu;have hl:j < pcs.length:=by rw [← x3]; simpa using (List.getElem?_eq_some_iff.1 hj).1
  exact one_of_cell (hrep j u _ hj (jC hl)) (List.all_eq_true.1 hpc _ (z8 hl))
 have hnl':vals.toList.length=pcs.length:=by simp [x3]
 have hsrep:=hρ s;rw [hsv] at hsrep;generalize hvs:a.eval s=vs at hsrep
 have hex:∀ v w',(Builtin.append_ #[ts,ts] o.type #[vs,a.eval x]).run P w=.ok v w'→OpRes P o a w v w':=fun v w' hr=>by
  left;simp [execOp,ho,resolve,invoke,builtin,hvs,hr]
 have hbk:=QH hm;simp only at hbk;have hL:(len+1) * size=cs.length+pcs.length:=by rw [hcl,hpl,Nat.add_mul,Nat.one_mul]
 have hlb:len+1≤room:=jW (Nat.le_mul_of_pos_right _ h0b) hroom;have hmax:len+1≤maxLen:=by simp only [room] at hlb; simp only [maxLen]; omega
 have h63:((len+1:Nat):Int)≤9223372036854775807:=by simp only [room] at hlb; omega
 have hzs:∀ n,(Builtin.zeroCells zv.cells n).size=n * size:=fun n=>by
  have:=size_zeroCells zv.cells n
  have hzz:zv.cells.size=size:=by
   obtain ⟨y1,_⟩:=(i3 w g.S).cells;rw [y1,← Dat.num_eq,hzn]
  rw [this,hzz]
 cases hsrep with
 | ms _ _ _ _ _ v v0 mm k1 k2 k3 k4 k5 =>
  obtain ⟨v1,j1,j2⟩:=hH.mt tt _ _ _ hbk;have hown:=k2;rw [k2] at j1;simp only [j9,jI] at j1;obtain ⟨rfl,rfl⟩:=j1;obtain ⟨hv,hbase⟩:=k4 rfl;rcases j2.flat hcf with ⟨hnil,hv0⟩|⟨b,l',cap',cur,rfl,q0,q1,q2,⟨sz,q3,q3p,q6⟩,q4,q5,q6',q7,q8⟩
  ·subst hnil
   obtain rfl:len=0:=by
    cases len with
    | zero=>rfl
    | succ n=>simp only [jL,Nat.add_mul,Nat.one_mul] at hcl; omega
   rcases hv0 with rfl|⟨a0,rfl⟩
   ·have hr:=run_append_nil (P:=P) w ts o.type e ie zv (Qx hty) i1 i2 ⟨g.blk i,0,none⟩ 1 1 vals.toList hnl hnews y9 y9 (by rw [hby]; simp only [room] at hroom; omega);have hge:=grownCap_ge w 1 0 e;have hcm:=grownCap_le_maxLen w 1 0 e (by simpa using hmax)
    obtain ⟨g',hg⟩:=mt_newG (P:=P) (S0:=S0) (w0:=w0) (L:=1) (size:=size) (olds:=[]) (zs:=Builtin.zeroCells zv.cells (grownCap w 1 0 e - 1)) (cap:=grownCap w 1 0 e) hbk hown hs h0 (by simpa using hL) hge rfl hflat hcm y5 rfl hnl'
     (by rw [hzs,Nat.sub_mul]; simp [hpl]) (fun j u c h=>by simp at h) hrep hH hi (vals.toList.toArray++Builtin.zeroCells zv.cells (grownCap w 1 0 e - 1)) y7
    exact ⟨_,g',_,hex _ _ (by rw [hxa,hv]; exact hr),by simpa using hg⟩
   ·have hv':vs=.slice (some (a0.add 0)) 0 0:=by rw [hv]; simp [subOf]
    have hr:=run_append_grow (P:=P) w ts o.type e ie zv (Qx hty) i1 i2 (a0.add 0) 0 0 [] y7 (fun j v h=>by simp at h) ⟨g.blk i,0,none⟩ 1 1 vals.toList hnl hnews y5 y9 (growslice_fits y5 (by rw [hby]; simpa [room] using hroom));have hge:=grownCap_ge w (0+1) 0 e;have hcm:=grownCap_le_maxLen w (0+1) 0 e (by simpa using hmax)
    obtain ⟨g',hg⟩:=mt_newG (P:=P) (S0:=S0) (w0:=w0) (L:=0+1) (size:=size) (olds:=[]) (zs:=Builtin.zeroCells zv.cells (grownCap w (0+1) 0 e - (0+1))) (cap:=grownCap w (0+1) 0 e) hbk hown hs h0 (by simpa using hL) hge rfl hflat hcm y5 rfl hnl'
     (by rw [hzs,Nat.sub_mul]; simp [hpl]) (fun j u c h=>by simp at h) hrep hH hi _ rfl
    exact ⟨_,g',_,hex _ _ (by rw [hxa,hv']; exact hr),hg⟩
  ·rw [hs] at q3;cases q3;have hv':vs=.slice (some ⟨b,0,none⟩) len cap':=by rw [hv]; simp [subOf,Addr.add]
   by_cases hcap:len+1≤cap'
   ·have hLc:(len+1) * size≤cap' * size:=Nat.mul_le_mul_right _ hcap;have hr:=run_append_room (P:=P) w ts o.type e ie (Qx hty) i1 b len cap' cur q2 ⟨g.blk i,0,none⟩ 1 1 vals.toList hnl hnews hone hcap (by rw [hsz,hnl']; omega);rw [hsz,← hcl] at hr;obtain ⟨g',hg⟩:=mt_growG (P:=P) (S0:=S0) (w0:=w0) (L:=len+1) hbk hown rfl q0 q1 q2 hs h0 hL hcf q5 q6 q7 q8 hnl' hflat hcap hrep hH hi;exact ⟨_,g',_,hex _ _ (by rw [hxa,hv']; exact hr),hg⟩
   ·have holds:∀ (j:Nat) v,(cur.toList.take cs.length)[j]? = some v→w.cell? ((⟨b,0,none⟩:Addr).add j)=some v:=fun j v h=>by
     rw [jR] at h;split at h
     ·rw [add_lit,zW,cell_of_row w _ _ cur _ (0,0) q2]; simpa using h
     ·cases h
    have hr:=run_append_grow (P:=P) w ts o.type e ie zv (Qx hty) i1 i2 ⟨b,0,none⟩ len cap' (cur.toList.take cs.length) (by rw [hsz]; simp; omega) holds ⟨g.blk i,0,none⟩ 1 1 vals.toList hnl hnews y5 h63 (growslice_fits y5 (by rw [hby]; simpa [room] using hroom));have hge:=grownCap_ge w (len+1) cap' e;have hcm:=grownCap_le_maxLen w (len+1) cap' e hmax
    obtain ⟨g',hg⟩:=mt_newG (P:=P) (S0:=S0) (w0:=w0) (L:=len+1) (size:=size) (olds:=cur.toList.take cs.length) (zs:=Builtin.zeroCells zv.cells (grownCap w (len+1) cap' e - (len+1))) (cap:=grownCap w (len+1) cap' e) hbk hown hs h0 hL hge hcf hflat hcm y5 y6 hnl'
     (by rw [hzs,Nat.sub_mul,hL]) (fun j u c g1 g2=>by
      rw [jR] at g1;split at g1
      ·exact q8 j u c (by simpa using g1) g2
      ·cases g1) hrep hH hi _ rfl
    exact ⟨_,g',_,hex _ _ (by rw [hxa,hv']; exact hr),hg⟩

theorem chunks_len (size len:Nat) (ds:List Dat):(chunks size len ds).length=len:=by simp [chunks]
theorem chunks_get {size len i:Nat} {ds:List Dat} {d:Dat} (h:(chunks size len ds)[i]? = some d):i < len∧d=.agg ((ds.drop (i * size)).take size):=by
 simp only [chunks,jD,j5] at h;obtain ⟨j,hj,rfl⟩:=h;obtain ⟨h1,h2⟩:=List.getElem?_eq_some_iff.1 hj;simp at h1 h2;exact ⟨h1,by rw [← h2]⟩

theorem takeFlat_ok {t gg len cap size:Nat} {x:Operand} {e:TypeId} {ds:List Dat} {cs':List PV} {H1:List Blk} (ho:o.op=.move x) (hx:ρ x=.ms t gg 0 len cap) (hcool:coolB H t=some (ds,H1)) (hm:mtOf H1 t=some (e,gg,cs'))
  (hs:szOf P e=some size) (h1:1 < size) (hl:ds.length=len * size) (hH:Ql P g B0 H.length H w) (hi:Inv B0 w0 S0 g w) (hρ:∀ x,RepV g H.length w (a.eval x) (ρ x)) :
  Done P B0 w0 S0 H g w o a (.dat (.lst (chunks size len ds))) (H1.set t (.mt e (gg+1) [])):=by
 obtain ⟨g1,l1,e1,hH1,hi1,f1,e',gg',cs,q1,q2,q3⟩:=cool_ok hcool hH hi;rw [hm] at q2;simp only [j9,jI] at q2;obtain ⟨rfl,rfl,rfl⟩:=q2;have hb:=QH hm;simp only at hb;have hr:=hρ x;rw [hx] at hr;have hr1:=hr.ext e1 (j7 _);rw [← l1] at hH1 hr1;obtain ⟨e2,hH2,hi2,f2⟩:=give_ok hb hH1 hi1;refine ⟨a.eval x,_,w,.inl (by simp [execOp,ho]),⟨e1.trans e2 y5,by simp [l1],.dat _ _ ?_,by simpa using hH2,hi2,f1.trans f2⟩⟩;generalize a.eval x=v at hr1;cases hr1 with
 | ms _ _ _ _ _ v v0 mm k1 k2 k3 k4 k5 =>
  obtain ⟨v1,j1,j2⟩:=hH1.mt t _ _ _ hb;have hown:=k2;rw [k2] at j1;simp only [j9,jI] at j1;obtain ⟨rfl,rfl⟩:=j1;obtain ⟨hv,hbase⟩:=k4 rfl;rcases j2.flat (flat_dats q3) with ⟨hnil,hv0⟩|⟨b,l',cap',cur,rfl,q0,q1,q2,⟨sz,r3,r3p,q6⟩,q4,q5,q6',q7,q8⟩
  ·have hd:ds=[]:=by simpa using hnil
   subst hd
   obtain rfl:len=0:=by
    cases len with
    | zero=>rfl
    | succ n=>simp only [jL,Nat.add_mul,Nat.one_mul] at hl; omega
   rcases hv0 with rfl|⟨a0,rfl⟩
   ·rw [hv]; exact .nil
   ·rw [hv]; exact .empty _ _
  ·rw [hs] at r3;cases r3;obtain ⟨a9,c9,e9,_,e10,_⟩:=k5;have hv':v=.slice (some ⟨b,0,none⟩) len cap':=by rw [hv]; simp [subOf,Addr.add]
   rw [hv'] at e9; cases e9;have hml:=mtLen_flat (flat_dats q3);rw [jY] at hml;have hcl:len * size≤cur.size:=by have:=q4.1; rw [jY] at this; omega
   rw [hv'];refine .lst b 0 len cap' size (chunks size len ds) (fun j=>cur.getD j undef) (chunks_len _ _ _).symm e10 (fun d hd=>?_) (fun j hj=>?_) (fun i' j d u hd hu=>?_)
   ·obtain ⟨i,hi'⟩:=List.getElem?_of_mem hd;obtain ⟨z1,rfl⟩:=chunks_get hi'
    have:(i+1) * size≤len * size:=Nat.mul_le_mul_right _ z1
    rw [Nat.add_mul,Nat.one_mul] at this;simp [Dat.num]; omega
   ·have hlt:j < cur.size:=by omega
    refine ⟨?_,.inr ⟨?_,by omega⟩⟩
    ·rw [zW,cell_of_row w _ _ cur _ (0,0) q2,jH,jA hlt]; rfl
    ·rw [occ_mt hb,hown]; simp [mtBlock]; omega
   ·obtain ⟨z1,rfl⟩:=chunks_get hd;simp only [Dat.cells] at hu;rw [jR] at hu;split at hu
    ·rename_i hj;rw [zG] at hu;have hlt:i' * size+j < ds.length:=(List.getElem?_eq_some_iff.1 hu).1;have hltc:i' * size+j < cur.size:=by omega
     have:=((q8 (i' * size+j) _ _ (jA hltc) (by rw [jD,hu]; rfl)).datInv).ext e2
     simpa [jH,jA hltc] using this
    ·cases hu

theorem fieldAddr_mp_ok {s:TypeId} {x:Operand} {f:Nat} {fs:List Field} {fd:Field} {k t gg j:Nat} {e:TypeId} {cs:List PV} (ho:o.op=.fieldAddr s x f) (hfs:fieldsOf P s=some fs) (hfd:fs[f]? = some fd)
  (hk:szOf P fd.type=some (k+1)) (hx:ρ x=.mp t gg j) (hm:mtOf H t=some (e,gg,cs)) (hH:Ql P g B0 H.length H w) (hi:Inv B0 w0 S0 g w) (hρ:∀ x,RepV g H.length w (a.eval x) (ρ x)) :
  Done P B0 w0 S0 H g w o a (.mp t gg (j+fd.offset)) H:=by
 have h:=hρ x;rw [hx] at h;generalize hv:a.eval x=v at h;cases h with
 | mp _ _ _ v v0 n h1 h2 h3 h4 h5 =>
  obtain ⟨v1,k1,_⟩:=hH.mt t _ _ _ (QH hm);rw [h2] at k1;simp only [j9,jI] at k1;obtain ⟨rfl,rfl⟩:=k1;obtain ⟨b',l,cap,e1,rfl⟩:=h4 rfl;exact ⟨_,g,w,.inl (fieldAddr_run ho hfs hfd hk hv),.same hH hi (.mp _ _ _ _ v0 _ h1 h2 h3 (fun _=>⟨b',l,cap,e1,rfl⟩) ⟨_,rfl⟩)⟩

theorem flat_done {l:List Nat} (hH:Ql P g B0 H.length H w) (hi:Inv B0 w0 S0 g w) (hρ:∀ x,RepV g H.length w (a.eval x) (ρ x)) (hs:flatSem P l o ρ H=some (p,H')):Done P B0 w0 S0 H g w o a p H':=by
 unfold flatSem at hs;split at hs
 ·rename_i s x f ho;split at hs
  ·rename_i fs hfs;split at hs
   ·rename_i fd hfd;split at hs
    ·rename_i k t gg j hk hx;split at hs
     ·rename_i e g' cs hm;split at hs
      ·rename_i e1;subst e1;cases hs;exact fieldAddr_mp_ok ho hfs hfd hk hx hm hH hi hρ
      ·cases hs
     ·cases hs
    ·cases hs
   ·cases hs
  ·cases hs
 ·rename_i t hh k ty parts ho;split at hs
  ·rename_i cs ds H1 hb hcool;split at hs
   ·rename_i e gg cs' hm;cases hs;unfold buildCs at hb;split at hb
    ·rename_i z pl hz hpl;split at hb
     ·rename_i cs1 hf;split at hb
      ·rename_i hc;split at hb
       ·rename_i hk;cases hb;exact restart_ok ho hz hpl hf hc.1 hc.2 hk hcool hm hH hi hρ
       ·cases hb
      ·cases hb
     ·cases hb
    ·cases hb
   ·cases hs
  ·cases hs
 ·rename_i ty len parts ho;split at hs
  ·rename_i e x he hp;split at hs
   ·rename_i size hsz;split at hs
    ·rename_i hc;obtain ⟨rfl,c1,c2,c3,c4,c5⟩:=hc;cases hs;exact buildOne_ok ho hp he hsz c1 c2 c3 c4 c5 hH hi hρ
    ·cases hs
   ·cases hs
  ·cases hs
 ·rename_i c ho;obtain ⟨callee,args,ts⟩:=c;simp only at hs;split at hs
  ·rename_i t t' tt gg lo len cap i h2 h3;split at hs
   ·rename_i e e' g' cs pcs he hm hbx;split at hs
    ·rename_i size bytes hsz hby;split at hs
     ·rename_i hc;obtain ⟨⟨rfl,c1,c2⟩,⟨c3,rfl,rfl,rfl⟩,⟨c4,c5⟩,⟨c6,c7⟩,c8⟩:=hc;cases hs;obtain ⟨s',x',rfl,k1,k2⟩:=args_two h3
      have hts:ts=#[t',t']:=by
       obtain ⟨l⟩:=ts;simp only at h2;rw [h2]
      subst hts;exact appendFlat_ok ho he hsz hby c2 c1 c3 k1.symm k2.symm hm hbx c4 c5 c6 c7 c8 hH hi hρ
     ·cases hs
    ·cases hs
   ·cases hs
  ·cases hs
 ·rename_i x ho;split at hs
  ·rename_i t gg lo len cap hx;split at hs
   ·rename_i ds H1 hcool;split at hs
    ·rename_i e g' cs' hm;split at hs
     ·rename_i size hsz;split at hs
      ·rename_i hc;obtain ⟨rfl,rfl,c1,c2⟩:=hc;cases hs;exact takeFlat_ok ho hx hcool hm hsz c1 c2 hH hi hρ
      ·cases hs
     ·cases hs
    ·cases hs
   ·cases hs
  ·cases hs
 ·cases hs

theorem flatSem_plain {l:List Nat} (hs:flatSem P l o ρ H=some (p,H')):∀ c,o.op≠.defer c:=fun c e=>by
 unfold flatSem at hs;split at hs
 all_goals first
  | (rename_i ho; rw [ho] at e; cases e; done)
  | cases hs

theorem opsFlat_sound (hF:Free F) (hcall:CallOK P pf call) {r:Nat} {ops:Array Oper} {fl:List (Nat × List Nat)} {Q:Exit→Act→World→Prop}:∀ (os:List Oper) (i:Nat) (st st':St) (g:Gh) (a:Act) (w:World),
  opsFlat P call h r ops fl i os st=some st'→(∀ j,os[j]? = ops[i+j]?)→StOK P B0 w0 S0 Nb g st a w →
  (∀ g' a' w',Ext Nb g w g' w'→Fr g st.heap w g' st'.heap w'→StOK P B0 w0 S0 Nb g' st' a' w'→a'.defers=a.defers→Q .normal a' w')→wpOpsIn F m P ops Q (List.range' i os.length) a w
 | [],i,st,st',g,a,w,hs,_,hst,hQ=>by
  cases hs;exact hQ g a w (Ext.refl _ _ _) (Fr.refl _ _ _) hst rfl
 | o::os,i,st,st',g,a,w,hs,hl,hst,hQ=>by
  have h0:ops[i]? = some o:=by simpa using (hl 0).symm
  have hl':∀ j,os[j]? = ops[i+1+j]?:=fun j=>by have:=hl (j+1); rw [show i+1+j=i+(j+1) by omega]; simpa using this
  simp only [zE,List.range'_succ,wpOpsIn,h0];unfold opsFlat at hs;split at hs
  ·rename_i st1 hst1;unfold flatStep at hst1;split at hst1
   ·unfold opStep at hst1;split at hst1
    ·rename_i hw;rw [wanted_rep hst.rep hw,if_pos rfl];split at hst1
     ·rename_i v H hsem;cases hst1;refine sem_wp hF hcall hsem hst fun u g' w' hg=>?_
      refine opsFlat_sound hF hcall os (i+1) _ _ g' _ w' hs hl' (hst.put hg o.dst) fun g2 a2 w2 he hf hst2 hd=>?_
      exact hQ g2 a2 w2 ((hg.ext.less hst.base).trans he (j7 _)) (hg.fr.trans hf) hst2 (hd.trans (put_defers _ _ _))
     ·cases hst1
    ·rename_i hw;rw [wanted_rep hst.rep hw];simp only [j6,if_false];cases hst1;refine ⟨fun f _=>hF.fn f,?_⟩;refine opsFlat_sound hF hcall os (i+1) _ _ g _ w hs hl' ⟨hst.heap,hst.inv,hst.rep.put o.dst undef_rep,hst.base⟩ fun g2 a2 w2 he hf hst2 hd=>?_
     exact hQ g2 a2 w2 he hf hst2 (hd.trans (put_defers _ _ _))
    ·cases hst1
   ·split at hst1
    ·rename_i hgd;have hw:wantedA ops st.slots o=some true:=by simp [wantedA,hgd]
     rw [wanted_rep hst.rep hw,if_pos rfl];rw [j5] at hst1;obtain ⟨⟨p,H'⟩,hsem,e1⟩:=hst1;subst e1;have hρ:∀ x,RepV g st.heap.length w (a.eval x) (ev st.slots x):=fun x=>hst.rep.ev x
     refine ⟨fun f _=>hF.fn f,?_⟩;rw [Oper.semAt_eq _ _ _ (flatSem_plain hsem)]
     have fin:∀ u g' w',Good P B0 w0 S0 st.heap g w p H' u g' w'→wpOpsIn F m P ops Q (List.range' (i+1) os.length) (a.put o.dst u) w':=fun u g' w' hg=>by
      refine opsFlat_sound hF hcall os (i+1) _ _ g' _ w' hs hl' (hst.put hg o.dst) fun g2 a2 w2 he hf hst2 hd=>?_
      exact hQ g2 a2 w2 ((hg.ext.less hst.base).trans he (j7 _)) (hg.fr.trans hf) hst2 (hd.trans (put_defers _ _ _))
     obtain ⟨v,g',w',hres,hg⟩:=flat_done (a:=a) hst.heap hst.inv hρ hsem;rcases hres with hr|⟨hr,rfl⟩
     ·rw [hr]; exact fin v g' w' hg
     ·rw [hr]; exact fin undef g' w' hg
    ·cases hst1
  ·cases hs
end
end Go.Pm
