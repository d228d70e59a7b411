/-
 The pure machine: soundness of built structs, literal lists, made lists, append.
-/
import Derived.Test.YtjcfpjpdopfefaaGreatPmOps5
import Derived.Great.BuildSlice
namespace Go.Pm
open Go Go.RowKit
set_option linter.unusedVariables false
section
variable {P:Program} {B0 N:Nat} {w0:World} {S0:Nat→Nat→Prop} {g:Gh} {H H':List Blk} {w:World} {p:PV} {o:Oper} {a:Act} {ρ:Operand→PV}

theorem built_of_places {t:TypeId} {pl:Nat→Option (Nat × Nat)} {i:TypeInfo} {zv:Value} (hpl:places P t=some pl) (hi:P.info? t=some i) (hz:i.zero=some zv) (parts:List (Nat × Value)) :
  P.built t parts=Instr.fill pl zv.cells parts:=by
 unfold places at hpl;unfold Program.built;split at hpl
 ·rename_i fs hu;simp only [j5] at hpl;obtain ⟨l,hl,rfl⟩:=hpl;simp only [hi,hu,hz,hl];congr 1
  funext x; simp
 ·rename_i n e hu;simp only [j5] at hpl;obtain ⟨s,hs,rfl⟩:=hpl;simp only [szOf,j5] at hs;obtain ⟨ie,hie,rfl⟩:=hs;simp only [hi,hu,hz,hie]
 ·cases hpl

theorem build_ok {t:TypeId} {parts:Array (Nat × Operand)} {z:Dat} {pl:Nat→Option (Nat × Nat)} {cs cs':List PV} {bs:List Blk} {ow:List (Nat × TypeId)} (ho:o.op=.build t parts) (hz:zeroOf P t=some z) (hpl:places P t=some pl)
  (hf:fillA pl (z.cells.map PV.dat) (parts.toList.map fun (i,x)=>(i,(ρ x).cells))=some cs) (hall:parts.toList.all (fun (_,x)=>(ρ x).cells.all PV.cell)=true)
  (hun:ow.all (fun (j,_)=>uncovered pl j parts.toList)=true) (ht:tokCells H.length cs ow=some (cs',bs))
  (hH:Ql P g B0 H.length H w) (hi:Inv B0 w0 S0 g w) (hρ:∀ x,RepV g H.length w (a.eval x) (ρ x)) :
  ∃ v g' w',OpRes P o a w v w'∧Good P B0 w0 S0 H g w (mkAgg cs') (H++bs) v g' w':=by
 obtain ⟨i,zv,h1,h2,h3,h4,_⟩:=zeroOf_ok hz;obtain ⟨z1,z2⟩:=(h3 w g.S).cells;have hpne:∀ i x,(i,x)∈parts.toList→ρ x≠.undef:=fun i x hx=>cell_ne_undef (by have:=List.all_eq_true.1 hall (i,x) hx; exact this)
 obtain ⟨vals,f1,f2,f3,f4,f5⟩:=fill_ok (a:=a) (ρ:=ρ) parts.toList zv.cells _ _ hf (by simpa using z1) (fun j v c g1 g2=>by
  simp only [jD,j5] at g2;obtain ⟨d,hd,rfl⟩:=g2;exact RepV.dat (N:=H.length) _ _ (z2 j v d g1 hd)) hρ hpne
 have hun':∀ j,j∈ow.map (·.1)→uncovered pl j parts.toList=true:=fun j hj=>by
  obtain ⟨⟨j',e⟩,hj',rfl⟩:=List.mem_map.1 hj;exact List.all_eq_true.1 hun _ hj'
 obtain ⟨t1,t2,t3⟩:=tokCells_ok _ _ _ _ _ ht vals (fun j hj hc=>by
  obtain ⟨u1,u2⟩:=f5 j (hun' j hj);rw [u1];rw [u2] at hc;simp only [jD,j5] at hc;obtain ⟨d,hd,e⟩:=hc;cases e; exact h4 j hd)
 have he:Ext H.length g w (g.nils H.length bs.length) w:=Ext.nils _ (j7 _);refine ⟨.agg vals,g.nils H.length bs.length,w,.inl ?_,he,by simp,?_,?_,⟨hi.below,hi.size,hi.old,hi.lt⟩,Fr.old (j7 _) (fun _ _=>rfl) fun i b h _=>?_⟩
 case refine_4=>exact ⟨i,occ_ghost (g:=g) (occ_toks t1 (fun i hi=>by simp [Gh.nils]; omega) h) (fun _ _=>rfl) (fun j hj=>by simp only [Gh.nils]; rw [if_neg y5])⟩
 ·have hb:=run_build (P:=P) w t (parts.map fun (i,x)=>(i,a.eval x)) vals (by rw [built_of_places hpl h1 h2]; simpa using f1);simp only [execOp,ho,Sem.run_bind];rw [hb]; rfl
 ·refine RepV.mkAgg y5 fun j v c g1 g2=>?_
  rcases t3 j v c g1 g2 with hc|⟨tk,a1,a2,rfl,rfl⟩
  ·exact (f4 j v c g1 hc).ext he y7
  ·refine .vec _ _ _ (.slice none 0 0) 0 y6 .nil ?_ (j7 _) y8;simp only [Gh.nils]; rw [if_pos ⟨a1,a2⟩]
 ·exact Ql.toks (hH.keep he y7 (j7 _) (fun _ _ _=>rfl) (fun _ _ _ _ h=>h) (fun t ht=>by simp only [Gh.nils]; rw [if_neg y5])) bs t1 (fun i hi=>by simp [Gh.nils]; omega)

theorem pureC_rep {v:Value} {p:PV} {d:Dat} (h:RepV g N w v p) (hp:pureC H p=some d) (hl:p.isArr=false):RepD w g.S v d:=by
 cases h with
 | dat v d h=>simp [pureC] at hp; subst hp; exact h
 | vec v t es v0 n h1 h2=>simp [pureC] at hp; subst hp; exact h2
 | empv b v h1 h2 =>
  simp [pureC] at hp; subst hp;cases b with
  | true=>rw [h1 rfl]; exact .nil
  | false=>obtain ⟨a,cap,rfl⟩:=h2 rfl; exact .empty a cap
 | arr i o len cap=>cases hl
 | ms=>cases hl
 | _=>simp [pureC] at hp

theorem pureCs_some:∀ (cs:List PV) (ds:List Dat),pureCs H cs=some ds→ds.length=cs.length∧∀ (j:Nat) c d,cs[j]? = some c→ds[j]? = some d→pureC H c=some d
 | [],ds,h=>by cases h; exact ⟨rfl,fun j c d h=>by simp at h⟩
 | c::r,ds,h=>by
  unfold pureCs at h;split at h
  ·rename_i d ds' hc hr;cases h;obtain ⟨h1,h2⟩:=pureCs_some r ds' hr;refine ⟨by simp [h1],fun j c' d' g1 g2=>?_⟩;cases j with
   | zero=>simp at g1 g2; subst g1 g2; exact hc
   | succ j=>exact h2 j c' d' (by simpa using g1) (by simpa using g2)
  ·cases h

theorem pures_some:∀ (cs:List PV) (ds:List Dat),pures H cs=some ds→ds.length=cs.length∧∀ (j:Nat) c d,cs[j]? = some c→ds[j]? = some d→pure1 H c=some d
 | [],ds,h=>by cases h; exact ⟨rfl,fun j c d h=>by simp at h⟩
 | c::r,ds,h=>by
  unfold pures at h;split at h
  ·rename_i d ds' hc hr;cases h;obtain ⟨h1,h2⟩:=pures_some r ds' hr;refine ⟨by simp [h1],fun j c' d' g1 g2=>?_⟩;cases j with
   | zero=>simp at g1 g2; subst g1 g2; exact hc
   | succ j=>exact h2 j c' d' (by simpa using g1) (by simpa using g2)
  ·cases h

theorem pure1_rep {v:Value} {p:PV} {d:Dat} (h:RepV g N w v p) (hp:pure1 H p=some d) (hl:p.lends=false):RepD w g.S v d:=by
 cases h with
 | agg vs cs h1 h2 =>
  simp only [pure1,j5] at hp;obtain ⟨ds,hp,rfl⟩:=hp;obtain ⟨p1,p2⟩:=pureCs_some _ _ hp;refine .agg _ _ y5 fun j v d g1 g2=>?_
  have hlt:j < cs.length:=by rw [← p1]; exact (List.getElem?_eq_some_iff.1 g2).1
  have hc:cs[j]? = some cs[j]:=jC hlt;refine pureC_rep (h2 j v _ g1 hc) (p2 j _ d hc g2) ?_;simp only [PV.lends,List.any_eq_false] at hl;have:=hl _ (z8 hlt)
  simpa using this
 | dat v d' h=>exact pureC_rep (N:=N) (H:=H) (RepV.dat v d' h) hp rfl
 | vec v t es v0 n h1 h2 h3 h4 h5=>exact pureC_rep (H:=H) (RepV.vec v t es v0 n h1 h2 h3 h4 h5) hp rfl
 | empv b v h1 h2 =>
  simp [pure1,pureC] at hp; subst hp;cases b with
  | true=>rw [h1 rfl]; exact .nil
  | false=>obtain ⟨a,cap,rfl⟩:=h2 rfl; exact .empty a cap
 | arr i o len cap=>simp [PV.lends] at hl
 | ms=>simp [PV.lends] at hl
 | _=>simp [pure1,pureC] at hp

theorem fill_dense {size:Nat}:∀ (ps:List (Nat × Value)) (k:Nat) (vals:Array Value),(∀ (i:Nat) q,ps[i]? = some q→q.1=k+i∧q.2.cells.size=size)→(k+ps.length) * size≤vals.size →
  ∃ vals',Instr.fill (fun i=>some (i * size,size)) vals ps=some vals'∧vals'.size=vals.size∧(∀ (i j:Nat) q,ps[i]? = some q→j < size→vals'[(k+i) * size+j]? = q.2.cells[j]?)∧∀ m,m < k * size→vals'[m]? = vals[m]?
 | [],k,vals,_,_=>⟨vals,rfl,rfl,fun i j q h=>by simp at h,fun _ _=>rfl⟩
 | q::ps,k,vals,hq,hl=>by
  obtain ⟨q1,q2⟩:=hq 0 q rfl;obtain ⟨i0,v⟩:=q;simp at q1 q2;subst q1
  have hl':i0 * size+size≤vals.size:=by
   have:(i0+1) * size≤(i0+(ps.length+1)) * size:=Nat.mul_le_mul_right _ y5
   rw [Nat.add_mul,Nat.one_mul] at this; simp at hl; omega
  generalize hnew:(v.cells.toList.zipIdx 0).foldl (fun cs (x:Value × Nat)=>cs.setIfInBounds (i0 * size+x.2) x.1) vals=new;have hg:=fun m=>foldl_set_get v.cells.toList 0 (i0 * size) vals m (by simpa [q2] using hl')
  rw [hnew] at hg
  have hget:∀ m,new[m]? = (if i0 * size≤m∧m < i0 * size+size then v.cells[m - i0 * size]? else vals[m]?):=fun m=>by
   rw [(hg m).1]; simp [q2]
  have hsz:new.size=vals.size:=(hg 0).2
  obtain ⟨vals',f1,f2,f3,f4⟩:=fill_dense ps (i0+1) new (fun i q h=>by
   have:=hq (i+1) q (by simpa using h);exact ⟨by omega,this.2⟩) (by rw [hsz,show i0+1+ps.length=i0+(ps.length+1) by omega]; simpa using hl)
  refine ⟨vals',?_,by omega,fun i j q h hj=>?_,fun m hm=>?_⟩
  ·simp only [Instr.fill];rw [if_neg y6];have e:v.cells.zipIdx.foldl (fun cs (x:Value × Nat)=>cs.setIfInBounds (i0 * size+x.2) x.1) vals=new:=by rw [← hnew,← Array.foldl_toList]; simp
   exact (congrArg (fun z=>Instr.fill (fun i=>some (i * size,size)) z ps) e).trans f1
  ·cases i with
   | zero =>
    simp at h; subst h
    have:i0 * size+j < (i0+1) * size:=by rw [Nat.add_mul]; omega
    rw [zV,f4 _ this,hget,if_pos ⟨by omega,by omega⟩]; congr 1; omega
   | succ i =>
    have:=f3 i j q (by simpa using h) hj
    rwa [show i0+1+i=i0+(i+1) by omega] at this
  ·have:m < (i0+1) * size:=by rw [Nat.add_mul]; omega
   rw [f4 m this,hget,if_neg y5]

theorem dense_get:∀ (ps:List (Nat × Operand)) (k:Nat),dense k ps=true→∀ (i:Nat) q,ps[i]? = some q→q.1=k+i
 | [],_,_,i,q,h=>by simp at h
 | (i0,x)::ps,k,hd,i,q,h=>by
  simp only [dense,jE,beq_iff_eq] at hd;cases i with
  | zero=>simp at h; subst h; simp [hd.1]
  | succ i=>have:=dense_get ps (k+1) hd.2 i q (by simpa using h); omega

theorem fits_num {size:Nat} {d:Dat} (h:d.fits size=true):d.num=size:=by
 simp only [Dat.fits,jE,beq_iff_eq] at h; exact h.1

theorem buildSlice_run {t e:TypeId} {len size:Nat} {parts:Array (Nat × Operand)} {ds:List Dat} (ho:o.op=.buildSlice t len parts) (he:elemOfSlice P t=some e) (hs:szOf P e=some size) (hz:(zeroOf P e).isSome=true)
  (hp:pures H (parts.toList.map fun (_,x)=>ρ x)=some ds) (hl:parts.size=len) (hd:dense 0 parts.toList=true) (hf:ds.all (Dat.fits size)=true) (h0:0 < size) (h24:len * size≤16777216)
  (hnl:parts.toList.any (fun (_,x)=>(ρ x).lends)=false)
  (hH:Ql P g B0 H.length H w) (hi:Inv B0 w0 S0 g w) (hρ:∀ x,RepV g H.length w (a.eval x) (ρ x)) :
  ∃ vals:Array Value,(execOp a.eval o).run P w=.ok (.value (.slice (some ⟨w.heap.size,0,none⟩) len len)) (w.alloc (.cells vals e))∧vals.size=len * size∧ds.length=len ∧
   RepD (w.alloc (.cells vals e)) (g.pub w.heap.size (len * size)).S (.slice (some ⟨w.heap.size,0,none⟩) len len) (.lst ds):=by
 obtain ⟨p1,p2⟩:=pures_some _ _ hp;have hlen:ds.length=len:=by rw [p1]; simpa using hl
 obtain ⟨z,hz⟩:=Option.isSome_iff_exists.1 hz;obtain ⟨ie,zv,i1,i2,_⟩:=zeroOf_ok hz;have hsz:ie.size=size:=by simp only [szOf,i1,jN,j9] at hs; exact hs
 have hrep:∀ (i:Nat) q d,parts.toList[i]? = some q→ds[i]? = some d→RepD w g.S (a.eval q.2) d:=fun i q d g1 g2=>by
  have hm:q∈parts.toList:=jF g1;refine pure1_rep (hρ q.2) (p2 i (ρ q.2) d (by simp only [jD,g1,jN]) g2) ?_;have:=List.any_eq_false.1 hnl q hm
  simpa using this
 have hex:∀ (i:Nat) q,parts.toList[i]? = some q→∃ d,ds[i]? = some d:=fun i q h=>⟨_,jC (by rw [p1]; simpa using (List.getElem?_eq_some_iff.1 h).1)⟩
 have hfit:∀ (i:Nat) d,ds[i]? = some d→d.num=size:=fun i d h=>fits_num (List.all_eq_true.1 hf d (jF h))
 obtain ⟨vals,f1,f2,f3,_⟩:=fill_dense (size:=size) (parts.toList.map fun (i,x)=>(i,a.eval x)) 0 ((Array.range (len * size)).map (zv.cells[· % zv.cells.size]!)) (fun i q h=>by
  simp only [jD,j5] at h;obtain ⟨q',h,rfl⟩:=h;obtain ⟨d,hd'⟩:=hex i q' h;exact ⟨dense_get _ 0 hd i q' h,by rw [(hrep i q' d h hd').cells.1,← Dat.num_eq,hfit i d hd']⟩) (by simp [hl])
 have hvs:vals.size=len * size:=by rw [f2]; simp
 have hb:(Instr.buildSlice t len (parts.map fun (i,x)=>(i,a.eval x))).run P w=.ok (.slice (some ⟨w.heap.size,0,none⟩) len len) (w.alloc (.cells vals e)):=by
  by_cases hpos:len * size=0
  ·have hl0:len=0:=by
    rcases Nat.mul_eq_zero.1 hpos with h|h
    ·exact h
    ·omega
   subst hl0;have hps:parts=#[]:=by simpa using hl
   subst hps
   have:vals=#[]:=by simpa using hvs
   subst this;simp [Instr.buildSlice,run_underlying (Qx he),run_szOf hs,Instr.fill,newRow,Array.range_zero']
  ·refine run_buildSlice w t e len _ vals ie zv (Qx he) i1 i2 (by rw [hsz]; omega) (by rw [hsz]; exact hpos) ?_;rw [hsz]; simpa using f1
 refine ⟨vals,by simp [execOp,ho,hb],hvs,hlen,?_⟩;refine .lst w.heap.size 0 len len size ds (fun m=>vals.getD m undef) hlen.symm (j7 _) (fun d hd=>fits_num (List.all_eq_true.1 hf d hd)) (fun i hi'=>⟨?_,.inr ⟨rfl,by omega⟩⟩) (fun i j d u g1 g2=>?_)
 ·rw [cell_of_row _ _ _ vals e (0,0) (heap_alloc_new w _)];simp [jH,hvs,hi']
 ·have hi2:i < ds.length:=(List.getElem?_eq_some_iff.1 g1).1;obtain ⟨q,hq⟩:∃ q,parts.toList[i]? = some q:=⟨_,jC (by rw [p1] at hi2; simpa using hi2)⟩;have hj:j < size:=by rw [← hfit i d g1,Dat.num_eq]; exact (List.getElem?_eq_some_iff.1 g2).1
  have h3:=f3 i j (q.1,a.eval q.2) (by simp only [jD,hq,jN]) hj;simp only [zW] at h3;obtain ⟨c1,c2⟩:=(hrep i q d hq g1).cells;have hj':j < (a.eval q.2).cells.size:=by rw [c1,← Dat.num_eq,hfit i d g1]; exact hj
  rw [jA hj'] at h3;simp only [jH,h3,Option.getD_some];have:=c2 j _ u (jA hj') g2;exact this.mono (fun b o hs=>.inl hs) (fun b o hs=>cell_alloc _ (hi.lt b o hs))

theorem Inv.pubAlloc {ob:Obj} {n:Nat} (hi:Inv B0 w0 S0 g w):Inv B0 w0 S0 (g.pub w.heap.size n) (w.alloc ob):=by
 have h:=hi.alloc ob;refine ⟨h.below,h.size,fun b o hs=>?_,fun b o hs=>?_⟩
 ·rcases hs with hs|⟨rfl,_⟩
  ·exact h.old b o hs
  ·exact .inr hi.size
 ·rcases hs with hs|⟨rfl,_⟩
  ·exact h.lt b o hs
  ·simp

theorem Ql.pubAlloc {ob:Obj} {n:Nat} (hH:Ql P g B0 H.length H w) (hi:Inv B0 w0 S0 g w) (hN:H.length≤N):Ext H.length g w (g.pub w.heap.size n) (w.alloc ob)∧Ql P (g.pub w.heap.size n) B0 N H (w.alloc ob):=by
 have he:Ext H.length g w (g.pub w.heap.size n) (w.alloc ob):=(Ext.alloc hi H.length _).trans (Ext.pub H.length _ _) (j7 _);refine ⟨he,hH.keep he hN (j7 _) (fun i b hb=>Below.heap_alloc w _ b (hH.occ_lt hb).2.1) (fun i b hb o hs=>?_) (fun _ _=>rfl)⟩;rcases hs with hs|⟨rfl,_⟩
 ·exact hs
 ·exact absurd (hH.occ_lt hb).2.1 (jZ _)

theorem buildSlice_ok {t e:TypeId} {len size:Nat} {parts:Array (Nat × Operand)} {ds:List Dat} (ho:o.op=.buildSlice t len parts) (he:elemOfSlice P t=some e) (hs:szOf P e=some size) (hz:(zeroOf P e).isSome=true)
  (hp:pures H (parts.toList.map fun (_,x)=>ρ x)=some ds) (hl:parts.size=len) (hd:dense 0 parts.toList=true) (hf:ds.all (Dat.fits size)=true) (h0:0 < size) (h24:len * size≤16777216)
  (hnl:parts.toList.any (fun (_,x)=>(ρ x).lends)=false)
  (hH:Ql P g B0 H.length H w) (hi:Inv B0 w0 S0 g w) (hρ:∀ x,RepV g H.length w (a.eval x) (ρ x)) :
  ∃ v g' w',OpRes P o a w v w'∧Good P B0 w0 S0 H g w (.dat (.lst ds)) H v g' w':=by
 obtain ⟨vals,r1,r2,r3,r4⟩:=buildSlice_run (S0:=S0) (w0:=w0) ho he hs hz hp hl hd hf h0 h24 hnl hH hi hρ;obtain ⟨k1,k2⟩:=Ql.pubAlloc (ob:=.cells vals e) (n:=len * size) hH hi (j7 _);exact ⟨_,g.pub w.heap.size (len * size),_,.inl r1,k1,j7 _,.dat _ _ r4,k2,hi.pubAlloc,Fr.old y7 (fun b hb=>Below.heap_alloc w _ b hb) (fun i b h _=>⟨i,occ_ghost (g:=g) h (fun _ _=>rfl) (fun _ _=>rfl)⟩) (fun b o h=>h.imp id fun h=>.inl (Nat.le_of_eq h.1.symm))⟩

theorem buildSlice_own_ok {t e:TypeId} {len size:Nat} {parts:Array (Nat × Operand)} {ds:List Dat} (ho:o.op=.buildSlice t len parts) (he:elemOfSlice P t=some e) (hs:szOf P e=some size) (hz:(zeroOf P e).isSome=true)
  (hp:pures H (parts.toList.map fun (_,x)=>ρ x)=some ds) (hl:parts.size=len) (hd:dense 0 parts.toList=true) (hf:ds.all (Dat.fits size)=true) (h0:0 < size) (h24:len * size≤16777216)
  (hnl:parts.toList.any (fun (_,x)=>(ρ x).lends)=false)
  (hH:Ql P g B0 H.length H w) (hi:Inv B0 w0 S0 g w) (hρ:∀ x,RepV g H.length w (a.eval x) (ρ x)) :
  ∃ v g' w',OpRes P o a w v w'∧Good P B0 w0 S0 H g w (.vec H.length ds) (H++[.tok e ds.length]) v g' w':=by
 obtain ⟨vals,r1,r2,r3,r4⟩:=buildSlice_run (S0:=S0) (w0:=w0) ho he hs hz hp hl hd hf h0 h24 hnl hH hi hρ
 let v0:Value:=.slice (some ⟨w.heap.size,0,none⟩) len len
 let g1:=g.pub w.heap.size (len * size)
 let g2:=g1.give H.length v0 len
 have hi':=hi.pubAlloc (ob:=.cells vals e) (n:=len * size);obtain ⟨k1,k2⟩:=Ql.pubAlloc (ob:=.cells vals e) (n:=len * size) (N:=H.length) hH hi (j7 _);have e2:Ext H.length g1 (w.alloc (.cells vals e)) g2 (w.alloc (.cells vals e)):=.giveNew _ _ _ (j7 _);refine ⟨v0,g2,_,.inl r1,k1.trans e2 (j7 _),by simp,.vec _ _ _ v0 len y7 r4 (by simp [g2,Gh.give]) y5 y8,?_,⟨hi'.below,hi'.size,hi'.old,hi'.lt⟩,Fr.old y7 (fun b hb=>Below.heap_alloc w _ b hb) (fun i b h hb=>?_) (fun b o h=>h.imp id fun h=>.inl (Nat.le_of_eq h.1.symm))⟩
 case refine_2 =>
  rcases occ_snoc h with h|⟨_,⟨cs',h,_⟩|⟨e',n,_,h⟩⟩
  ·exact ⟨i,occ_ghost (g:=g) h (fun j hj=>rfl) (fun j hj=>by simp only [g2,Gh.give]; rw [if_neg y5]; rfl)⟩
  ·cases h
  ·simp [g2,Gh.give,v0,Value.ownBlock] at h; subst h; exact absurd hb (jZ _)
 have hk:Ql P g2 B0 (H++[Blk.tok e ds.length]).length H (w.alloc (.cells vals e)):=k2.keep e2 y7 (j7 _) (fun _ _ _=>rfl) (fun _ _ _ _ h=>h) (fun t ht=>by simp only [g2,Gh.give]; rw [if_neg y5]);refine hk.snoc _ (fun _ h=>by cases h) (fun e' n h=>?_) (fun i b hb h2=>?_)
 ·cases h;refine ⟨v0,by simp [g2,Gh.give,r3],.inr ⟨w.heap.size,len,vals,size,by rw [r3],hi.size,heap_alloc_new w _,hs,by omega,?_,r2,fun o hs=>?_⟩⟩
  ·have:len≤len * size:=Nat.le_mul_of_pos_right _ h0
   simp only [maxLen]; omega
  ·rcases hs with hs|⟨_,hs⟩
   ·exact absurd (hi.lt _ _ hs) (jZ _)
   ·rw [r3]; exact hs
 ·rw [occ_tok (e:=e) (n:=ds.length) y7] at h2;simp [g2,Gh.give,v0,Value.ownBlock] at h2;subst h2;have hlt:=hk.occ_lt hb
  have hb':occ g H i=some w.heap.size:=by
   unfold occ at hb ⊢;split at hb
   ·simpa [g2,g1,Gh.give,Gh.pub] using hb
   ·have:=hlt.2.2;simp only [g2,g1,Gh.give,Gh.pub] at hb
    rwa [if_neg y5] at hb
   ·have:=hlt.2.2;simp only [g2,g1,Gh.give,Gh.pub] at hb
    rwa [if_neg y5] at hb
   ·simpa [g2,g1,Gh.give,Gh.pub] using hb
   ·cases hb
   ·cases hb
  exact jZ _ (hH.occ_lt hb').2.1

end
end Go.Pm
