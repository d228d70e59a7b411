/-
 The pure machine: soundness of calls, by summaries, alone, and in the caller's heap.
-/
import Derived.Test.YtjcfpjpdopfefaaGreatPmOrder
import Derived.Test.YtjcfpjpdopfefaaGreatPmCtl
import Derived.RangeFuncLeaves
namespace Go.Pm
open Go Go.RowKit
set_option linter.unusedVariables false

def PV.out:PV→Bool
 | .dat _=>true
 | .tup vs=>vs.all fun|.dat _=>true|_=>false
 | .fn _ caps=>caps.all PV.still
 | _=>false

theorem RepV.outMono {g g':Gh} {N N':Nat} {w:World} {v:Value} {p:PV} (h:RepV g N w v p) (hS:∀ b o,g.S b o→g'.S b o) (hp:p.out=true):RepV g' N' w v p:=by
 cases h with
 | dat v d hd=>exact .dat _ _ (hd.mono hS fun _ _ _=>rfl)
 | tup vs cs h1 h2 =>
  refine .tup _ _ h1 fun j v c g1 g2=>?_
  have hm:=List.all_eq_true.1 hp c (jF g2);cases c with
  | dat d=>exact .dat _ _ ((h2 j v _ g1 g2).datInv.mono hS fun _ _ _=>rfl)
  | _=>simp at hm
 | fn f vs cs h1 h2 =>
  refine .fn _ _ _ h1 fun j v c g1 g2=>?_
  have hm:=List.all_eq_true.1 hp c (jF g2);have hr:=h2 j v c g1 g2;cases hr with
  | dat v d hd=>exact .dat _ _ (hd.mono hS fun _ _ _=>rfl)
  | iptr b o cs c k1 k2=>exact .iptr b o cs c (fun i hi=>⟨(k1 i hi).1,hS _ _ (k1 i hi).2⟩) fun i u hu=>(k2 i u hu).mono hS fun _ _ _=>rfl
  | _=>simp [PV.still] at hm
 | _=>simp [PV.out] at hp

def PureCall (P:Program) (f:FuncId) (ds:List Dat) (p:PV):Prop :=
 ∀ (w:World) (S:Nat→Nat→Prop) (vals:Array Value),(∀ b o,S b o→b < w.heap.size)→vals.size=ds.length→(∀ (j:Nat) v d,vals[j]? = some v→ds[j]? = some d→RepD w S v d)→GlobRep (gS S) w →
  Calls P f vals w fun e w'=>∃ v,e=.returned v∧Below w.heap.size w w'∧RepV (gS fun b o=>S b o∨(w.heap.size≤b∧b < w'.heap.size)) 0 w' v p

section
variable {P:Program} {B0:Nat} {w0:World} {S0:Nat→Nat→Prop} {g:Gh} {H H':List Blk} {w:World} {p:PV}

theorem RepV.tupInv {N:Nat} {v:Value} {cs:List PV} (h:RepV g N w v (.tup cs)):∃ vs:Array Value,v=.tuple vs∧vs.size=cs.length∧∀ (j:Nat) u c,vs[j]? = some u→cs[j]? = some c→RepV g N w u c:=by
 cases h with
 | tup vs cs h1 h2=>exact ⟨vs,rfl,h1,h2⟩

theorem scalarOut_any {g':Gh} {N N':Nat} {w':World} {v:Value} {p:PV} (h:RepV g N w v p) (hp:scalarOut p=true):RepV g' N' w' v p:=by
 cases p with
 | dat d=>exact .dat _ _ (scalar_any h.datInv hp)
 | tup cs =>
  obtain ⟨vs,rfl,h1,h2⟩:=h.tupInv;refine .tup _ _ h1 fun j v c g1 g2=>?_
  have hm:=List.all_eq_true.1 hp c (jF g2);cases c with
  | dat d=>exact .dat _ _ (scalar_any (h2 j v _ g1 g2).datInv hm)
  | _=>simp at hm
 | _=>simp [scalarOut] at hp

def FreshCall (P:Program) (f:FuncId) (ds:List Dat) (p:PV):Prop :=
 ∀ (w:World) (S:Nat→Nat→Prop) (vals:Array Value),(∀ b o,S b o→b < w.heap.size)→vals.size=ds.length→(∀ (j:Nat) v d,vals[j]? = some v→ds[j]? = some d→RepD w S v d)→GlobRep (gS S) w →
  Calls P f vals w fun e w'=>∃ v,e=.returned v∧Below w.heap.size w w'∧RepV (gS fun b o=>w.heap.size≤b∧b < w'.heap.size) 0 w' v p
theorem freshD0_any {S S':Nat→Nat→Prop} {v:Value} {d:Dat} (h:RepD w S v d) (hd:freshD0 d=true):RepD w S' v d:=by
 cases h with
 | raw v h=>exact .raw v h
 | nil=>exact .nil
 | empty a cap=>exact .empty a cap
 | lst b off len cap k es c h1 h2 h3 h4 h5 =>
  have:es=[]:=by simpa [freshD0] using hd
  subst this;simp at h1; subst h1;exact .empty _ _
 | agg=>simp [freshD0] at hd
theorem freshD_any {S S':Nat→Nat→Prop} {v:Value} {d:Dat} (h:RepD w S v d) (hd:freshD d=true):RepD w S' v d:=by
 cases h with
 | agg vs cs h1 h2=>exact .agg vs cs h1 fun j v c g1 g2=>freshD0_any (h2 j v c g1 g2) (List.all_eq_true.1 hd c (jF g2))
 | raw v h=>exact .raw v h
 | nil=>exact .nil
 | empty a cap=>exact .empty a cap
 | lst b off len cap k es c h1 h2 h3 h4 h5=>exact freshD0_any (.lst b off len cap k es c h1 h2 h3 h4 h5) hd
theorem rawLst_any {S S':Nat→Nat→Prop} {v:Value} {d:Dat} (h:RepD w S v d) (hd:rawLst (some d)=true) (hb:∀ b off len cap,v=.slice (some ⟨b,off,none⟩) len cap→0 < len→∀ o,S' b o):RepD w S' v d:=by
 cases h with
 | raw v h=>exact .raw v h
 | nil=>exact .nil
 | empty a cap=>exact .empty a cap
 | agg=>simp [rawLst] at hd
 | lst b off len cap k es c h1 h2 h3 h4 h5 =>
  refine .lst b off len cap k es c h1 h2 h3 (fun i hi=>⟨(h4 i hi).1,hb b off len cap rfl ?_ _⟩) fun i j d u g1 g2=>?_
  ·exact Nat.pos_of_ne_zero fun e=>by subst e; simp at hi
  ·have hr:d.isRaw=true:=List.all_eq_true.1 hd d (jF g1);have h6:=h5 i j d u g1 g2;cases d with
   | raw x =>
    cases j with
    | zero =>
     simp [Dat.cells] at g2; subst g2;generalize c (i * k+0)=y at h6 ⊢;cases h6 with
     | raw _ h=>exact .raw _ h
    | succ j=>simp [Dat.cells] at g2
   | _=>simp [Dat.isRaw] at hr
theorem freshC_ok {v:Value} {q:PV} {d:Dat} (hH:Ql P g B0 H.length H w) (hr:RepV g H.length w v q) (hp:pureC H q=some d) (hf:freshC H q=true):RepD w (fun b o=>B0≤b∧b < w.heap.size) v d:=by
 have h1:=pureC_lend hH hr hp;cases q with
 | dat d'=>simp [pureC] at hp; subst hp; exact freshD_any h1 hf
 | arr i o len cap =>
  refine rawLst_any h1 (by simp only [freshC,hp] at hf; exact hf) fun b off len' cap' hv hpos o'=>?_
  cases hr with
  | arr _ _ _ _ hi hc =>
   cases hv;simp only [pureC] at hp;split at hp
   ·rename_i cs hb;have:=hH.occ_lt (occ_box (g:=g) hb);exact ⟨this.1,this.2.1⟩
   ·cases hp
 | ms t gg lo len cp =>
  refine rawLst_any h1 (by simp only [freshC,hp] at hf; exact hf) fun b off len' cap' hv hpos o'=>?_
  cases hr with
  | ms _ _ _ _ _ _ v0 n h1 h2 h3 h4 h5 =>
   simp only [pureC] at hp;split at hp
   ·rename_i te g' cs hb;split at hp
    ·rename_i hgg;subst hgg;have hb':=QH hb;obtain ⟨v1,k1,k2⟩:=hH.mt t _ _ _ hb';rw [h2] at k1;simp only [j9,jI] at k1;obtain ⟨rfl,rfl⟩:=k1;obtain ⟨e1,_⟩:=h4 rfl;subst hv;rcases k2 with ⟨rfl,hn⟩|⟨b',l,cap0,cur,rfl,q0,_⟩|⟨b',l,cap0,cur,size,ds,rfl,q0,_⟩
     ·exfalso
      rw [jK] at hp;obtain ⟨ds,hc,_⟩:=hp;rw [jK] at hc;obtain ⟨cs',hc,_⟩:=hc;have:=(cut_some hc).2.1;simp at this;rcases hn with rfl|⟨a,rfl⟩
      ·simp [subOf] at e1
      ·simp [subOf] at e1; omega
     all_goals
      simp only [subOf,add_lit,Value.slice.injEq,j9,Addr.mk.injEq] at e1;obtain ⟨⟨rfl,_,_⟩,_,_⟩:=e1;have:=hH.occ_lt (i:=t) (b:=b) (by rw [occ_mt hb',h2]; simp [mtBlock]; omega);exact ⟨this.1,this.2.1⟩
    ·cases hp
   ·cases hp
 | _=>simp [freshC] at hf
theorem fresh1_ok {v:Value} {q:PV} {d:Dat} (hH:Ql P g B0 H.length H w) (hr:RepV g H.length w v q) (hp:pure1 H q=some d) (hf:fresh1 H q=true):RepD w (fun b o=>B0≤b∧b < w.heap.size) v d:=by
 cases q with
 | agg cs =>
  simp only [pure1,j5] at hp;obtain ⟨ds,hp,rfl⟩:=hp;obtain ⟨p1,p2⟩:=pureCs_some _ _ hp;cases hr with
  | agg vs cs h1 h2 =>
   refine .agg _ _ y5 fun j v d g1 g2=>?_
   have hlt:j < cs.length:=by rw [← p1]; exact (List.getElem?_eq_some_iff.1 g2).1
   have hc:cs[j]? = some cs[j]:=jC hlt;exact freshC_ok hH (h2 j v _ g1 hc) (p2 j _ d hc g2) (List.all_eq_true.1 hf _ (jF hc))
 | _=>exact freshC_ok hH hr hp hf
theorem freshOut_ok {v:Value} {q p:PV} (hH:Ql P g B0 H.length H w) (hr:RepV g H.length w v q) (hp:pureOut H q=some p) (hf:freshOut H q=true):RepV (gS fun b o=>B0≤b∧b < w.heap.size) 0 w v p:=by
 unfold pureOut at hp;split at hp
 ·rename_i vs;simp only [j5] at hp;obtain ⟨ds,hps,rfl⟩:=hp;obtain ⟨p1,p2⟩:=pures_some _ _ hps;obtain ⟨us,rfl,h1,h2⟩:=hr.tupInv;refine .tup _ _ y6 fun j u c g1 g2=>?_
  simp only [jD,j5] at g2;obtain ⟨d,hd,rfl⟩:=g2;have hlt:j < vs.length:=by rw [← p1]; exact (List.getElem?_eq_some_iff.1 hd).1
  have hq:vs[j]? = some vs[j]:=jC hlt;exact .dat _ _ (fresh1_ok hH (h2 j u _ g1 hq) (p2 j _ d hq hd) (List.all_eq_true.1 hf _ (jF hq)))
 ·simp [freshOut,fresh1,freshC] at hf
 ·rename_i h1 h2;simp only [j5] at hp;obtain ⟨d,hd,rfl⟩:=hp;refine .dat _ _ (fresh1_ok hH hr hd ?_);cases q with
  | tup vs=>exact absurd rfl (h1 vs)
  | _=>exact hf

theorem pure_call {f:FuncId} {args:List PV} {ds:List Dat} (hpc:PureCall P f ds p) (hout:p.out=true) (hps:pures H args=some ds) (hl:args.any PV.lends=true→scalarOut p=true∨FreshCall P f ds p)
  {vals:Array Value} (hn:vals.size=args.length) (hr:∀ (j:Nat) v q,vals[j]? = some v→args[j]? = some q→RepV g H.length w v q) (hH:Ql P g B0 H.length H w) (hi:Inv B0 w0 S0 g w) (hG:GlobRep g w) :
  Calls P f vals w fun e w'=>∃ v g',e=.returned v∧Good P B0 w0 S0 H g w p H v g' w':=by
 obtain ⟨p1,p2⟩:=pures_some _ _ hps
 have hargs:∀ (j:Nat) v d,vals[j]? = some v→ds[j]? = some d→∃ q,args[j]? = some q∧RepV g H.length w v q∧pure1 H q=some d:=fun j v d g1 g2=>by
  have hlt:j < args.length:=by rw [← p1]; exact (List.getElem?_eq_some_iff.1 g2).1
  have hq:args[j]? = some args[j]:=jC hlt;exact ⟨_,hq,hr j v _ g1 hq,p2 j _ d hq g2⟩
 -- behind the call
 have fin:∀ (S:Nat→Nat→Prop) (w':World) (v:Value),Below w.heap.size w w'→(∃ q,RepV { g with S:=fun b o=>g.S b o∨(w.heap.size≤b∧b < w'.heap.size) } H.length w' v q∧q=p) →
   ∃ g',Good P B0 w0 S0 H g w p H v g' w':=fun S w' v hb hv=>by
  obtain ⟨q,hv,rfl⟩:=hv
  have he:Ext H.length g w { g with S:=fun b o=>g.S b o∨(w.heap.size≤b∧b < w'.heap.size) } w' :=
   ⟨fun _ _ h=>.inl h,fun b o hs=>hb.cell (p:=⟨b,o,none⟩) (hi.lt b o hs),fun _ _ h=>⟨rfl,h⟩,fun _ _ v n h=>⟨v,n,h,j7 _,fun _=>rfl⟩⟩
  refine ⟨_,he,j7 _,hv,hH.keep he (j7 _) (j7 _) (fun i b h=>hb.block b (hH.occ_lt h).2.1) (fun i b h o hs=>?_) (fun _ _=>rfl),⟨hi.below.trans (hb.mono hi.size),jW hi.size hb.size,fun b o hs=>?_,fun b o hs=>?_⟩,Fr.old hb.size (fun b h=>hb.block b h) (fun i b h _=>⟨i,occ_ghost (g:=g) h (fun _ _=>rfl) (fun _ _=>rfl)⟩) (fun b o h=>h.imp id fun h=>.inl h.1)⟩
  ·rcases hs with hs|⟨hs,_⟩
   ·exact hs
   ·exact absurd (hH.occ_lt h).2.1 y5
  ·rcases hs with hs|⟨hs,_⟩
   ·exact hi.old b o hs
   ·exact .inr (jW hi.size hs)
  ·rcases hs with hs|⟨_,hs⟩
   ·exact jP (hi.lt b o hs) hb.size
   ·exact hs
 by_cases hlend:args.any PV.lends=true
 ·rcases hl hlend with hsc|hfc
  rotate_left
  ·refine (hfc w (g.drop H 0).S vals (fun b o hs=>?_) y5 (fun j v d g1 g2=>?_) (hG.ofS fun _ _ h=>.inl h)).mono fun e w' he=>?_
   ·rcases hs with hs|⟨j,hj,hjb,_⟩
    ·exact hi.lt b o hs
    ·exact (hH.occ_lt hjb).2.1
   ·obtain ⟨q,h1,h2,h3⟩:=hargs j v d g1 g2;exact pure1_lend hH h2 h3
   ·obtain ⟨v,rfl,hb,hv⟩:=he;have hv':RepV { g with S:=fun b o=>g.S b o∨(w.heap.size≤b∧b < w'.heap.size) } H.length w' v p:=hv.outMono (fun b o h=>.inr h) hout;obtain ⟨g',hg⟩:=fin (fun _ _=>True) w' v hb ⟨p,hv',rfl⟩;exact ⟨v,g',rfl,hg⟩
  refine (hpc w (g.drop H 0).S vals (fun b o hs=>?_) y5 (fun j v d g1 g2=>?_) (hG.ofS fun _ _ h=>.inl h)).mono fun e w' he=>?_
  ·rcases hs with hs|⟨j,hj,hjb,_⟩
   ·exact hi.lt b o hs
   ·exact (hH.occ_lt hjb).2.1
  ·obtain ⟨q,h1,h2,h3⟩:=hargs j v d g1 g2;exact pure1_lend hH h2 h3
  ·obtain ⟨v,rfl,hb,hv⟩:=he;obtain ⟨g',hg⟩:=fin (fun _ _=>True) w' v hb ⟨p,scalarOut_any hv hsc,rfl⟩;exact ⟨v,g',rfl,hg⟩
 ·refine (hpc w g.S vals hi.lt y5 (fun j v d g1 g2=>?_) (hG.ofS fun _ _ h=>h)).mono fun e w' he=>?_
  ·obtain ⟨q,h1,h2,h3⟩:=hargs j v d g1 g2;refine pure1_rep h2 h3 ?_;have:=List.any_eq_false.1 (by simpa using hlend) q (jF h1)
   simpa using this
  ·obtain ⟨v,rfl,hb,hv⟩:=he;have hv':RepV { g with S:=fun b o=>g.S b o∨(w.heap.size≤b∧b < w'.heap.size) } H.length w' v p:=hv.outMono (fun b o h=>h) hout;obtain ⟨g',hg⟩:=fin (fun _ _=>True) w' v hb ⟨p,hv',rfl⟩;exact ⟨v,g',rfl,hg⟩

def resSem (tmps:Array Value):ResultVar→Sem Value
 | .tmp t=>pure (tmps.getD t undef)
 | .cell a t=>do loadVar t (← asAddr (tmps.getD a undef))

theorem results_eq (fn:Func) (tmps:Array Value):results fn tmps=(do let vs ← fn.results.mapM (resSem tmps); pure (if h:vs.size=1 then vs[0] else .tuple vs)):=by
 have:resSem tmps=fun r=>(match r with|.tmp t=>pure (tmps.getD t undef)|.cell a t=>do loadVar t (← asAddr (tmps.getD a undef)):Sem Value):=by funext r; cases r <;> rfl
 rw [this]; rfl

theorem res_ok {N:Nat} {tmps:Array Value} {s:List PV} {r:ResultVar} {q:PV} (hH:Ql P g B0 H.length H w) (hs:RepS g H.length w tmps s) (h:resOf P s H r=some q) :
  ∃ u,(resSem tmps r).run P w=.ok u w∧RepV g H.length w u q:=by
 cases r with
 | tmp t =>
  simp only [resOf,j9] at h;subst h;exact ⟨_,rfl,hs.2 t⟩
 | cell a t =>
  simp only [resOf] at h;split at h
  ·rename_i ag size i off hg hsz hx;split at h
   ·rename_i cs hb;simp only [jK] at h;obtain ⟨ds,hc,hd⟩:=h;obtain ⟨c1,c2,c3⟩:=cut_some hc;have hv:=hs.2 a;rw [hx] at hv;generalize hva:tmps.getD a undef=va at hv;cases hv with
    | ptr i o hio =>
     obtain ⟨_,⟨vals,ty,k1,k2,k3⟩,_⟩:=hH.box i cs hb
     have hget:∀ (j:Nat) u,((vals.toList.drop off).take size)[j]? = some u→j < size∧vals[off+j]? = some u:=fun j u hu=>by
      rw [jR] at hu;split at hu
      ·exact ⟨by assumption,by simpa using hu⟩
      ·cases hu
     obtain ⟨p1,p2⟩:=RepV.ofCells (g:=g) (w:=w) (N:=H.length) (us:=(vals.toList.drop off).take size) (n:=size) y6 c1 (fun j v c g1 g2=>by
      obtain ⟨hj,hv⟩:=hget j v g1;rw [c3 j hj] at g2;exact k3 _ v c hv g2) hd
     have hr:=run_loadVar_cells (P:=P) (w:=w) (b:=g.blk i) (off:=off) ((vals.toList.drop off).take size) hg hsz y6 p1 (fun j u hu=>by
      rw [cell_of_row w _ _ vals ty (0,0) k1]; exact (hget j u hu).2)
     refine ⟨_,?_,p2⟩;show (Sem.run P (do loadVar t (← asAddr (tmps.getD a undef))) w)=_
     rw [hva]; exact hr
   ·cases h
  ·cases h

theorem ress_ok {tmps:Array Value} {s:List PV} (hH:Ql P g B0 H.length H w) (hs:RepS g H.length w tmps s):∀ (rs:List ResultVar) (qs:List PV),ressOf P s H rs=some qs →
  ∃ us:List Value,(rs.mapM (resSem tmps)).run P w=.ok us w∧us.length=qs.length ∧
   ∀ (j:Nat) u q,us[j]? = some u→qs[j]? = some q→RepV g H.length w u q
 | [],qs,h=>by cases h; exact ⟨[],rfl,rfl,fun j u q h=>by simp at h⟩
 | r::rs,qs,h=>by
  simp only [ressOf] at h;split at h
  ·rename_i q qs' h1 h2;cases h;obtain ⟨u,r1,r2⟩:=res_ok (N:=0) hH hs h1;obtain ⟨us,k1,k2,k3⟩:=ress_ok hH hs rs qs' h2;refine ⟨u::us,?_,by simp [k2],fun j u' q' g1 g2=>?_⟩
   ·rw [List.mapM_cons,Sem.run_bind,r1,Result.andThen_ok,Sem.run_bind,k1,Result.andThen_ok]; rfl
   ·cases j with
    | zero=>simp at g1 g2; subst g1 g2; exact r2
    | succ j=>exact k3 j u' q' (by simpa using g1) (by simpa using g2)
  ·cases h

theorem results_ok {fn:Func} {tmps:Array Value} {s:List PV} {qs:List PV} (hH:Ql P g B0 H.length H w) (hs:RepS g H.length w tmps s) (h:ressOf P s H fn.results.toList=some qs) :
  ∃ v,(results fn tmps).run P w=.ok v w∧RepV g H.length w v (tupOf qs):=by
 obtain ⟨us,k1,k2,k3⟩:=ress_ok hH hs _ _ h
 have hr:(results fn tmps).run P w=.ok (if h:us.toArray.size=1 then us.toArray[0] else .tuple us.toArray) w:=by
  rw [results_eq];simp only [Array.mapM_eq_mapM_toList];simp [k1]
 refine ⟨_,hr,?_⟩
 match us,qs,k2,k3 with
 | [],[],_,k3=>exact .tup _ _ rfl (fun j v c h=>by simp at h)
 | [u],[q],_,k3=>exact k3 0 u q rfl rfl
 | u1::u2::us,q1::q2::qs,k2,k3 =>
  simp only [tupOf];rw [dif_neg y7];exact .tup _ _ (by simpa using k2) fun j v c g1 g2=>k3 j v c (by simpa using g1) g2


theorem leavesM {F:Fence} {n:Nat} {fn:Func} {R:Ending→World→Prop} {N:Nat} {g':Gh} {st:St} {w:World}:∀ (ms:List Nat) (tmps:Array Value) (w1:World),ms.Nodup→(∀ r,r∈ms→w.heap.size≤r∧w1.heap[r]? = some (.deferred (some [])))→B0≤w.heap.size →
  Ext N g w g' w1→Fr g H w g' st.heap w1→StOK P B0 w0 S0 N g' st { tmps:=tmps,defers:=[] } w1 →
  (∀ w2,Ext N g w g' w2→Fr g H w g' st.heap w2→StOK P B0 w0 S0 N g' st { tmps:=tmps,defers:=[] } w2→∃ v,(results fn tmps).run P w2=.ok v w2∧R (.returned v) w2) →
  LeavesInM F n P fn tmps R (ms.map mark) .returning w1
 | [],tmps,w1,hn,hm,hB,he,hf,hs,hk=>hk w1 he hf hs
 | r::ms,tmps,w1,hn,hm,hB,he,hf,hs,hk=>by
  obtain ⟨h1,h2⟩:=hm r y7;have hn':=List.nodup_cons.1 hn;refine ⟨by simp,.inl ⟨r,_,rfl,run_takeDeferred h2,?_⟩⟩
  exact leavesM ms tmps _ hn'.2 (fun r' hr'=>⟨(hm r' (by simp [hr'])).1,(World.putObj_heap_other (fun e=>hn'.1 (by rw [← e]; exact hr'))).trans (hm r' (by simp [hr'])).2⟩) hB
   (he.trans (Ext.put N g' h2 rfl rfl) (j7 _)) (hf.put h1) ⟨hs.heap.put (j7 _) h2 rfl rfl,hs.inv.put (jW hB h1),hs.rep.ext (Ext.put _ g' h2 rfl rfl) (j7 _),hs.base⟩ hk

theorem pbody_ok {E:Env} {call:CallF} (hcall:CallOK P E.pf call) {n:Nat} {f:FuncId} (hdraw:DrawOK P call E.pf (E.hint f)) {args:List PV} {q:PV} (hp:pbody P E call n f args H=some (q,H'))
  {vals:Array Value} (hn:vals.size=args.length) (hr:∀ (j:Nat) v q,vals[j]? = some v→args[j]? = some q→RepV g H.length w v q) (hH:Ql P g B0 H.length H w) (hi:Inv B0 w0 S0 g w) (hG:GlobRep g w) :
  Calls P f vals w fun e w'=>∃ v g',e=.returned v∧Good P B0 w0 S0 H g w q H' v g' w':=by
 unfold pbody at hp;split at hp
 ·rename_i fn hf;split at hp
  ·rename_i c hc;split at hp
   ·cases hp
   ·rename_i e st hne hrun;simp only [j5,jI] at hp;obtain ⟨qs,hqs,rfl,rfl⟩:=hp;refine callsIn_wide.1 (callsIn_of_wp_marks (n:=0) hf hc trivial ?_);refine ((pcode_sound hcall hdraw n).1 true c _ st e hrun) B0 w0 S0 H.length g _ w Fence.wide 0 _ (.inl rfl) y8 ⟨hH,hi,⟨by simp [hn],fun t=>?_,hG⟩,j7 _⟩ fun g' a' w' he hfr hst hd=>?_
    ·simp only [jH,jB,Array.getElem?_append,jT,hn];by_cases ht:t < args.length
     ·rw [if_pos ht,if_pos ht];have h1:vals[t]? = some vals[t]:=jA y5;have h2:args[t]? = some args[t]:=jC ht;rw [h1,h2];exact hr t _ _ h1 h2
     ·rw [if_neg ht,if_neg ht];simp only [Array.getElem?_replicate,zK];split <;> exact undef_rep
    ·obtain ⟨ms,m1,m2,m3⟩:=hd
     have hend:=leavesM (F:=Fence.wide) (n:=0) (fn:=fn) (R:=fun e w'=>∃ v g',e=.returned v∧Good P B0 w0 S0 H g w (tupOf qs) st.heap v g' w') ms a'.tmps w' m2 m3 hi.size he hfr ⟨hst.heap,hst.inv,hst.rep,hst.base⟩ fun w2 he2 hfr2 hst2=>by
      obtain ⟨v,h1,h2⟩:=results_ok hst2.heap hst2.rep hqs;exact ⟨v,h1,v,g',rfl,he2,hst.base,h2,hst2.heap,hst2.inv,hfr2⟩
     have hdf:a'.defers=ms.map mark:=by simpa using m1
     cases e with
     | normal=>show LeavesInM _ _ _ _ _ _ a'.defers _ _; rw [hdf]; exact hend
     | ret=>show LeavesInM _ _ _ _ _ _ a'.defers _ _; rw [hdf]; exact hend
     | exit id=>exact (hne id rfl).elim
   ·cases hp
  ·cases hp
 ·cases hp

theorem splitRun_some {r1 r2:Option (PV × List Blk)} {q:PV} {H':List Blk} (h:splitRun r1 r2=some (q,H')):r1=some (q,H')∧r2=some (q,H'):=by
 unfold splitRun at h;split at h
 ·split at h
  ·rename_i e; subst e; cases h; exact ⟨rfl,rfl⟩
  ·cases h
 ·cases h

theorem pbodyS_ok {E:Env} {call:CallF} (hcall:CallOK P E.pf call) {n:Nat} {f:FuncId} (hdraw:DrawOK P call E.pf (E.hint f)) {args:List PV} {q:PV} (hp:pbodyS P E call n f args H=some (q,H'))
  {vals:Array Value} (hn:vals.size=args.length) (hr:∀ (j:Nat) v q,vals[j]? = some v→args[j]? = some q→RepV g H.length w v q) (hH:Ql P g B0 H.length H w) (hi:Inv B0 w0 S0 g w) (hG:GlobRep g w) :
  Calls P f vals w fun e w'=>∃ v g',e=.returned v∧Good P B0 w0 S0 H g w q H' v g' w':=by
 unfold pbodyS at hp;split at hp
 ·rename_i hc;simp only [jE,List.isEmpty_iff] at hc;obtain ⟨_,hemp,rfl⟩:=hc;obtain ⟨r1,r2⟩:=splitRun_some hp
  have ha:args=[.dat (.lst [])]:=by
   unfold isEmp at hemp;split at hemp
   ·rfl
   ·cases hemp
  subst ha;have hsz:vals.size=1:=hn;have h0:vals[0]? = some vals[0]:=jA y5;have hv:=(hr 0 _ _ h0 rfl).datInv
  have key:(vals[0]=.slice none 0 0)∨∃ a cap,vals[0]=.slice (some a) 0 cap:=by
   generalize vals[0]=v at hv;cases hv with
   | nil=>exact .inl rfl
   | empty a cap=>exact .inr ⟨a,cap,rfl⟩
   | lst b off len cap k es c h1=>exact .inr ⟨_,cap,by rw [h1]; rfl⟩
  rcases key with key|⟨a,cap,key⟩
  ·exact pbody_ok hcall hdraw r1 (by simpa using hn) (fun j v q g1 g2=>by
    match j,g2 with
    | 0,g2 =>
     simp at g2; subst g2;rw [h0] at g1; cases g1;exact .empv _ _ (fun _=>key) (fun h=>by cases h)
    | j+1,g2=>simp at g2) hH hi hG
  ·exact pbody_ok hcall hdraw r2 (by simpa using hn) (fun j v q g1 g2=>by
    match j,g2 with
    | 0,g2 =>
     simp at g2; subst g2;rw [h0] at g1; cases g1;exact .empv _ _ (fun h=>by cases h) (fun _=>⟨a,cap,key⟩)
    | j+1,g2=>simp at g2) hH hi hG
 ·exact pbody_ok hcall hdraw hp hn hr hH hi hG

theorem stillC_ok {v:Value} {q p:PV} (hH:Ql P g B0 H.length H w) (hr:RepV g H.length w v q) (hp:stillC H q=some p):p.still=true∧RepV (g.drop H 0) 0 w v p:=by
 unfold stillC at hp;split at hp
 ·rename_i i o;split at hp
  ·rename_i cs hb;simp only [j5] at hp;obtain ⟨ds,hds,rfl⟩:=hp;obtain ⟨p1,p2⟩:=pureCs_some _ _ hds;cases hr with
   | ptr i o hi =>
    obtain ⟨_,⟨vals,ty,k1,k2,k3⟩,_⟩:=hH.box i cs hb;refine ⟨rfl,.iptr _ _ _ (fun j=>vals.getD (o+j) undef) (fun j hj=>?_) fun j u hu=>?_⟩
    ·have hlt:o+j < vals.size:=by rw [zZ] at p1; omega
     refine ⟨?_,.inr ⟨i,zN _,occ_box hb,by simp only [lenB,hb]; omega⟩⟩;rw [cell_of_row w _ _ vals ty (0,0) k1,jH,jA hlt]; rfl
    ·have hj:j < ds.length:=(List.getElem?_eq_some_iff.1 hu).1;have hlt:o+j < vals.size:=by rw [zZ] at p1; omega
     have hc:(cs.drop o)[j]? = some cs[o+j]:=by rw [zG]; exact jC y5
     have hv:=k3 (o+j) _ _ (jA hlt) (by rw [← zG]; exact hc);rw [jH,jA hlt];exact pureC_lend hH hv (p2 j _ u hc hu)
  ·cases hp
 ·rename_i cs;cases hp;cases hr with
  | iptr b o _ c h1 h2=>exact ⟨rfl,.iptr (g:=g.drop H 0) b o cs c (fun i hi=>⟨(h1 i hi).1,.inl (h1 i hi).2⟩) fun i u hu=>(h2 i u hu).mono (fun _ _ h=>.inl h) fun _ _ _=>rfl⟩
 ·simp only [j5] at hp;obtain ⟨d,hd,rfl⟩:=hp;exact ⟨rfl,.dat _ _ (pureC_lend hH hr hd)⟩

theorem stillCs_some:∀ (cs ps:List PV),stillCs H cs=some ps→ps.length=cs.length∧∀ (j:Nat) c p,cs[j]? = some c→ps[j]? = some p→stillC H c=some p
 | [],ps,h=>by cases h; exact ⟨rfl,fun j c p h=>by simp at h⟩
 | c::cs,ps,h=>by
  simp only [stillCs] at h;split at h
  ·rename_i d ds h1 h2;cases h;obtain ⟨k1,k2⟩:=stillCs_some cs ds h2;refine ⟨by simp [k1],fun j c' p' g1 g2=>?_⟩;cases j with
   | zero=>simp at g1 g2; subst g1 g2; exact h1
   | succ j=>exact k2 j c' p' (by simpa using g1) (by simpa using g2)
  ·cases h

theorem stillC_still {c p:PV} (h:stillC H c=some p):p.still=true:=by
 unfold stillC at h;split at h
 ·split at h
  ·simp only [j5] at h; obtain ⟨ds,_,rfl⟩:=h; rfl
  ·cases h
 ·cases h; rfl
 ·simp only [j5] at h; obtain ⟨ds,_,rfl⟩:=h; rfl

theorem pureOut_out {q p:PV} (ho:pureOut H q=some p):p.out=true:=by
 unfold pureOut at ho;split at ho
 ·simp only [j5] at ho; obtain ⟨ds,_,rfl⟩:=ho; simp [PV.out]
 ·simp only [j5] at ho;obtain ⟨cs,hcs,rfl⟩:=ho;obtain ⟨p1,p2⟩:=stillCs_some _ _ hcs;refine List.all_eq_true.2 fun c hc=>?_
  obtain ⟨j,hj⟩:=List.getElem?_of_mem hc;have hlt:=(List.getElem?_eq_some_iff.1 hj).1;exact stillC_still (p2 j _ c (jC y5) hj)
 ·simp only [j5] at ho; obtain ⟨d,_,rfl⟩:=ho; rfl

theorem pureOut_ok {v:Value} {q p:PV} (hH:Ql P g B0 H.length H w) (hr:RepV g H.length w v q) (hp:pureOut H q=some p):p.out=true∧RepV (g.drop H 0) 0 w v p:=by
 unfold pureOut at hp;split at hp
 ·rename_i vs;simp only [j5] at hp;obtain ⟨ds,hps,rfl⟩:=hp;obtain ⟨p1,p2⟩:=pures_some _ _ hps;obtain ⟨us,rfl,h1,h2⟩:=hr.tupInv;refine ⟨by simp [PV.out],.tup _ _ y6 fun j u c g1 g2=>?_⟩;simp only [jD,j5] at g2;obtain ⟨d,hd,rfl⟩:=g2;have hlt:j < vs.length:=by rw [← p1]; exact (List.getElem?_eq_some_iff.1 hd).1
  have hq:vs[j]? = some vs[j]:=jC hlt;exact .dat _ _ (pure1_lend hH (h2 j u _ g1 hq) (p2 j _ d hq hd))
 ·rename_i f caps;simp only [j5] at hp;obtain ⟨cs,hcs,rfl⟩:=hp;obtain ⟨p1,p2⟩:=stillCs_some _ _ hcs;cases hr with
  | fn _ vs _ h1 h2 =>
   have key:∀ (j:Nat) c,cs[j]? = some c→∃ q,caps[j]? = some q∧stillC H q=some c:=fun j c g2=>by
    have hlt:j < caps.length:=by rw [← p1]; exact (List.getElem?_eq_some_iff.1 g2).1
    have hq:caps[j]? = some caps[j]:=jC hlt;exact ⟨_,hq,p2 j _ c hq g2⟩
   refine ⟨?_,.fn _ _ _ y5 fun j u c g1 g2=>?_⟩
   ·refine List.all_eq_true.2 fun c hc=>?_
    obtain ⟨j,hj⟩:=List.getElem?_of_mem hc;obtain ⟨q,q1,q2⟩:=key j c hj;have hjv:j < vs.size:=by rw [h1]; exact (List.getElem?_eq_some_iff.1 q1).1
    exact (stillC_ok hH (h2 j _ q (jA hjv) q1) q2).1
   ·obtain ⟨q,q1,q2⟩:=key j c g2;exact (stillC_ok hH (h2 j u q g1 q1) q2).2
 ·simp only [j5] at hp;obtain ⟨d,hd,rfl⟩:=hp;exact ⟨rfl,.dat _ _ (pure1_lend hH hr hd)⟩

theorem pure_body {E:Env} {call:CallF} (hcall:CallOK P E.pf call) {n:Nat} {f:FuncId} (hdraw:DrawOK P call E.pf (E.hint f)) {ds:List Dat} {r p:PV} (hp:pbodyS P E call n f (ds.map .dat) []=some (r,H')) (ho:pureOut H' r=some p) :
  PureCall P f ds p∧p.out=true:=by
 refine ⟨fun w S vals hS hn hr hG=>?_,pureOut_out ho⟩
 ·refine (pbodyS_ok (B0:=w.heap.size) (w0:=w) (S0:=S) (g:=gS S) hcall hdraw hp (by simpa using hn) (fun j v q g1 g2=>?_) heap_nil ⟨Below.refl _ _,j7 _,fun b o h=>.inl h,hS⟩ hG).mono fun e w' he=>?_
  ·simp only [jD,j5] at g2;obtain ⟨d,hd,rfl⟩:=g2;exact .dat _ _ (hr j v d g1 hd)
  ·obtain ⟨v,g',rfl,hg⟩:=he;obtain ⟨o1,o2⟩:=pureOut_ok hg.heap hg.rep ho;refine ⟨v,rfl,hg.inv.below,?_⟩
   have hS':∀ b o,(g'.drop H' 0).S b o→S b o∨(w.heap.size≤b∧b < w'.heap.size):=fun b o hs=>by
    have hlt:b < w'.heap.size:=by
     rcases hs with hs|⟨j,_,hjb,_⟩
     ·exact hg.inv.lt b o hs
     ·exact (hg.heap.occ_lt hjb).2.1
    rcases hs with hs|⟨j,_,hjb,_⟩
    ·rcases hg.inv.old b o hs with h|h
     ·exact .inl h
     ·exact .inr ⟨h,hlt⟩
    ·exact .inr ⟨(hg.heap.occ_lt hjb).1,hlt⟩
   exact o2.outMono hS' o1

theorem pure_bodyF {E:Env} {call:CallF} (hcall:CallOK P E.pf call) {n:Nat} {f:FuncId} (hdraw:DrawOK P call E.pf (E.hint f)) {ds:List Dat} {r p:PV} (hp:pbodyS P E call n f (ds.map .dat) []=some (r,H')) (ho:pureOut H' r=some p) (hf:freshOut H' r=true) :
  FreshCall P f ds p:=fun w S vals hS hn hr hG=>by
 refine (pbodyS_ok (B0:=w.heap.size) (w0:=w) (S0:=S) (g:=gS S) hcall hdraw hp (by simpa using hn) (fun j v q g1 g2=>?_) heap_nil ⟨Below.refl _ _,j7 _,fun b o h=>.inl h,hS⟩ hG).mono fun e w' he=>?_
 ·simp only [jD,j5] at g2;obtain ⟨d,hd,rfl⟩:=g2;exact .dat _ _ (hr j v d g1 hd)
 ·obtain ⟨v,g',rfl,hg⟩:=he;exact ⟨v,rfl,hg.inv.below,freshOut_ok hg.heap hg.rep ho hf⟩

theorem pfun_pure {E:Env} (hx:∀ f G,E.hsum f=some G→E.pure f=false) {n:Nat} {f:FuncId} {args:List PV} (hpf:E.pf f=true) (h:pfun P E n f args H=some (p,H')):H'=H∧(∃ ds,pures H args=some ds)∧∀ H2,pures H2 args=pures H args→pfun P E n f args H2=some (p,H2):=by
 cases n with
 | zero=>simp [pfun] at h
 | succ n =>
  simp only [pfun] at h;simp only [Env.pf,zQ] at hpf;split at h
  ·cases h
  ·rename_i hent;split at h
   ·rename_i G hG;split at h
    ·rename_i F hF;rw [hF] at hpf;simp only [Option.isNone_some,Bool.and_false,j6,or_false] at hpf;exact absurd hpf (by rw [hx f F hF]; simp)
    rename_i hF;split at h
    ·rename_i ds hds;split at h
     ·rename_i v hv;split at h
      ·cases h
      ·rename_i hl;cases h;refine ⟨rfl,⟨ds,hds⟩,fun H2 hl'=>?_⟩;rw [hds] at hl';simp only [pfun,if_neg hent,hG,hF,hl',hv,if_neg hl]
     ·cases h
    ·cases h
   ·rename_i hG;rw [hG] at hpf;simp only [Option.isSome_none,Bool.false_and,j6,or_false] at hpf;rw [if_pos hpf] at h;split at h
    ·rename_i ds hds;split at h
     ·rename_i r H1 hb;split at h
      ·rename_i v hv;split at h
       ·cases h
       ·rename_i hl;cases h;refine ⟨rfl,⟨ds,hds⟩,fun H2 hl'=>?_⟩;rw [hds] at hl';simp only [pfun,if_neg hent,hG,if_pos hpf,hl',hb,hv,if_neg hl]
      ·cases h
     ·cases h
    ·cases h

def HeapCall (P:Program) (f:FuncId) (args:List PV) (H:List Blk) (p:PV) (H':List Blk):Prop :=
 ∀ (B0:Nat) (w0:World) (S0:Nat→Nat→Prop) (g:Gh) (w:World) (vals:Array Value),vals.size=args.length→(∀ (j:Nat) v q,vals[j]? = some v→args[j]? = some q→RepV g H.length w v q) →
  Ql P g B0 H.length H w→Inv B0 w0 S0 g w→GlobRep g w→Calls P f vals w fun e w'=>∃ v g',e=.returned v∧Good P B0 w0 S0 H g w p H' v g' w'
def SummOK (P:Program) (E:Env):Prop:=(∀ f G,E.summ f=some G→∀ ds p,G ds=some p→PureCall P f ds p∧p.out=true) ∧
 ∀ f G,E.hsum f=some G→E.pure f=false∧∀ args H p H',G args H=some (p,H')→HeapCall P f args H p H'

theorem pfun_sound {E:Env} (hsum:SummOK P E) (hmix:P.follows .mixedOrders=true):∀ n,CallOK P E.pf (pfun P E n)
 | 0=>fun f args H p H' h=>by simp [pfun] at h
 | n+1=>fun f args H p H' h=>by
  have ih:=pfun_sound hsum hmix n;have h0:=h;simp only [pfun] at h;split at h
  ·cases h
  ·rename_i hent
   have hen : ∃ fn c, P.funcs[f]? = some fn ∧ fn.body = some c ∧ (fn.name == "runtime.NumGoroutine") = false := by
    have hent:enters P f=true:=by simpa using hent
    unfold enters at hent;split at hent
    ·rename_i fn hf;simp only [jE,Bool.not_eq_true'] at hent;obtain ⟨c,hc⟩:=Option.isSome_iff_exists.1 hent.1;exact ⟨fn,c,hf,hc,hent.2⟩
    ·cases hent
   refine ⟨hen,fun hpf=>?_,fun B0 w0 S0 g w vals hn hr hH hi hglob=>?_⟩
   ·exact pfun_pure (fun f G hG=>(hsum.2 f G hG).1) hpf h0
   split at h
   ·rename_i G hG;split at h
    ·rename_i F hF;exact (hsum.2 f F hF).2 args H p H' h B0 w0 S0 g w vals hn hr hH hi hglob
    split at h
    ·rename_i ds hds;split at h
     ·rename_i v hv;split at h
      ·cases h
      ·rename_i hl;cases h;obtain ⟨h1,h2⟩:=hsum.1 f G hG ds _ hv;exact pure_call h1 h2 hds (fun hl'=>.inl (by simpa [hl'] using hl)) hn hr hH hi hglob
     ·cases h
    ·cases h
   ·split at h
    ·split at h
     ·rename_i ds hds;split at h
      ·rename_i r H1 hb;split at h
       ·rename_i v hv;split at h
        ·cases h
        ·rename_i hl;cases h;obtain ⟨h1,h2⟩:=pure_body ih (draw_ok hmix ih) hb hv;refine pure_call h1 h2 hds (fun hl'=>?_) hn hr hH hi hglob;simp only [hl',Bool.true_and,Bool.not_eq_true,Bool.not_eq_false',zQ] at hl;rcases hl with hl|hl
         ·exact .inl hl
         ·exact .inr (pure_bodyF ih (draw_ok hmix ih) hb hv hl)
       ·cases h
      ·cases h
     ·cases h
    ·exact pbodyS_ok ih (draw_ok hmix ih) h hn hr hH hi hglob

theorem pure_sound {E:Env} (hsum:SummOK P E) (hmix:P.follows .mixedOrders=true) {n:Nat} {f:FuncId} {ds:List Dat} {p:PV} {H':List Blk} (h:pfun P E n f (ds.map .dat) []=some (p,H')) (ho:p.out=true) :
  PureCall P f ds p:=by
 intro w S vals hS hn hr hG;refine ((pfun_sound hsum hmix n f _ [] p H' h).2.2 w.heap.size w S (gS S) w vals (by simpa using hn) (fun j v q g1 g2=>?_) heap_nil ⟨Below.refl _ _,j7 _,fun b o h=>.inl h,hS⟩ hG).mono fun e w' he=>?_
 ·simp only [jD,j5] at g2;obtain ⟨d,hd,rfl⟩:=g2;exact .dat _ _ (hr j v d g1 hd)
 ·obtain ⟨v,g',rfl,hg⟩:=he;refine ⟨v,rfl,hg.inv.below,?_⟩
  have hS':∀ b o,g'.S b o→S b o∨(w.heap.size≤b∧b < w'.heap.size):=fun b o hs=>by
   rcases hg.inv.old b o hs with h|h
   ·exact .inl h
   ·exact .inr ⟨h,hg.inv.lt b o hs⟩
  exact hg.rep.outMono hS' ho

end
end Go.Pm
