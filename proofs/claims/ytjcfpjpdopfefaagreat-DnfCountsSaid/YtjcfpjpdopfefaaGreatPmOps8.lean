/-
 The pure machine: soundness of lists that are appended to and written.
-/
import Derived.Test.YtjcfpjpdopfefaaGreatPmOps7
namespace Go.Pm
open Go Go.RowKit
set_option linter.unusedVariables false
section
variable {P:Program} {B0:Nat} {w0:World} {S0:Nat→Nat→Prop} {g:Gh} {H H':List Blk} {w:World} {p:PV} {o:Oper} {a:Act} {ρ:Operand→PV}

theorem QH {H:List Blk} {t:Nat} {x:TypeId × Nat × List PV} (h:mtOf H t=some x):H[t]? = some (.mt x.1 x.2.1 x.2.2):=by
 simp only [mtOf,jK] at h;obtain ⟨b,h1,h2⟩:=h;rw [h1];cases b with
 | mt e g cs=>simp [Blk.mtOf] at h2; subst h2; rfl
 | box|tok|map|hole=>simp [Blk.mtOf] at h2
theorem own_mt_ok (hH:Ql P g B0 H.length H w) (hi:Inv B0 w0 S0 g w) (e:TypeId) :
  Good P B0 w0 S0 H g w (.ms H.length 0 0 0 0) (H++[.mt e 0 []]) (.slice none 0 0) (g.give H.length (.slice none 0 0) 0) w:=by
 have he:Ext H.length g w (g.give H.length (.slice none 0 0) 0) w:=.giveNew _ _ _ (j7 _);refine ⟨he,by simp,.ms _ _ _ _ _ _ (.slice none 0 0) 0 y7 (by simp [Gh.give]) (j7 _) (fun _=>⟨rfl,.inl rfl⟩) ⟨none,0,rfl,j7 _,j7 _,fun h=>absurd h (jZ _)⟩,?_,⟨hi.below,hi.size,hi.old,hi.lt⟩,Fr.old (j7 _) (fun _ _=>rfl) fun i b h _=>?_⟩
 case refine_2 =>
  rcases occ_snoc_mt h with h|⟨_,h⟩
  ·exact ⟨i,occ_ghost (g:=g) h (fun _ _=>rfl) (fun j hj=>by simp only [Gh.give]; rw [if_neg y5])⟩
  ·simp [Gh.give,mtBlock] at h
 refine Ql.snoc (hH.keep he y7 (j7 _) (fun _ _ _=>rfl) (fun _ _ _ _ h=>h) (fun t ht=>by simp [Gh.give]; omega)) _ (fun cs h=>by cases h) (fun e' n h=>by cases h) (fun i b h h2=>?_) (fun e' n cs h=>?_) (hmt0:=fun _ _ _=>⟨.slice none 0 0,by simp [Gh.give],rfl⟩)
 ·rw [occ_mt (e:=e) (n:=0) (cs:=[]) y7] at h2;simp [Gh.give,mtBlock] at h2
 ·cases h; exact ⟨.slice none 0 0,by simp [Gh.give],.inl ⟨rfl,.inl rfl⟩⟩
theorem assign_mt_ok {e:TypeId} (ho:o.op=.assign (.const (.slice none 0 0))) (hH:Ql P g B0 H.length H w) (hi:Inv B0 w0 S0 g w) :
  ∃ v g' w',OpRes P o a w v w'∧Good P B0 w0 S0 H g w (.ms H.length 0 0 0 0) (H++[.mt e 0 []]) v g' w' :=
 ⟨_,_,w,.inl (by simp [execOp,ho,Act.eval]),own_mt_ok hH hi e⟩

theorem indexAddr_ms_ok {t e:TypeId} {x ix:Operand} {k:IntKind} {n:Int} {tt gg lo len cap size:Nat} (ho:o.op=.indexAddr t x ix) (he:elemOfSlice P t=some e) (hs:szOf P e=some size)
  (hix:ρ ix=.dat (.raw (.int k n))) (hx:ρ x=.ms tt gg lo len cap) (h0:0≤n) (hd:n.toNat < len)
  (hH:Ql P g B0 H.length H w) (hi:Inv B0 w0 S0 g w) (hρ:∀ x,RepV g H.length w (a.eval x) (ρ x)) :
  ∃ v g' w',OpRes P o a w v w'∧Good P B0 w0 S0 H g w (.mp tt gg (lo+stepN size n.toNat)) H v g' w':=by
 have hstep:stepN size n.toNat=n.toNat * size:=by
  unfold stepN;split
  ·rename_i h; rw [h,Nat.mul_one]
  ·rfl
 rw [hstep];have hi':=int_rep (by rw [← hix]; exact hρ ix);have hr:=hρ x;rw [hx] at hr;generalize hv:a.eval x=v at hr;cases hr with
 | ms t' gg' lo' len' cp v v0 m h1 h2 h3 h4 h5 =>
  obtain ⟨ad,c,rfl,h6,h8,h7⟩:=h5;obtain ⟨ad,rfl⟩:=Option.isSome_iff_exists.1 (h7 y5);have hlt:n < (len:Int):=by omega
  refine ⟨.pointer (some (ad.add (n.toNat * size))),g,w,.inl ?_,.same hH hi (.mp _ _ _ _ v0 m h1 h2 h3 (fun e'=>?_) ⟨_,rfl⟩)⟩
  ·simp [execOp,ho,Instr.indexAt,run_underlying (Qx he),hi',hv,asIntOf,h0,hlt,run_szOf hs]
  ·obtain ⟨hvv,hb⟩:=h4 e';rcases hb with rfl|⟨a0,rfl⟩|⟨b,l,cc,rfl⟩
   ·simp [subOf] at hvv
   ·simp [subOf] at hvv; omega
   ·simp only [subOf,Value.slice.injEq,j9] at hvv;obtain ⟨rfl,_,_⟩:=hvv;refine ⟨b,l,cc,rfl,?_⟩;simp [add_lit]

theorem MulOK.not_flat {e:TypeId} {cs:List PV} {v0:Value} (h:MulOK P g B0 w e cs v0) (j:Nat):¬ cs[j]?.map PV.flat=some true:=fun hf=>by
 obtain ⟨b,n,cap,cur,size,ds,rfl,h0,h1,h2,h3,h3',rfl,h4',_⟩:=h;rw [jD,Option.map_map,j5] at hf;obtain ⟨d,hd,hf⟩:=hf;have:=fits_num (List.all_eq_true.1 h4' d (jF hd));cases d with
 | agg=>simp [PV.flat] at hf
 | raw=>simp [Dat.num] at this; omega
 | lst=>simp [Dat.num] at this; omega
theorem MulOK.size_ne {e:TypeId} {cs:List PV} {v0:Value} (h:MulOK P g B0 w e cs v0):szOf P e≠some 1:=fun hf=>by
 obtain ⟨b,n,cap,cur,size,ds,rfl,h0,h1,h2,h3,h3',_⟩:=h;rw [h3] at hf; cases hf; omega
theorem MulOK.pos {e:TypeId} {cs:List PV} {v0:Value} (h:MulOK P g B0 w e cs v0):mtBlock v0≠none:=fun hf=>by
 obtain ⟨b,n,cap,cur,size,ds,rfl,h0,_⟩:=h;simp [mtBlock] at hf; omega
theorem flat_of_cell {p:PV} (h:p.cell=true):p.flat=true:=by
 cases p with
 | dat d=>cases d <;> first|rfl|(simp [PV.cell] at h)
 | _=>rfl
theorem flat_set {cs:List PV} (h:cs.all PV.flat=true) {p:PV} (hp:p.flat=true) (j:Nat):(cs.set j p).all PV.flat=true:=by
 rw [j8] at h ⊢;intro x hx;rcases List.mem_or_eq_of_mem_set hx with hx|rfl
 ·exact h x hx
 ·exact hp
theorem flat_of_cells {cs:List PV} (h:cs.all PV.cell=true):cs.all PV.flat=true:=by
 rw [j8] at h ⊢;exact fun x hx=>flat_of_cell (h x hx)
theorem flat_take {cs:List PV} (h:cs.all PV.flat=true) (n:Nat):(cs.take n).all PV.flat=true:=by
 rw [j8] at h ⊢;exact fun x hx=>h x (zP hx)
theorem flat_drop {cs:List PV} (h:cs.all PV.flat=true) (n:Nat):(cs.drop n).all PV.flat=true:=by
 rw [j8] at h ⊢;exact fun x hx=>h x (List.mem_of_mem_drop hx)
theorem load_mp_ok {t:TypeId} {x:Operand} {te:TypeId} {cs ds:List PV} {n tt gg j:Nat} {ag:Bool} {p:PV} (ho:o.op=.load t x) (hx:ρ x=.mp tt gg j) (hb:H[tt]? = some (.mt te gg cs)) (hg:aggT P t=some ag) (hn:szOf P t=some n) (hn1:n=1) (hfl:cs[j]?.map PV.flat=some true)
  (hc:cut cs j n=some ds) (hd:ofCells ag ds=some p) (hH:Ql P g B0 H.length H w) (hi:Inv B0 w0 S0 g w) (hρ:∀ x,RepV g H.length w (a.eval x) (ρ x)) :
  ∃ v g' w',OpRes P o a w v w'∧Good P B0 w0 S0 H g w p H v g' w':=by
 obtain ⟨c1,c2,c3⟩:=cut_some hc;have h:=hρ x;rw [hx] at h;generalize hv:a.eval x=v at h;cases h with
 | mp t' gg' j' v v0 m h1 h2 h3 h4 h5 =>
  obtain ⟨v1,k1,k2⟩:=hH.mt tt _ _ _ hb;rw [h2] at k1;simp only [j9,jI] at k1;obtain ⟨rfl,rfl⟩:=k1;obtain ⟨b,l,cap,e1,rfl⟩:=h4 rfl;rcases k2 with ⟨rfl,hnil⟩|⟨b',l',cap',cur,rfl,q0,q1,q2,q3,q4,q5,q6,q7,q8⟩|hmul
  rotate_right
  ·exact absurd hfl (hmul.not_flat j)
  ·simp at c2; omega
  ·simp only [Value.slice.injEq,j9,Addr.mk.injEq] at e1;obtain ⟨⟨rfl,_,_⟩,_,_⟩:=e1
   have hget:∀ (q:Nat) u,((cur.toList.drop j).take n)[q]? = some u→q < n∧cur[j+q]? = some u:=fun q u hu=>by
    rw [jR] at hu;split at hu
    ·exact ⟨by assumption,by simpa using hu⟩
    ·cases hu
   obtain ⟨p1,p2⟩:=RepV.ofCells (g:=g) (w:=w) (N:=H.length) (us:=(cur.toList.drop j).take n) (n:=n) y6 c1 (fun q v c g1 g2=>by
    obtain ⟨hj,hv⟩:=hget q v g1;rw [c3 q hj] at g2;exact q8 _ v c hv g2) hd
   have hr:=run_loadVar_cells (P:=P) (w:=w) (b:=b') (off:=j) ((cur.toList.drop j).take n) hg hn y6 p1 (fun q u hu=>by
    rw [cell_of_row w _ _ cur _ (0,0) q2]; exact (hget q u hu).2)
   exact ⟨_,g,w,.inl (by simp only [execOp,ho,hv]; simp [Instr.loadAt,Instr.sureAddr,hr]),.same hH hi p2⟩

theorem cell_one {v:Value} {p:PV} {N:Nat} (h:RepV g N w v p) (hp:p.cell=true):v.cells=#[v]∧p.cells=[p]:=by
 have h1:=one_of_cell h hp;refine ⟨?_,?_⟩
 ·cases v <;> first|rfl|(simp [Value.oneCell'] at h1)
 ·cases p with
  | dat d=>cases d <;> first|rfl|(simp [PV.cell] at hp)
  | agg|tup|undef=>simp [PV.cell] at hp
  | _=>rfl
theorem store_mp_ok {t:TypeId} {x y:Operand} {te:TypeId} {cs:List PV} {tt gg j:Nat} (ho:o.op=.store t x y) (hx:ρ x=.mp tt gg j) (hb:H[tt]? = some (.mt te gg cs)) (hn:szOf P t=some 1)
  (hcell:(ρ y).cell=true) (hj':cs[j]?.map PV.flat=some true) (hH:Ql P g B0 H.length H w) (hi:Inv B0 w0 S0 g w) (hρ:∀ x,RepV g H.length w (a.eval x) (ρ x)) :
  ∃ v g' w',OpRes P o a w v w'∧Good P B0 w0 S0 H g w (.tup []) (H.set tt (.mt te gg (cs.set j (ρ y)))) v g' w':=by
 have h:=hρ x;rw [hx] at h;generalize hv:a.eval x=v at h;have hlt:tt < H.length:=(List.getElem?_eq_some_iff.1 hb).1
 have hj:j < cs.length:=by
  rw [j5] at hj';obtain ⟨_,h,_⟩:=hj';exact (List.getElem?_eq_some_iff.1 h).1
 cases h with
 | mp t' gg' j' v v0 m h1 h2 h3 h4 h5 =>
  obtain ⟨v1,k1,k2⟩:=hH.mt tt _ _ _ hb;have hown:=h2;rw [h2] at k1;simp only [j9,jI] at k1;obtain ⟨rfl,rfl⟩:=k1;obtain ⟨b,l,cap,e1,rfl⟩:=h4 rfl;rcases k2 with ⟨rfl,hnil⟩|⟨b',l',cap',cur,rfl,q0,q1,q2,q3,q4,q5,q6,q7,q8⟩|hmul
  rotate_right
  ·exact absurd hj' (hmul.not_flat j)
  ·simp at hj
  ·simp only [Value.slice.injEq,j9,Addr.mk.injEq] at e1;obtain ⟨⟨rfl,_,_⟩,rfl,rfl⟩:=e1;have hocc:occ g H tt=some b':=by rw [occ_mt hb,hown]; simp [mtBlock]; omega
   obtain ⟨y1,y2⟩:=cell_one (hρ y) hcell;have hone:=one_of_cell (hρ y) hcell;have hst:=run_storeCells_at P b' j te [a.eval y] 0 cur w q2 y6 (by simpa using hone);simp only [zV] at hst;generalize hnew:(cur.toList.take j++[a.eval y]++cur.toList.drop (j+[a.eval y].length))=new at hst
   have hget:∀ q,new[q]? = if q < j then cur[q]? else if q < j+1 then [a.eval y][q - j]? else cur[q]?:=fun q=>by
    rw [← hnew,pasted_get _ _ _ y6];simp
   have hheap:(w.setRow b' new.toArray).heap[b']? = some (.cells new.toArray te (0,0)):=setRow_heap w _ _ _ _ _ q2
   have he:Ext H.length g w g (w.setRow b' new.toArray):=⟨fun _ _ h=>h,fun b o' hs=>cell_setRow_other w _ _ _ (fun e=>by
    simp only at e; subst e; exact q7 o' hs),fun _ _ h=>⟨rfl,h⟩,fun _ _ v n h=>⟨v,n,h,j7 _,fun _=>rfl⟩⟩
   refine ⟨undef,g,_,.inr ⟨?_,rfl⟩,he,by simp,.tup _ _ rfl (fun j v c h=>by simp at h),?_,⟨?_,by simp; exact hi.size,hi.old,fun b o' hs=>by simp; exact hi.lt b o' hs⟩,⟨by simp,fun b _ hn=>setRow_other w _ _ _ (fun e=>hn tt (by rw [hocc,e])),fun i b hi' _=>?_,fun b o h=>.inl h⟩⟩
   ·simp only [execOp,ho,hv];simp [Instr.storeAt,Instr.sureAddr,storeVar,y1,run_szOf hn,hst]
   ·refine hH.turn he y7 (j7 _) _ hlt (fun i b hik hb'=>setRow_other w _ _ _ (fun e=>hik (hH.sep i tt b hb' (by rw [hocc,e]))))
     (fun _ _ _ _ _ h=>h) (fun _ _ _=>rfl) (fun cs' hc=>by cases hc) (fun _ _ h=>by cases h) (fun i b hik hb' h=>?_) (fun e' n' cs' hc=>?_) (hmt0:=fun _ _ hc=>by cases hc; exact hH.mt0 _ _ _ hb)
    ·rw [occ_mt (e:=te) (n:=m) (cs:=cs.set j (ρ y)) (by simp [hlt]),hown] at h;simp [mtBlock] at h;obtain ⟨_,rfl⟩:=h;exact hik (hH.sep i _ _ hb' hocc)
    ·cases hc;have hns:new.toArray.size=cur.size:=by rw [← hnew]; simp; omega
     refine ⟨_,hown,.inr (.inl ⟨b',l',cap',new.toArray,rfl,q0,q1,hheap,by rw [hns]; exact q3,⟨by rw [hns]; simpa using q4.1,flat_set q4.2 (flat_of_cell hcell) j⟩,q5,by rw [hns]; exact q6,q7,fun q u c g1 g2=>?_⟩)⟩;simp only [List.getElem?_toArray] at g1;rw [hget] at g1;rw [zC] at g2;by_cases hq:j=q
     ·subst hq;rw [if_neg (jZ _),if_pos y5,Nat.sub_self] at g1;rw [if_pos rfl,if_pos hj] at g2;simp at g1 g2;subst g1; subst g2;exact (hρ y).ext he y7
     ·rw [if_neg hq] at g2
      have:cur[q]? = some u:=by
       split at g1
       ·exact g1
       ·split at g1
        ·omega
        ·exact g1
      exact (q8 q u c this g2).ext he y7
   ·exact below_setRow hi.below q1 _
   ·rcases occ_set_mt hlt hi' with ⟨_,h⟩|⟨rfl,h⟩
    ·exact ⟨i,h⟩
    ·exact ⟨i,by rw [occ_mt hb]; exact h⟩

theorem fits_take {size:Nat} {ds:List Dat} (h:ds.all (Dat.fits size)=true) (n:Nat):(ds.take n).all (Dat.fits size)=true:=by
 rw [j8] at h ⊢;exact fun x hx=>h x (zP hx)
theorem MulOK.take {e:TypeId} {cs:List PV} {v0:Value} (h:MulOK P g B0 w e cs v0) (n:Nat):MulOK P g B0 w e (cs.take n) v0:=by
 obtain ⟨b,n',cap,cur,size,ds,rfl,h0,h1,h2,h3,h3',rfl,h4',h4'',h5,h6,h7,h8⟩:=h;refine ⟨b,n',cap,cur,size,ds.take n,rfl,h0,h1,h2,h3,h3',by rw [List.map_take],fits_take h4' n,by rw [zT]; omega,h5,h6,h7,fun i j d u v a1 a2 a3=>?_⟩;rw [jR] at a1;split at a1
 ·exact h8 i j d u v a1 a2 a3
 ·cases a1
theorem trim_ok {te:TypeId} {cs:List PV} {tt gg n:Nat} (hb:H[tt]? = some (.mt te gg cs)) (hH:Ql P g B0 H.length H w) (hi:Inv B0 w0 S0 g w) :
  Good P B0 w0 S0 H g w (.tup []) (H.set tt (.mt te gg (cs.take n))) undef g w:=by
 have hlt:tt < H.length:=(List.getElem?_eq_some_iff.1 hb).1;obtain ⟨v1,k1,k2⟩:=hH.mt tt _ _ _ hb;have he:Ext H.length g w g w:=Ext.refl _ _ _;refine ⟨he,by simp,.tup _ _ rfl (fun j v c h=>by simp at h),?_,hi,⟨j7 _,fun _ _ _=>rfl,fun i b hi' _=>?_,fun b o h=>.inl h⟩⟩
 ·rw [zR]
  refine hH.turn he (j7 _) (j7 _) _ hlt (fun _ _ _ _=>rfl)
   (fun _ _ _ _ _ h=>h) (fun _ _ _=>rfl) (fun cs' hc=>by cases hc) (fun _ _ h=>by cases h) (fun i b hik hb' h=>?_) (fun e' n' cs' hc=>?_) (hmt0:=fun _ _ hc=>by cases hc; exact hH.mt0 _ _ _ hb)
  ·rw [occ_mt (e:=te) (n:=gg) (cs:=cs.take n) (by simp [hlt]),← occ_mt hb] at h;exact hik (hH.sep i _ _ hb' h)
  ·cases hc;refine ⟨v1,k1,?_⟩;rcases k2 with ⟨rfl,hnil⟩|⟨b',l',cap',cur,rfl,q0,q1,q2,q3,q4,q5,q6,q7,q8⟩|hmul
   ·exact .inl ⟨by simp,hnil⟩
   ·refine .inr (.inl ⟨b',l',cap',cur,rfl,q0,q1,q2,q3,⟨by rw [zT]; omega,flat_take q4.2 n⟩,q5,q6,q7,fun q u c g1 g2=>?_⟩);rw [jR] at g2;split at g2
    ·exact q8 q u c g1 g2
    ·cases g2
   ·exact .inr (.inr (hmul.take n))
 ·rcases occ_set_mt hlt hi' with ⟨_,h⟩|⟨rfl,h⟩
  ·exact ⟨i,h⟩
  ·exact ⟨i,by rw [occ_mt hb]; exact h⟩

theorem lenPV_rep' {N:Nat} {v:Value} {p:PV} {n:Nat} (h:RepV g N w v p) (hn:lenPV p=some n):∃ ad cap,v=.slice ad n cap∧n≤cap∧(ad=none→cap=0):=by
 have lst:∀ {v:Value} {es:List Dat},RepD w g.S v (.lst es)→∃ ad cap,v=.slice ad es.length cap∧es.length≤cap∧(ad=none→cap=0):=fun h=>by
  cases h with
  | nil=>exact ⟨none,0,rfl,j7 _,fun _=>rfl⟩
  | empty a cap=>exact ⟨some a,cap,rfl,zN _,fun h=>by cases h⟩
  | lst b off len cap k es c h1 h2=>exact ⟨_,cap,by rw [h1],by omega,fun h=>by cases h⟩
 cases h with
 | dat v d h =>
  cases d with
  | lst es=>simp [lenPV] at hn; subst hn; exact lst h
  | _=>simp [lenPV] at hn
 | vec v t es v0 n' h1 h2=>simp [lenPV] at hn; subst hn; exact lst h2
 | arr i o len cap h h'=>simp [lenPV] at hn; subst hn; exact ⟨_,_,rfl,h',fun h=>by cases h⟩
 | empv b v h1 h2 =>
  simp [lenPV] at hn; subst hn;cases b with
  | true=>exact ⟨none,0,h1 rfl,j7 _,fun _=>rfl⟩
  | false=>obtain ⟨a,cap,rfl⟩:=h2 rfl; exact ⟨_,_,rfl,zN _,fun h=>by cases h⟩
 | ms _ _ _ _ _ _ _ _ _ _ _ _ h5=>simp [lenPV] at hn; subst hn; obtain ⟨a,c,rfl,_,h,h6⟩:=h5; exact ⟨_,_,rfl,h,fun e=>by subst e; cases c with|zero=>rfl|succ c=>simp at h6⟩
 | _=>simp [lenPV] at hn

theorem args_two {args:Array Operand} {s x:PV} (h:args.toList.map ρ=[s,x]):∃ s' x',args=#[s',x']∧s=ρ s'∧x=ρ x':=by
 obtain ⟨l⟩:=args
 match l,h with
 | [s',x'],h=>simp at h; exact ⟨s',x',rfl,h.1.symm,h.2.symm⟩
theorem args_one {args:Array Operand} {s:PV} (h:args.toList.map ρ=[s]):∃ s',args=#[s']∧s=ρ s':=by
 obtain ⟨l⟩:=args
 match l,h with
 | [s'],h=>simp at h; exact ⟨s',rfl,h.symm⟩
theorem run_bounds3 {len cap l h m:Nat} {lo:Option Operand} {hi mx:Operand} (hlo:bndOf ρ 0 lo=some l) (hhi:natOf (ρ hi)=some h) (hmx:natOf (ρ mx)=some m) (h1:l≤h) (h2:h≤m) (h3:m≤cap)
  (hρ:∀ x,RepV g H.length w (a.eval x) (ρ x)):(Instr.sliceBounds true len cap (lo.map a.eval) (some (a.eval hi)) (some (a.eval mx))).run P w=.ok (l,h,m) w:=by
 obtain ⟨k1,e1⟩:=natOf_rep (hρ hi) hhi;obtain ⟨k2,e2⟩:=natOf_rep (hρ mx) hmx;unfold Instr.sliceBounds;cases lo with
 | none=>simp [bndOf] at hlo; subst hlo; simp [run_bound (P:=P) .slice3Acap e2 h3 w,run_bound (P:=P) .slice3B e1 h2 w]
 | some lo =>
  obtain ⟨k3,e3⟩:=natOf_rep (hρ lo) hlo;simp [run_bound (P:=P) .slice3Acap e2 h3 w,run_bound (P:=P) .slice3B e1 h2 w,run_bound (P:=P) .slice3C e3 h1 w]

theorem own_mt_at (hH:Ql P g B0 H.length H w) (hi:Inv B0 w0 S0 g w) (e:TypeId) (ad:Option Addr) :
  ∃ g',Good P B0 w0 S0 H g w (.ms H.length 0 0 0 0) (H++[.mt e 0 []]) (.slice ad 0 0) g' w:=by
 have hb:base0 (.slice ad 0 0):=by cases ad with|none=>exact .inl rfl|some a=>exact .inr (.inl ⟨a,rfl⟩)
 have hs:Value.slice ad 0 0=subOf (.slice ad 0 0) 0 0:=by cases ad with|none=>rfl|some a=>simp [subOf,Addr.add]
 have hm:mtBlock (.slice ad 0 0)=none:=by cases ad <;> simp [mtBlock]
 have he:Ext H.length g w (g.give H.length (.slice ad 0 0) 0) w:=.giveNew _ _ _ (j7 _);refine ⟨_,he,by simp,.ms _ _ _ _ _ _ (.slice ad 0 0) 0 y7 (by simp [Gh.give]) (j7 _) (fun _=>⟨hs,hb⟩) ⟨ad,0,rfl,j7 _,j7 _,fun h=>absurd h (jZ _)⟩,?_,⟨hi.below,hi.size,hi.old,hi.lt⟩,Fr.old (j7 _) (fun _ _=>rfl) fun i b h _=>?_⟩
 case refine_2 =>
  rcases occ_snoc_mt h with h|⟨_,h⟩
  ·exact ⟨i,occ_ghost (g:=g) h (fun _ _=>rfl) (fun j hj=>by simp only [Gh.give]; rw [if_neg y5])⟩
  ·simp [Gh.give,hm] at h
 refine Ql.snoc (hH.keep he y7 (j7 _) (fun _ _ _=>rfl) (fun _ _ _ _ h=>h) (fun t ht=>by simp [Gh.give]; omega)) _ (fun cs h=>by cases h) (fun e' n h=>by cases h) (fun i b h h2=>?_) (fun e' n cs h=>?_) (hmt0:=fun _ _ _=>⟨.slice ad 0 0,by simp [Gh.give],hm⟩)
 ·rw [occ_mt (e:=e) (n:=0) (cs:=[]) y7] at h2;simp [Gh.give,hm] at h2
 ·cases h;refine ⟨.slice ad 0 0,by simp [Gh.give],.inl ⟨rfl,?_⟩⟩;cases ad with|none=>exact .inl rfl|some a=>exact .inr ⟨a,rfl⟩

theorem slice3_run {t e:TypeId} {x:Operand} {lo:Option Operand} {hi mx:Operand} {n l h m:Nat} (ho:o.op=.slice t x lo (some hi) (some mx)) (he:elemOfSlice P t=some e) (hsz:(szOf P e).isSome)
  (hx:lenPV (ρ x)=some n) (hlo:bndOf ρ 0 lo=some l) (hhi:natOf (ρ hi)=some h) (hmx:natOf (ρ mx)=some m) (h1:l≤h) (h2:h≤m) (h3:m≤n)
  (hρ:∀ x,RepV g H.length w (a.eval x) (ρ x)):∃ ad,OpRes P o a w (.slice ad (h - l) (m - l)) w∧(ad=none→m - l=0):=by
 obtain ⟨ad,cap,hv,hc,hn⟩:=lenPV_rep' (hρ x) hx;obtain ⟨size,hsz⟩:=Option.isSome_iff_exists.1 hsz;have hb:=run_bounds3 (P:=P) (len:=n) (cap:=cap) hlo hhi hmx h1 h2 y5 hρ
 exact ⟨_,.inl (by simp [execOp,ho,Instr.sliceAt,Instr.slice,run_underlying (Qx he),hv,hb,run_szOf hsz]; rfl),fun e=>by
  have:ad=none:=by split at e <;> first|exact e|exact (Option.map_eq_none_iff.1 e)
  have:=hn this;omega⟩

theorem slice_ms_ok {t e:TypeId} {x:Operand} {lo hi:Option Operand} {tt gg l0 len cap:Nat} (ho:o.op=.slice t x lo hi none) (he:elemOfSlice P t=some e) (hsz:szOf P e=some 1∨((szOf P e).isSome=true∧lo.isNone=true))
  (hx:ρ x=.ms tt gg l0 len cap) (hp:cutMs ρ lo hi tt gg l0 len cap=some p)
  (hH:Ql P g B0 H.length H w) (hi':Inv B0 w0 S0 g w) (hρ:∀ x,RepV g H.length w (a.eval x) (ρ x)) :
  ∃ v g' w',OpRes P o a w v w'∧Good P B0 w0 S0 H g w p H v g' w':=by
 have hr:=hρ x;rw [hx] at hr;generalize hv:a.eval x=v at hr;unfold cutMs at hp;split at hp
 ·rename_i l h hlo hhi;split at hp
  ·rename_i hc;obtain ⟨hlh,hhc⟩:=hc;cases hr with
   | ms _ _ _ _ _ v v0 m k1 k2 k3 k4 k5 =>
    obtain ⟨ad,c,rfl,k6,k7,k8⟩:=k5
    have hb:(Instr.sliceBounds true len c (lo.map a.eval) (hi.map a.eval) none).run P w=.ok (l,h,c) w:=by
     have hhc':h≤c:=by omega
     unfold Instr.sliceBounds;cases hi with
     | none =>
      cases lo with
      | none=>simp [bndOf] at hlo hhi; subst hlo hhi; simp
      | some lo =>
       obtain ⟨k,hk⟩:=natOf_rep (hρ lo) hlo;simp [bndOf] at hhi; subst hhi;simp [run_bound (P:=P) .sliceB hk hlh w]
     | some hi =>
      obtain ⟨k',hk'⟩:=natOf_rep (hρ hi) hhi;cases lo with
      | none=>simp [bndOf] at hlo; subst hlo; simp [run_bound (P:=P) .sliceAcap hk' hhc' w]
      | some lo =>
       obtain ⟨k,hk⟩:=natOf_rep (hρ lo) hlo;simp [run_bound (P:=P) .sliceB hk hlh w,run_bound (P:=P) .sliceAcap hk' hhc' w]
    have hrun:OpRes P o a w (.slice (if c=l then ad else ad.map (·.add (l * 1))) (h - l) (c - l)) w:=by
     rcases hsz with hsz|⟨hsz,hlo0⟩
     ·exact .inl (by simp [execOp,ho,Instr.sliceAt,Instr.slice,run_underlying (Qx he),hv,hb,run_szOf hsz])
     ·obtain ⟨size,hsz⟩:=Option.isSome_iff_exists.1 hsz;cases lo with
      | some y=>cases hlo0
      | none =>
       have hl0:l=0:=by simpa [bndOf] using hlo.symm
       subst hl0;simp only [Option.map_none] at hb;exact .inl (by simp [execOp,ho,Instr.sliceAt,Instr.slice,run_underlying (Qx he),hv,hb,run_szOf hsz])
    refine ⟨_,g,w,hrun,.same hH hi' ?_⟩;cases hp;by_cases hz:l=0∨l < h
    ·rw [if_pos hz]
     have hv':(if c=l then ad else ad.map (·.add (l * 1)))=ad.map (·.add l):=by
      split
      ·rename_i e
       have:l=0:=by omega
       subst this;cases ad <;> simp [Addr.add]
      ·simp
     rw [hv'];refine .ms _ _ _ _ _ _ v0 m k1 k2 k3 (fun e'=>?_) ⟨_,_,rfl,by omega,by omega,fun hl=>by simp; exact k8 y5⟩;obtain ⟨q1,q2⟩:=k4 e';refine ⟨?_,q2⟩;rcases q2 with rfl|⟨a0,rfl⟩|⟨b,l',cc,rfl⟩
     ·simp [subOf] at q1;obtain ⟨rfl,rfl,rfl⟩:=q1;simp [subOf]; omega
     ·simp [subOf] at q1;obtain ⟨rfl,rfl,rfl⟩:=q1
      have:l=0∧h=0:=by omega
      obtain ⟨rfl,rfl⟩:=this;simp [subOf,Addr.add]
     ·simp [subOf] at q1;obtain ⟨rfl,rfl⟩:=q1;simp [subOf,add_lit];omega
    ·rw [if_neg hz]
     have:h - l=0:=by omega
     rw [this];refine .dat _ _ ?_;have hc:0 < c:=by omega
     obtain ⟨a0,rfl⟩:=Option.isSome_iff_exists.1 (k8 hc);split <;> exact .empty _ _
  ·cases hp
 ·cases hp


theorem mt_write {tt te gg lo b l0 cap0:Nat} {cs es:List PV} {news:List Value} {cur:Array Value} {v0:Value} (hb:H[tt]? = some (.mt te gg cs)) (hown:g.own tt=some (v0,gg)) (hv0:v0=.slice (some ⟨b,0,none⟩) l0 cap0)
  (q0:0 < cap0) (q1:B0≤b) (q2:w.heap[b]? = some (.cells cur te (0,0))) (q3:∃ size,szOf P te=some size∧0 < size∧cur.size=cap0 * size) (q4:cs.length≤cur.size∧cs.all PV.flat=true) (q5:cap0≤maxLen) (q6:cap0≤cur.size) (q7:∀ o,¬ g.S b o)
  (q8:∀ (j:Nat) v c,cur[j]? = some v→cs[j]? = some c→RepV g H.length w v c)
  (hlen:news.length=es.length) (hef:es.all PV.flat=true) (hroom:lo+es.length≤cs.length) (hrep:∀ (j:Nat) u c,news[j]? = some u→es[j]? = some c→RepV g H.length w u c)
  (hH:Ql P g B0 H.length H w) (hi:Inv B0 w0 S0 g w) {v:Value} {p:PV} (hv:RepV g H.length w v p) :
  Good P B0 w0 S0 H g w p (H.set tt (.mt te gg (cs.take lo++es++cs.drop (lo+es.length)))) v g (w.setRow b (cur.toList.take lo++news++cur.toList.drop (lo+news.length)).toArray):=by
 subst hv0;have hlt:tt < H.length:=(List.getElem?_eq_some_iff.1 hb).1;have hocc:occ g H tt=some b:=by rw [occ_mt hb,hown]; simp [mtBlock]; omega
 have hsz:lo+news.length≤cur.toList.length:=by simp; omega
 generalize hnew:(cur.toList.take lo++news++cur.toList.drop (lo+news.length))=new
 have hget:∀ q,new[q]? = if q < lo then cur[q]? else if q < lo+news.length then news[q - lo]? else cur[q]?:=fun q=>by
  rw [← hnew,pasted_get _ _ _ hsz];simp
 have hgetc:∀ q,(cs.take lo++es++cs.drop (lo+es.length))[q]? = if q < lo then cs[q]? else if q < lo+es.length then es[q - lo]? else cs[q]?:=fun q=>pasted_get _ _ _ hroom q
 have hcl:(cs.take lo++es++cs.drop (lo+es.length)).length=cs.length:=by simp; omega
 have hcf:(cs.take lo++es++cs.drop (lo+es.length)).all PV.flat=true:=by rw [zO,zO,flat_take q4.2,hef,flat_drop q4.2]; rfl
 generalize (cs.take lo++es++cs.drop (lo+es.length))=cs' at hgetc hcl hcf;have hheap:(w.setRow b new.toArray).heap[b]? = some (.cells new.toArray te (0,0)):=setRow_heap w _ _ _ _ _ q2
 have he:Ext H.length g w g (w.setRow b new.toArray):=⟨fun _ _ h=>h,fun b o' hs=>cell_setRow_other w _ _ _ (fun e=>by
  simp only at e; subst e; exact q7 o' hs),fun _ _ h=>⟨rfl,h⟩,fun _ _ v n h=>⟨v,n,h,j7 _,fun _=>rfl⟩⟩
 refine ⟨he,by simp,hv.ext he y7,?_,⟨?_,by simp; exact hi.size,hi.old,fun b o' hs=>by simp; exact hi.lt b o' hs⟩,⟨by simp,fun b _ hn=>setRow_other w _ _ _ (fun e=>hn tt (by rw [hocc,e])),fun i b hi' _=>?_,fun b o h=>.inl h⟩⟩
 ·refine hH.turn he y7 (j7 _) _ hlt (fun i b hik hb'=>setRow_other w _ _ _ (fun e=>hik (hH.sep i tt b hb' (by rw [hocc,e]))))
   (fun _ _ _ _ _ h=>h) (fun _ _ _=>rfl) (fun cs' hc=>by cases hc) (fun _ _ h=>by cases h) (fun i b hik hb' h=>?_) (fun e' n' cs' hc=>?_) (hmt0:=fun _ _ hc=>by cases hc; exact hH.mt0 _ _ _ hb)
  ·rw [occ_mt (e:=te) (n:=gg) (cs:=cs') (by simp [hlt]),hown] at h;simp [mtBlock] at h;obtain ⟨_,rfl⟩:=h;exact hik (hH.sep i _ _ hb' hocc)
  ·cases hc;have hns:new.toArray.size=cur.size:=by rw [← hnew]; simp; simp at hsz; omega
   refine ⟨_,hown,.inr (.inl ⟨b,l0,cap0,new.toArray,rfl,q0,q1,hheap,by rw [hns]; exact q3,⟨by omega,hcf⟩,q5,by omega,q7,fun q u c g1 g2=>?_⟩)⟩;simp only [List.getElem?_toArray] at g1;rw [hget] at g1;rw [hgetc] at g2
   have:RepV g H.length w u c:=by
    by_cases c1:q < lo
    ·rw [if_pos c1] at g1 g2; exact q8 q u c g1 g2
    ·rw [if_neg c1] at g1 g2;by_cases c2:q < lo+es.length
     ·rw [if_pos y5] at g1; rw [if_pos c2] at g2; exact hrep _ u c g1 g2
     ·rw [if_neg y5] at g1; rw [if_neg c2] at g2; exact q8 q u c g1 g2
   exact this.ext he y7
 ·exact below_setRow hi.below q1 _
 ·rcases occ_set_mt hlt hi' with ⟨_,h⟩|⟨rfl,h⟩
  ·exact ⟨i,h⟩
  ·exact ⟨i,by rw [occ_mt hb]; exact h⟩

theorem mt_growG {tt te gg b l0 cap0 size L:Nat} {cs es:List PV} {news:List Value} {cur:Array Value} {v0:Value} (hb:H[tt]? = some (.mt te gg cs)) (hown:g.own tt=some (v0,gg)) (hv0:v0=.slice (some ⟨b,0,none⟩) l0 cap0)
  (q0:0 < cap0) (q1:B0≤b) (q2:w.heap[b]? = some (.cells cur te (0,0))) (q3:szOf P te=some size) (hsp:0 < size) (hL:L * size=cs.length+es.length) (q4:cs.all PV.flat=true) (q5:cap0≤maxLen) (q6:cur.size=cap0 * size) (q7:∀ o,¬ g.S b o)
  (q8:∀ (j:Nat) v c,cur[j]? = some v→cs[j]? = some c→RepV g H.length w v c)
  (hlen:news.length=es.length) (hef:es.all PV.flat=true) (hroom:L≤cap0) (hrep:∀ (j:Nat) u c,news[j]? = some u→es[j]? = some c→RepV g H.length w u c)
  (hH:Ql P g B0 H.length H w) (hi:Inv B0 w0 S0 g w) :
  ∃ g',Good P B0 w0 S0 H g w (.ms tt (gg+1) 0 L L) (H.set tt (.mt te (gg+1) (cs++es))) (.slice (some ⟨b,0,none⟩) L cap0) g' (w.setRow b (cur.toList.take cs.length++news++cur.toList.drop (cs.length+news.length)).toArray):=by
 subst hv0;have hlt:tt < H.length:=(List.getElem?_eq_some_iff.1 hb).1;have hocc:occ g H tt=some b:=by rw [occ_mt hb,hown]; simp [mtBlock]; omega
 have hLc:L * size≤cap0 * size:=Nat.mul_le_mul_right _ hroom;have hsz:cs.length+news.length≤cur.toList.length:=by simp; omega
 generalize hnew:(cur.toList.take cs.length++news++cur.toList.drop (cs.length+news.length))=new
 have hget:∀ q,new[q]? = if q < cs.length then cur[q]? else if q < cs.length+news.length then news[q - cs.length]? else cur[q]?:=fun q=>by
  rw [← hnew,pasted_get _ _ _ hsz];simp
 have hheap:(w.setRow b new.toArray).heap[b]? = some (.cells new.toArray te (0,0)):=setRow_heap w _ _ _ _ _ q2
 let nv:Value:=.slice (some ⟨b,0,none⟩) L cap0
 let g1:=g.give tt nv (gg+1)
 have he:Ext H.length g w g1 (w.setRow b new.toArray):=⟨fun _ _ h=>h,fun b o' hs=>cell_setRow_other w _ _ _ (fun e=>by
  simp only at e; subst e; exact q7 o' hs),fun _ _ h=>⟨rfl,h⟩,fun t' _ v n h=>by
   by_cases e':t'=tt
   ·subst e';rw [hown] at h; cases h;exact ⟨nv,gg+1,by simp [g1,Gh.give],by omega,fun e=>by omega⟩
   ·exact ⟨v,n,by simp only [g1,Gh.give]; rw [if_neg e']; exact h,j7 _,fun _=>rfl⟩⟩
 refine ⟨g1,he,by simp,.ms _ _ _ _ _ _ nv (gg+1) (by simpa using hlt) (by simp [g1,Gh.give]) (j7 _) (fun _=>⟨by simp [nv,subOf,Addr.add],.inr (.inr ⟨b,_,_,rfl⟩)⟩) ⟨_,_,rfl,hroom,hroom,fun _=>rfl⟩,?_,⟨?_,by simp; exact hi.size,hi.old,fun b o' hs=>by simp; exact hi.lt b o' hs⟩,⟨by simp,fun b _ hn=>setRow_other w _ _ _ (fun e=>hn tt (by rw [hocc,e])),fun i b' hi' _=>?_,fun b o h=>.inl h⟩⟩
 ·refine hH.turn he y7 (j7 _) _ hlt (fun i b hik hb'=>setRow_other w _ _ _ (fun e=>hik (hH.sep i tt b hb' (by rw [hocc,e]))))
   (fun _ _ _ _ _ h=>h) (fun t' _ hne=>by simp only [g1,Gh.give]; rw [if_neg hne]) (fun cs' hc=>by cases hc) (fun _ _ h=>by cases h) (fun i b' hik hb' h=>?_) (fun e' n' cs' hc=>?_)
  ·rw [occ_mt (e:=te) (n:=gg+1) (cs:=cs++es) (by simp [hlt])] at h;simp [g1,Gh.give,nv,mtBlock] at h;obtain ⟨_,rfl⟩:=h;exact hik (hH.sep i _ _ hb' hocc)
  ·cases hc;have hns:new.toArray.size=cur.size:=by rw [← hnew]; simp; simp at hsz; omega
   have hcc:cap0≤cap0 * size:=Nat.le_mul_of_pos_right _ hsp;refine ⟨nv,by simp [g1,Gh.give],.inr (.inl ⟨b,_,cap0,new.toArray,rfl,q0,q1,hheap,⟨size,q3,hsp,by omega⟩,⟨by rw [hns]; simp; omega,by rw [zO,q4,hef]; rfl⟩,q5,by omega,q7,fun q u c g1' g2=>?_⟩)⟩;simp only [List.getElem?_toArray] at g1';rw [hget] at g1';rw [jT] at g2
   have:RepV g H.length w u c:=by
    by_cases c1:q < cs.length
    ·rw [if_pos c1] at g1' g2; exact q8 q u c g1' g2
    ·rw [if_neg c1] at g1' g2;have c2:q - cs.length < es.length:=(List.getElem?_eq_some_iff.1 g2).1;rw [if_pos y5] at g1'; exact hrep _ u c g1' g2
   exact this.ext he y7
 ·exact below_setRow hi.below q1 _
 ·rcases occ_set_mt hlt hi' with ⟨hne,h⟩|⟨rfl,h⟩
  ·refine ⟨i,?_⟩;unfold occ at h ⊢;split at h
   ·exact h
   ·simp only [g1,Gh.give] at h; rw [if_neg hne] at h; exact h
   ·simp only [g1,Gh.give] at h; rw [if_neg hne] at h; exact h
   ·exact h
   ·cases h
   ·cases h
  ·refine ⟨i,?_⟩;simp [g1,Gh.give,nv,mtBlock] at h;obtain ⟨_,rfl⟩:=h;exact hocc

theorem mt_grow {tt te gg b l0 cap0:Nat} {cs es:List PV} {news:List Value} {cur:Array Value} {v0:Value} (hb:H[tt]? = some (.mt te gg cs)) (hown:g.own tt=some (v0,gg)) (hv0:v0=.slice (some ⟨b,0,none⟩) l0 cap0)
  (q0:0 < cap0) (q1:B0≤b) (q2:w.heap[b]? = some (.cells cur te (0,0))) (q3:szOf P te=some 1) (q4:cs.all PV.flat=true) (q5:cap0≤maxLen) (q6:cur.size=cap0) (q7:∀ o,¬ g.S b o)
  (q8:∀ (j:Nat) v c,cur[j]? = some v→cs[j]? = some c→RepV g H.length w v c)
  (hlen:news.length=es.length) (hef:es.all PV.flat=true) (hroom:cs.length+es.length≤cap0) (hrep:∀ (j:Nat) u c,news[j]? = some u→es[j]? = some c→RepV g H.length w u c)
  (hH:Ql P g B0 H.length H w) (hi:Inv B0 w0 S0 g w) :
  ∃ g',Good P B0 w0 S0 H g w (.ms tt (gg+1) 0 (cs.length+es.length) (cs.length+es.length)) (H.set tt (.mt te (gg+1) (cs++es))) (.slice (some ⟨b,0,none⟩) (cs.length+es.length) cap0) g' (w.setRow b (cur.toList.take cs.length++news++cur.toList.drop (cs.length+news.length)).toArray) :=
 mt_growG hb hown hv0 q0 q1 q2 q3 y9 (Nat.mul_one _) q4 q5 y5 q7 q8 hlen hef hroom hrep hH hi

theorem mt_newG {tt te gg cap size L:Nat} {cs es:List PV} {olds news:List Value} {zs:Array Value} {v0:Value} (hb:H[tt]? = some (.mt te gg cs)) (hown:g.own tt=some (v0,gg))
  (q3:szOf P te=some size) (hsp:0 < size) (hL:L * size=cs.length+es.length) (q4:L≤cap) (q4f:cs.all PV.flat=true) (hef:es.all PV.flat=true) (q5:cap≤maxLen) (hpos:0 < es.length)
  (holen:olds.length=cs.length) (hlen:news.length=es.length) (hz:zs.size=cap * size - (cs.length+es.length))
  (hore:∀ (j:Nat) u c,olds[j]? = some u→cs[j]? = some c→RepV g H.length w u c)
  (hrep:∀ (j:Nat) u c,news[j]? = some u→es[j]? = some c→RepV g H.length w u c)
  (hH:Ql P g B0 H.length H w) (hi:Inv B0 w0 S0 g w) (vals:Array Value) (hvals:vals=olds.toArray++news.toArray++zs) :
  ∃ g',Good P B0 w0 S0 H g w (.ms tt (gg+1) 0 L L) (H.set tt (.mt te (gg+1) (cs++es))) (.slice (some ⟨w.heap.size,0,none⟩) L cap) g' (w.drew.alloc (.cells vals te)):=by
 have hlt:tt < H.length:=(List.getElem?_eq_some_iff.1 hb).1;have hiD:Inv B0 w0 S0 g w.drew:=⟨hi.below.drew,hi.size,hi.old,hi.lt⟩;have eD:Ext H.length g w g w.drew:=⟨fun _ _ h=>h,fun _ _ _=>rfl,fun _ _ h=>⟨rfl,h⟩,fun _ _ v n h=>⟨v,n,h,j7 _,fun _=>rfl⟩⟩;have hHD:Ql P g B0 H.length H w.drew:=hH.keep eD (j7 _) (j7 _) (fun _ _ _=>rfl) (fun _ _ _ _ h=>h) (fun _ _=>rfl)
 let nv:Value:=.slice (some ⟨w.heap.size,0,none⟩) L cap
 let g2:=g.give tt nv (gg+1)
 let w1:=w.drew.alloc (.cells vals te)
 have k1:Ext H.length g w.drew g w1:=Ext.alloc hiD H.length _;have hi':Inv B0 w0 S0 g w1:=hiD.alloc _;have hheap:w1.heap[w.heap.size]? = some (.cells vals te (0,0)):=heap_alloc_new w.drew _
 have e2:Ext H.length g w1 g2 w1:=⟨fun _ _ h=>h,fun _ _ _=>rfl,fun _ _ h=>⟨rfl,h⟩,fun t' ht' v n' h=>by
  by_cases e':t'=tt
  ·subst e';rw [hown] at h; cases h;exact ⟨nv,gg+1,by simp [g2,Gh.give],by omega,fun e=>by omega⟩
  ·exact ⟨v,n',by simp only [g2,Gh.give]; rw [if_neg e']; exact h,j7 _,fun _=>rfl⟩⟩
 have ee:Ext H.length g w g2 w1:=(eD.trans k1 (j7 _)).trans e2 (j7 _);have hLc:L * size≤cap * size:=Nat.mul_le_mul_right _ q4;have hcc:cap≤cap * size:=Nat.le_mul_of_pos_right _ hsp
 have hpos':0 < cap:=by
  cases cap with
  | zero=>simp at hLc; omega
  | succ n=>omega
 have hvs:vals.size=cap * size:=by
  rw [hvals]; simp only [Array.size_append,List.size_toArray,holen,hlen,hz]; omega
 refine ⟨g2,ee,by simp,.ms _ _ _ _ _ _ nv (gg+1) (by simpa using hlt) (by simp [g2,Gh.give]) (j7 _) (fun _=>⟨by simp [nv,subOf,Addr.add],.inr (.inr ⟨_,_,_,rfl⟩)⟩) ⟨_,_,rfl,q4,q4,fun _=>rfl⟩,?_,⟨hi'.below,hi'.size,hi'.old,hi'.lt⟩,Fr.old y7 (fun b hb=>Below.heap_alloc w.drew _ b hb) (fun i b h hb'=>?_)⟩
 case refine_2 =>
  rcases occ_set_mt hlt h with ⟨hne,h⟩|⟨rfl,h⟩
  ·refine ⟨i,?_⟩;unfold occ at h ⊢;split at h
   ·exact h
   ·simp only [g2,Gh.give] at h; rw [if_neg hne] at h; exact h
   ·simp only [g2,Gh.give] at h; rw [if_neg hne] at h; exact h
   ·exact h
   ·cases h
   ·cases h
  ·simp [g2,Gh.give,nv,mtBlock] at h;obtain ⟨_,rfl⟩:=h;exact absurd hb' (jZ _)
 refine hH.turn ee y7 (j7 _) _ hlt (fun i b _ hb=>Below.heap_alloc w.drew _ b (hH.occ_lt hb).2.1) (fun i b _ hb o hs=>hs) (fun t' _ hne=>by simp only [g2,Gh.give]; rw [if_neg hne]) (fun _ h=>by cases h) (fun _ _ h=>by cases h) (fun i b hik hb h=>?_) (fun e' n' cs' hc=>?_)
 ·rw [occ_mt (e:=te) (n:=gg+1) (cs:=cs++es) (by simp [hlt])] at h;simp [g2,Gh.give,nv,mtBlock] at h;obtain ⟨_,rfl⟩:=h;exact jZ _ (hH.occ_lt hb).2.1
 ·cases hc;refine ⟨nv,by simp [g2,Gh.give],.inr (.inl ⟨w.heap.size,_,cap,vals,rfl,hpos',hi.size,hheap,⟨size,q3,hsp,hvs⟩,⟨by rw [hvs]; simp; omega,by rw [zO,q4f,hef]; rfl⟩,q5,by omega,fun o hs=>jZ _ (hi.lt _ _ hs),fun q u c g1 g2'=>?_⟩)⟩;rw [jT] at g2'
  have:RepV g H.length w u c:=by
   by_cases c1:q < cs.length
   ·rw [if_pos c1] at g2';refine hore q u c ?_ g2';rw [hvals,Array.getElem?_append,if_pos y6,Array.getElem?_append,if_pos y6] at g1
    simpa using g1
   ·rw [if_neg c1] at g2';have c2:q - cs.length < es.length:=(List.getElem?_eq_some_iff.1 g2').1;refine hrep _ u c ?_ g2';rw [hvals,Array.getElem?_append,if_pos y6,Array.getElem?_append,if_neg y6] at g1
    simpa [holen] using g1
  exact this.ext ee y7



theorem mt_new {tt te gg cap:Nat} {cs es:List PV} {olds news:List Value} {zs:Array Value} {v0:Value} (hb:H[tt]? = some (.mt te gg cs)) (hown:g.own tt=some (v0,gg))
  (q3:szOf P te=some 1) (q4:cs.length+es.length≤cap) (q4f:cs.all PV.flat=true) (hef:es.all PV.flat=true) (q5:cap≤maxLen) (hpos:0 < es.length)
  (holen:olds.length=cs.length) (hlen:news.length=es.length) (hz:zs.size=cap - (cs.length+es.length))
  (hore:∀ (j:Nat) u c,olds[j]? = some u→cs[j]? = some c→RepV g H.length w u c)
  (hrep:∀ (j:Nat) u c,news[j]? = some u→es[j]? = some c→RepV g H.length w u c)
  (hH:Ql P g B0 H.length H w) (hi:Inv B0 w0 S0 g w) (vals:Array Value) (hvals:vals=olds.toArray++news.toArray++zs) :
  ∃ g',Good P B0 w0 S0 H g w (.ms tt (gg+1) 0 (cs.length+es.length) (cs.length+es.length)) (H.set tt (.mt te (gg+1) (cs++es))) (.slice (some ⟨w.heap.size,0,none⟩) (cs.length+es.length) cap) g' (w.drew.alloc (.cells vals te)) :=
 mt_newG hb hown q3 y9 (Nat.mul_one _) q4 q4f hef q5 hpos holen hlen y5 hore hrep hH hi vals hvals

structure SrcV (g:Gh) (N:Nat) (w:World) (v:Value) (es:List PV) (news:List Value):Prop where
 shape:(v=.slice none 0 0∧es=[])∨∃ ad c,v=.slice (some ad) es.length c∧∀ (j:Nat) u,news[j]? = some u→w.cell? (ad.add j)=some u
 len:news.length=es.length
 rep:∀ (j:Nat) u c,news[j]? = some u→es[j]? = some c→RepV g N w u c

theorem cells_of_isCell {d:Dat} (h:d.isCell=true):d.cells=[d]:=by cases d <;> simp_all [Dat.cells,Dat.isCell]
theorem fits_of_isCell {ds:List Dat} (h:ds.all Dat.isCell=true):ds.all (Dat.fits 1)=true:=by
 rw [j8] at h ⊢;intro d hd;have h1:=h d hd;simp [Dat.fits,cells_of_isCell h1,h1,Dat.num_eq]

theorem srcV_of {N:Nat} {v:Value} {ds:List Dat} {news:List Value} (h:Src w g.S v ds 1 news) (hd:ds.all Dat.isCell=true):SrcV g N w v (ds.map .dat) news:=by
 refine ⟨?_,by simp [h.len],fun j u c h1 h2=>?_⟩
 ·rcases h.shape with ⟨e1,e2⟩|⟨ad,c,e1,e2⟩
  ·exact .inl ⟨e1,by rw [e2]; rfl⟩
  ·exact .inr ⟨ad,c,by simpa using e1,e2⟩
 ·rw [jD,j5] at h2;obtain ⟨d,h2,rfl⟩:=h2;have hc:=List.all_eq_true.1 hd d (jF h2);have:=h.rep j 0 d d h2 (by rw [cells_of_isCell hc]; rfl);simp only [Nat.mul_one,zV,jB,h1,Option.getD_some] at this;exact .dat _ _ this

theorem srcV_ok {N:Nat} {v:Value} {p:PV} {es:List PV} (hH:Ql P g B0 N H w) (h:RepV g N w v p) (hp:sourceOf H p=some es) (hcell:es.all PV.cell=true):∃ news,SrcV g N w v es news:=by
 unfold sourceOf at hp;split at hp
 ·rename_i t gg lo len cp;split at hp
  ·rename_i te g' cs hm;split at hp
   ·rename_i e; subst e;have hb:=QH hm;obtain ⟨c1,c2,c3⟩:=cut_some hp;cases h with
    | ms _ _ _ _ _ v v0 m h1 h2 h3 h4 h5 =>
     obtain ⟨v1,k1,k2⟩:=hH.mt t _ _ _ hb;rw [h2] at k1;simp only [j9,jI] at k1;obtain ⟨rfl,rfl⟩:=k1;obtain ⟨hv,_⟩:=h4 rfl;rcases k2 with ⟨hnil,hv0⟩|⟨b',l',cap',cur,rfl,q0,q1,q2,q3,q4,q5,q6,q7,q8⟩|hmul
     rotate_right
     ·have:es=[]:=by
       cases es with
       | nil=>rfl
       | cons c es =>
        have h0:0 < len:=by rw [← c1]; simp
        have:=c3 0 h0;exact absurd (by rw [← this]; simp [flat_of_cell (List.all_eq_true.1 hcell c y7)]) (hmul.not_flat (lo+0))
      subst this;obtain rfl:len=0:=by simpa using c1.symm
      obtain ⟨a,c,rfl,_,_,_⟩:=h5;cases a with
      | none=>exact ⟨[],.inl ⟨by
        obtain ⟨b,n',cap,cur,size,ds,rfl,_⟩:=hmul;simp [subOf] at hv,rfl⟩,rfl,fun j u c h=>by simp at h⟩
      | some a=>exact ⟨[],.inr ⟨a,c,rfl,fun j u h=>by simp at h⟩,rfl,fun j u c h=>by simp at h⟩
     ·simp only at hnil;subst hnil
      have:lo=0∧len=0:=by simp at c2; omega
      obtain ⟨rfl,rfl⟩:=this;have he:es=[]:=List.eq_nil_of_length_eq_zero y5;subst he;refine ⟨[],?_,rfl,fun j u c h=>by simp at h⟩;rcases hv0 with rfl|⟨a,rfl⟩
      ·exact .inl ⟨hv,rfl⟩
      ·exact .inr ⟨a.add 0,0,by rw [hv]; rfl,fun j u h=>by simp at h⟩
     ·refine ⟨(cur.toList.drop lo).take len,.inr ⟨⟨b',lo,none⟩,cap' - lo,by rw [hv]; simp [subOf,add_lit,c1],fun j u hu=>?_⟩,by simp only at q4 c2; simp; omega,fun j u c g1 g2=>?_⟩
      ·rw [jR] at hu;split at hu
       ·rw [add_lit,cell_of_row w _ _ cur _ (0,0) q2]; simpa using hu
       ·cases hu
      ·rw [jR] at g1;split at g1
       ·rename_i hj;rw [c3 j hj] at g2;exact q8 (lo+j) u c (by simpa using g1) g2
       ·cases g1
   ·cases hp
  ·cases hp
 ·split at hp
  ·rename_i ds hd;split at hp
   ·rename_i hc;cases hp;obtain ⟨news,hs⟩:=src_ok (P:=P) (size:=1) hH h hd (fits_of_isCell hc);exact ⟨news,srcV_of hs hc⟩
   ·cases hp
  ·cases hp

theorem SrcV.one {N:Nat} {v:Value} {es:List PV} {news:List Value} (h:SrcV g N w v es news) (hc:es.all PV.cell=true):∀ u∈news,u.oneCell'=true:=fun u hu=>by
 obtain ⟨j,hj⟩:=List.getElem?_of_mem hu;have hl:j < es.length:=by rw [← h.len]; exact (List.getElem?_eq_some_iff.1 hj).1
 exact one_of_cell (h.rep j u _ hj (jC hl)) (List.all_eq_true.1 hc _ (z8 hl))

theorem append_empty_ok {e size tt gg len cap:Nat} {x s:Operand} {ts:TypeId} (ho:o.op=.call { callee:=.builtin .append,args:=#[s,x],argTypes:=#[ts,ts] })
  (hty:elemOfSlice P ts=some e) (hs:szOf P e=some size) (hsv:ρ s=.ms tt gg 0 len cap) (hxv:sourceOf H (ρ x)=some [])
  (hH:Ql P g B0 H.length H w) (hi:Inv B0 w0 S0 g w) (hρ:∀ x,RepV g H.length w (a.eval x) (ρ x)) :
  ∃ v g' w',OpRes P o a w v w'∧Good P B0 w0 S0 H g w (.ms tt gg 0 len cap) H v g' w':=by
 obtain ⟨news,src⟩:=srcV_ok (P:=P) hH (hρ x) hxv rfl;have hsrep:=hρ s;rw [hsv] at hsrep;generalize hvs:a.eval s=vs at hsrep
 have hex:∀ v w',(Builtin.append_ #[ts,ts] o.type #[vs,a.eval x]).run P w=.ok v w'→OpRes P o a w v w':=fun v w' hr=>by
  left;simp [execOp,ho,resolve,invoke,builtin,hvs,hr]
 obtain ⟨ad,c,hxa⟩:∃ ad c,a.eval x=.slice ad 0 c:=by
  rcases src.shape with ⟨h,_⟩|⟨ad,c,h,_⟩
  ·exact ⟨none,0,h⟩
  ·exact ⟨some ad,c,h⟩
 refine ⟨vs,g,w,?_,.same hH hi hsrep⟩;cases hsrep with
 | ms _ _ _ _ _ v v0 m k1 k2 k3 k4 k5 =>
  obtain ⟨ad',c',rfl,k6,k7,k8⟩:=k5;refine hex _ _ ?_;rw [hxa];exact run_append_none hty hs ad' ad _ c' c k7

theorem append_ms_ok {e bytes tt gg lo len cap:Nat} {x s:Operand} {ts:TypeId} {es:List PV} (ho:o.op=.call { callee:=.builtin .append,args:=#[s,x],argTypes:=#[ts,ts] })
  (hty:elemOfSlice P ts=some e) (hs:szOf P e=some 1) (hb:bytesOf P e=some bytes) (hz:(zeroOf P e).map Dat.num=some 1) (h0b:0 < bytes)
  (hsv:ρ s=.ms tt gg lo len cap) (hxv:sourceOf H (ρ x)=some es) (hap:appendMs H e bytes tt gg lo len cap es=some (p,H'))
  (hH:Ql P g B0 H.length H w) (hi:Inv B0 w0 S0 g w) (hρ:∀ x,RepV g H.length w (a.eval x) (ρ x)) :
  ∃ v g' w',OpRes P o a w v w'∧Good P B0 w0 S0 H g w p H' v g' w':=by
 simp only [j5] at hz;obtain ⟨z,hz,hzn⟩:=hz;obtain ⟨ie,zv,i1,i2,i3,_⟩:=zeroOf_ok hz;have hsz:ie.size=1:=by simp only [szOf,i1,jN,j9] at hs; exact hs
 have hby:ie.bytes=bytes:=by simp only [bytesOf,i1,jN,j9] at hb; exact hb
 have hzs:zv.cells.size=1:=by rw [(i3 w g.S).cells.1,← Dat.num_eq,hzn]
 have hcell0:es.all PV.cell=true:=by
  unfold appendMs at hap;split at hap
  ·rename_i hc; exact hc.1
  ·cases hap
 have hflat:=flat_of_cells hcell0;obtain ⟨news,src⟩:=srcV_ok (P:=P) hH (hρ x) hxv hcell0;have hsrep:=hρ s;rw [hsv] at hsrep;generalize hvs:a.eval s=vs at hsrep
 have hex:∀ v w',(Builtin.append_ #[ts,ts] o.type #[vs,a.eval x]).run P w=.ok v w'→OpRes P o a w v w':=fun v w' hr=>by
  left;simp [execOp,ho,resolve,invoke,builtin,hvs,hr]
 unfold appendMs at hap;split at hap
 case isFalse=>cases hap
 rename_i hc;obtain ⟨hcell,rfl⟩:=hc;have hone:=src.one hcell;split at hap
 ·-- nothing is appended
  rename_i hemp
  have:es=[]:=by simpa using hemp
  subst this;cases hap
  obtain ⟨ad,c,hxa⟩:∃ ad c,a.eval x=.slice ad 0 c:=by
   rcases src.shape with ⟨h,_⟩|⟨ad,c,h,_⟩
   ·exact ⟨none,0,h⟩
   ·exact ⟨some ad,c,h⟩
  refine ⟨vs,g,w,?_,.same hH hi hsrep⟩;cases hsrep with
  | ms _ _ _ _ _ v v0 m k1 k2 k3 k4 k5 =>
   obtain ⟨ad',c',rfl,k6,k7,k8⟩:=k5;refine hex _ _ ?_;rw [hxa];exact run_append_none hty hs ad' ad _ c' c k7
 rename_i hemp;have hpos:0 < es.length:=by cases es with|nil=>simp at hemp|cons=>simp
 obtain ⟨ad,c,hxa,hnews⟩:∃ ad c,a.eval x=.slice (some ad) es.length c∧∀ (j:Nat) u,news[j]? = some u→w.cell? (ad.add j)=some u:=by
  rcases src.shape with ⟨_,h⟩|⟨ad,c,h,h'⟩
  ·subst h; exact absurd hpos y7
  ·exact ⟨ad,c,h,h'⟩
 have hnl:=src.len;split at hap
 case h_2=>cases hap
 rename_i te g' cs hm;split at hap
 case isFalse=>cases hap
 rename_i hc;obtain ⟨rfl,rfl⟩:=hc;have hbk:=QH hm;simp only at hbk;cases hsrep with
 | ms _ _ _ _ _ v v0 m k1 k2 k3 k4 k5 =>
  obtain ⟨v1,j1,j2⟩:=hH.mt tt _ _ _ hbk;have hown:=k2;rw [k2] at j1;simp only [j9,jI] at j1;obtain ⟨rfl,rfl⟩:=j1;obtain ⟨hv,hbase⟩:=k4 rfl;split at hap
  ·-- within the list
   rename_i hfit;cases hap;rcases j2 with ⟨hnil,_⟩|⟨b,l',cap',cur,rfl,q0,q1,q2,q3,q4,q5,q6,q7,q8⟩|hmul
   rotate_right
   ·exact absurd hs hmul.size_ne
   ·simp only [hnil,jL] at hfit; omega
   ·have q3':=q3; have q4':=q4; have q6':=q6;obtain ⟨q3,q4,q6⟩:=one_row q3 hs q4;have hv':vs=.slice (some ⟨b,0,none⟩) len cap':=by rw [hv]; simp [subOf,Addr.add]
    have hr:=run_append_room (P:=P) w ts o.type te ie (Qx hty) i1 b len cap' cur q2 ad es.length c news (by rw [hsz,Nat.mul_one]; exact hnl) hnews hone y5 (by rw [hsz]; omega);rw [hsz,Nat.mul_one] at hr
    have hg:=mt_write (P:=P) (S0:=S0) (w0:=w0) (lo:=len) hbk hown rfl q0 q1 q2 q3' q4' q5 q6' q7 q8 hnl hflat hfit src.rep hH hi
     (v:=.slice (some ⟨b,0,none⟩) (len+es.length) cap') (p:=.ms tt m 0 (len+es.length) (max cap (len+es.length))) (.ms _ _ _ _ _ _ _ m k1 hown (j7 _) (fun _=>⟨by simp [subOf,Addr.add],hbase⟩) ⟨_,cap',rfl,by
      obtain ⟨a',c',e1,e2,_⟩:=k5;rw [hv'] at e1; cases e1; omega,by omega,fun _=>rfl⟩)
    exact ⟨_,g,_,hex _ _ (by rw [hxa,hv']; exact hr),hg⟩
  ·rename_i hnfit;split at hap
   case isFalse=>cases hap
   rename_i hc;obtain ⟨rfl,hroom⟩:=hc;cases hap;have hlb:cs.length+es.length≤room:=jW (Nat.le_mul_of_pos_right _ h0b) hroom;have hmax:cs.length+es.length≤maxLen:=by simp only [room] at hlb; simp only [maxLen]; omega
   have h63:((cs.length+es.length:Nat):Int)≤9223372036854775807:=by simp only [room] at hlb; omega
   rcases j2 with ⟨hnil,hv0⟩|⟨b,l',cap',cur,rfl,q0,q1,q2,q3,q4,q5,q6,q7,q8⟩|hmul
   rotate_right
   ·exact absurd hs hmul.size_ne
   ·subst hnil;simp only [jL,zW] at hroom hlb hmax h63 hv ⊢;rcases hv0 with rfl|⟨a0,rfl⟩
    ·have hr:=run_append_nil (P:=P) w ts o.type te ie zv (Qx hty) i1 i2 ad es.length c news (by rw [hsz,Nat.mul_one]; exact hnl) hnews hpos h63 (by rw [hby]; simp only [room] at hroom; omega);have hge:=grownCap_ge w es.length 0 te;have hcm:=grownCap_le_maxLen w es.length 0 te hmax
     obtain ⟨g',hg⟩:=mt_new (P:=P) (S0:=S0) (w0:=w0) (olds:=[]) (zs:=Builtin.zeroCells zv.cells (grownCap w es.length 0 te - es.length)) (cap:=grownCap w es.length 0 te) hbk hown hs (by simpa using hge) rfl hflat hcm hpos rfl hnl
      (by simp [size_zeroCells,hzs]) (fun j u c h=>by simp at h) src.rep hH hi (news.toArray++Builtin.zeroCells zv.cells (grownCap w es.length 0 te - es.length)) y7
     simp only [jL,zW] at hg;exact ⟨_,g',_,hex _ _ (by rw [hxa,hv]; exact hr),hg⟩
    ·have hv':vs=.slice (some (a0.add 0)) 0 0:=by rw [hv]; simp [subOf]
     have hr:=run_append_grow (P:=P) w ts o.type te ie zv (Qx hty) i1 i2 (a0.add 0) 0 0 [] y7 (fun j v h=>by simp at h) ad es.length c news (by rw [hsz,Nat.mul_one]; exact hnl) hnews y5 (by simpa using h63) (growslice_fits y5 (by rw [hby]; simpa [room] using hroom));have hge:=grownCap_ge w (0+es.length) 0 te;have hcm:=grownCap_le_maxLen w (0+es.length) 0 te (by simpa using hmax)
     obtain ⟨g',hg⟩:=mt_new (P:=P) (S0:=S0) (w0:=w0) (olds:=[]) (zs:=Builtin.zeroCells zv.cells (grownCap w (0+es.length) 0 te - (0+es.length))) (cap:=grownCap w (0+es.length) 0 te) hbk hown hs (by simpa using hge) rfl hflat hcm hpos rfl hnl
      (by simp [size_zeroCells,hzs]) (fun j u c h=>by simp at h) src.rep hH hi _ rfl
     simp only [jL,zW] at hg hr;exact ⟨_,g',_,hex _ _ (by rw [hxa,hv']; exact hr),hg⟩
   ·obtain ⟨q3,q4,q6⟩:=one_row q3 hs q4;have hv':vs=.slice (some ⟨b,0,none⟩) cs.length cap':=by rw [hv]; simp [subOf,Addr.add]
    by_cases hcap:cs.length+es.length≤cap'
    ·have hr:=run_append_room (P:=P) w ts o.type te ie (Qx hty) i1 b cs.length cap' cur q2 ad es.length c news (by rw [hsz,Nat.mul_one]; exact hnl) hnews hone hcap (by rw [hsz]; omega);rw [hsz,Nat.mul_one] at hr;obtain ⟨g',hg⟩:=mt_grow (P:=P) (S0:=S0) (w0:=w0) hbk hown rfl q0 q1 q2 q3 q4.2 q5 q6 q7 q8 hnl hflat hcap src.rep hH hi;exact ⟨_,g',_,hex _ _ (by rw [hxa,hv']; exact hr),hg⟩
    ·have holds:∀ (j:Nat) v,(cur.toList.take cs.length)[j]? = some v→w.cell? ((⟨b,0,none⟩:Addr).add j)=some v:=fun j v h=>by
      rw [jR] at h;split at h
      ·rw [add_lit,cell_of_row w _ _ cur _ (0,0) q2]; simpa using h
      ·cases h
     have hr:=run_append_grow (P:=P) w ts o.type te ie zv (Qx hty) i1 i2 ⟨b,0,none⟩ cs.length cap' (cur.toList.take cs.length) (by rw [hsz]; simp; omega) holds ad es.length c news (by rw [hsz,Nat.mul_one]; exact hnl) hnews y5 h63 (growslice_fits y5 (by rw [hby]; exact hroom));have hge:=grownCap_ge w (cs.length+es.length) cap' te;have hcm:=grownCap_le_maxLen w (cs.length+es.length) cap' te hmax
     obtain ⟨g',hg⟩:=mt_new (P:=P) (S0:=S0) (w0:=w0) (olds:=cur.toList.take cs.length) (zs:=Builtin.zeroCells zv.cells (grownCap w (cs.length+es.length) cap' te - (cs.length+es.length))) (cap:=grownCap w (cs.length+es.length) cap' te) hbk hown hs hge q4.2 hflat hcm hpos y6 hnl
      (by simp [size_zeroCells,hzs]) (fun j u c g1 g2=>by
       rw [jR] at g1;split at g1
       ·exact q8 j u c (by simpa using g1) g2
       ·cases g1) src.rep hH hi _ rfl
     exact ⟨_,g',_,hex _ _ (by rw [hxa,hv']; exact hr),hg⟩

theorem append_new_ok {e bytes i off:Nat} {x s:Operand} {ts:TypeId} {es:List Dat} (ho:o.op=.call { callee:=.builtin .append,args:=#[s,x],argTypes:=#[ts,ts] })
  (hty:elemOfSlice P ts=some e) (hs:szOf P e=some 1) (hb:bytesOf P e=some bytes) (hz:(zeroOf P e).map Dat.num=some 1) (h0b:0 < bytes)
  (hsv:ρ s=.arr i off 0 0) (hxv:ρ x=.dat (.lst es)) (hap:newApp H e bytes es=some (p,H'))
  (hH:Ql P g B0 H.length H w) (hi:Inv B0 w0 S0 g w) (hρ:∀ x,RepV g H.length w (a.eval x) (ρ x)) :
  ∃ v g' w',OpRes P o a w v w'∧Good P B0 w0 S0 H g w p H' v g' w':=by
 unfold newApp at hap;split at hap
 case isFalse=>cases hap
 rename_i hc;obtain ⟨hcell,hroom⟩:=hc;have hsr:=hρ s;rw [hsv] at hsr;generalize hvs:a.eval s=vs at hsr;cases hsr with
 | arr _ _ _ _ hlt hle =>
  obtain ⟨g1,hg⟩:=own_mt_at (P:=P) (S0:=S0) (w0:=w0) hH hi e (some ⟨g.blk i,off,none⟩);have hne:∀ z,z=s→ρ z=.arr i off 0 0:=fun z hz=>by rw [hz]; exact hsv
  have hxs:¬ x=s:=fun h=>by rw [h,hsv] at hxv; cases hxv
  classical
  let ρ1:Operand→PV:=fun z=>if z=s then .ms H.length 0 0 0 0 else ρ z
  have hρ1:∀ z,RepV g1 (H++[Blk.mt e 0 []]).length w (a.eval z) (ρ1 z):=fun z=>by
   show RepV _ _ _ _ (if z=s then PV.ms H.length 0 0 0 0 else ρ z)
   by_cases hz:z=s
   ·rw [if_pos hz,hz,hvs]; exact hg.rep
   ·rw [if_neg hz]; exact (hρ z).ext hg.ext hg.len
  have e1:ρ1 s=.ms H.length 0 0 0 0:=if_pos rfl;have e2:ρ1 x=.dat (.lst es):=(if_neg hxs).trans hxv
  have hall:(es.map PV.dat).all PV.cell=true:=by
   rw [List.all_map];rw [j8] at hcell ⊢;intro d hd;have:=hcell d hd;cases d <;> simp_all [PV.cell,Dat.isCell]
  have hsrc:sourceOf (H++[Blk.mt e 0 []]) (ρ1 x)=some (es.map .dat):=by
   rw [e2];simp [sourceOf,appended,pureC,pure1,hcell]
  have hm:mtOf (H++[Blk.mt e 0 []]) H.length=some (e,0,[]):=by simp [mtOf,Blk.mtOf]
  have happ:appendMs (H++[Blk.mt e 0 []]) e bytes H.length 0 0 0 0 (es.map .dat)=some (p,H'):=by
   unfold appendMs;rw [if_pos ⟨hall,rfl⟩];cases es with
   | nil=>simpa using hap
   | cons d es =>
    simp only [zS,List.isEmpty_cons,j6,if_false] at hap ⊢;rw [hm];simp only [and_self,if_true];rw [if_neg y7,if_pos ⟨rfl,by simpa using hroom⟩];simp only [jQ];rw [← hap];simp
  obtain ⟨v,g2,w2,h1,h2⟩:=append_ms_ok (ρ:=ρ1) ho hty hs hb hz h0b e1 hsrc happ hg.heap hg.inv hρ1;exact ⟨v,g2,w2,h1,⟨hg.ext.trans h2.ext hg.len,jW hg.len h2.len,h2.rep,h2.heap,h2.inv,hg.fr.trans h2.fr⟩⟩

theorem clear_ms_ok {e te tt gg lo len cap:Nat} {x:Operand} {ts:TypeId} {cs:List PV} {z:Dat} (ho:o.op=.call { callee:=.builtin .clear,args:=#[x],argTypes:=#[ts] })
  (hty:elemOfSlice P ts=some e) (hs:szOf P e=some 1) (hz:zeroOf P e=some z) (hzc:z.isCell=true)
  (hsv:ρ x=.ms tt gg lo len cap) (hm:mtOf H tt=some (te,gg,cs)) (he:te=e) (hpos:0 < len) (hroom:lo+len≤cs.length)
  (hH:Ql P g B0 H.length H w) (hi:Inv B0 w0 S0 g w) (hρ:∀ x,RepV g H.length w (a.eval x) (ρ x)) :
  ∃ v g' w',OpRes P o a w v w'∧Good P B0 w0 S0 H g w (.tup []) (H.set tt (.mt e gg (cs.take lo++List.replicate len (.dat z)++cs.drop (lo+(List.replicate len (PV.dat z)).length)))) v g' w':=by
 subst he;have hbk:=QH hm;simp only at hbk;obtain ⟨ie,zv,i1,i2,i3,_⟩:=zeroOf_ok hz;have hzr:RepV g H.length w zv (.dat z):=.dat _ _ (i3 w g.S);have hcell:(PV.dat z).cell=true:=by cases z <;> first|rfl|(simp [Dat.isCell] at hzc)
 obtain ⟨y1,y2⟩:=cell_one hzr hcell;have hone:=one_of_cell hzr hcell;have hr:=hρ x;rw [hsv] at hr;generalize hvs:a.eval x=vs at hr;cases hr with
 | ms _ _ _ _ _ v v0 m k1 k2 k3 k4 k5 =>
  obtain ⟨v1,j1,j2⟩:=hH.mt tt _ _ _ hbk;have hown:=k2;rw [k2] at j1;simp only [j9,jI] at j1;obtain ⟨rfl,rfl⟩:=j1;obtain ⟨hv,hbase⟩:=k4 rfl;rcases j2 with ⟨hnil,_⟩|⟨b,l',cap',cur,rfl,q0,q1,q2,q3,q4,q5,q6,q7,q8⟩|hmul
  rotate_right
  ·exact absurd hs hmul.size_ne
  ·rw [hnil] at hroom; simp at hroom; omega
  ·have hv':vs=.slice (some ⟨b,lo,none⟩) len (cap' - lo):=by rw [hv]; simp [subOf,add_lit]
   have hzc:(Builtin.zeroCells zv.cells len).toList=List.replicate len zv:=by
    rw [y1];simp [Builtin.zeroCells];apply List.ext_getElem
    ·simp
    ·intro i h1 h2;simp [Nat.mod_one]
   have hst:=run_storeCells_at P b lo te (List.replicate len zv) 0 cur w q2 y6 (fun u hu=>by rw [List.eq_of_mem_replicate hu]; exact hone);simp only [zV] at hst
   have hg:=mt_write (P:=P) (S0:=S0) (w0:=w0) (lo:=lo) (es:=List.replicate len (.dat z)) (news:=List.replicate len zv) hbk hown rfl q0 q1 q2 q3 q4 q5 q6 q7 q8 y7 (by rw [j8]; intro x hx; rw [List.eq_of_mem_replicate hx]; exact flat_of_cell hcell) (by simpa using hroom)
    (fun j u c g1 g2=>by
     rw [List.eq_of_mem_replicate (jF g1),List.eq_of_mem_replicate (jF g2)]; exact hzr) hH hi (v:=.tuple #[]) (p:=.tup []) (.tup _ _ rfl (fun j v c h=>by simp at h))
   refine ⟨_,g,_,.inl ?_,hg⟩;obtain ⟨k,rfl⟩:∃ k,len=k+1:=⟨len - 1,by omega⟩;simp [execOp,ho,resolve,invoke,builtin,hvs,hv',Builtin.clear_,run_underlying (Qx hty),zeroValue,typeInfo,i1,i2,hzc,hst]

theorem clear_nil_ok {x:Operand} {ts:TypeId} (ho:o.op=.call { callee:=.builtin .clear,args:=#[x],argTypes:=#[ts] }) (hty:(elemOfSlice P ts).isSome) (hsv:ρ x=.dat (.lst []))
  (hH:Ql P g B0 H.length H w) (hi:Inv B0 w0 S0 g w) (hρ:∀ x,RepV g H.length w (a.eval x) (ρ x)) :
  ∃ v g' w',OpRes P o a w v w'∧Good P B0 w0 S0 H g w (.tup []) H v g' w':=by
 obtain ⟨e,hty⟩:=Option.isSome_iff_exists.1 hty;obtain ⟨ad,cap,hv⟩:=lenPV_rep (n:=0) (hρ x) (by rw [hsv]; rfl);refine ⟨.tuple #[],g,w,.inl ?_,.same hH hi (.tup _ _ rfl (fun j v c h=>by simp at h))⟩;cases ad <;> simp [execOp,ho,resolve,invoke,builtin,hv,Builtin.clear_,run_underlying (Qx hty)]

end
end Go.Pm
