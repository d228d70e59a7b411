/-
 The pure machine: soundness of control, of loops, of ranges over functions.
-/
import Derived.Test.YtjcfpjpdopfefaaGreatPmIter
import Derived.RangeFuncRecord
namespace Go.Pm
open Go Go.RowKit
set_option linter.unusedVariables false

def mark (r:Nat):Deferred:={ target:=.collected r,args:=#[] }

def Df (a:Act) (w:World) (a':Act) (w':World):Prop :=
 ∃ ms:List Nat,a'.defers=ms.map mark++a.defers∧ms.Nodup∧∀ r,r∈ms→w.heap.size≤r∧w'.heap[r]? = some (.deferred (some []))

theorem Df.same {a a':Act} {w w':World} (h:a'.defers=a.defers):Df a w a' w':=⟨[],by simpa using h,by simp,fun r h=>by simp at h⟩

theorem Df.trans {P:Program} {B0 N:Nat} {g1 g2:Gh} {H1 H2:List Blk} {a a1 a2:Act} {w w1 w2:World} (h:Df a w a1 w1) (hs:w.heap.size≤w1.heap.size) (hH:Ql P g1 B0 N H1 w1) (f:Fr g1 H1 w1 g2 H2 w2) (k:Df a1 w1 a2 w2):Df a w a2 w2:=by
 obtain ⟨ms,h1,h2,h3⟩:=h;obtain ⟨ks,k1,k2,k3⟩:=k;refine ⟨ks++ms,by simp [k1,h1],?_,fun r hr=>?_⟩
 ·refine List.nodup_append.2 ⟨k2,h2,fun x hx y hy e=>?_⟩;subst e;have:=(k3 x hx).1;have:=lt_of_heap (h3 x hy).2;omega
 ·rcases List.mem_append.1 hr with hr|hr
  ·exact ⟨jW hs (k3 r hr).1,(k3 r hr).2⟩
  ·obtain ⟨c1,c2⟩:=h3 r hr;exact ⟨c1,(f.keep r (lt_of_heap c2) (hH.occ_not c2 rfl rfl)).trans c2⟩

section
variable {P:Program} {B0:Nat} {w0:World} {S0:Nat→Nat→Prop} {Nb:Nat} {F:Fence} {m:Nat} {pf:FuncId→Bool} {hint:FuncId→Hint} {call:CallF} {h:Hint}

def CodeOK (P:Program) (call:CallF) (rg:Bool) (c:Code) (st:St) (e:Ex) (st':St):Prop :=
 ∀ (B0:Nat) (w0:World) (S0:Nat→Nat→Prop) (Nb:Nat) (g:Gh) (a:Act) (w:World) (F:Fence) (m:Nat) (Q:Exit→Act→World→Prop),Free F→(rg=true→F=Fence.wide)→StOK P B0 w0 S0 Nb g st a w →
  (∀ g' a' w',Ext Nb g w g' w'→Fr g st.heap w g' st'.heap w'→StOK P B0 w0 S0 Nb g' st' a' w'→Df a w a' w'→Q (exOf e) a' w')→c.wpIn F m P Q a w

def DrawOK (P:Program) (call:CallF) (pf:FuncId→Bool) (h:Hint):Prop :=
 ∀ (r:Nat) (ops:Array Oper) (st st':St) (fl:List Nat),orderOk st.heap.length ops fl=true→drawRun P call pf h r ops 0 ops.toList st=some (st',fl)→CodeOK P call false (.region r ops true) st .normal st'

theorem setPs_rep {g:Gh} {N:Nat} {w:World}:∀ (ts:List Tmp) (ds:List Dat) (s sl:List PV) (tmps:Array Value) (vals:List Value),setPs s ts ds=some sl→vals.length=ds.length→RepS g N w tmps s →
  (∀ (j:Nat) v d,vals[j]? = some v→ds[j]? = some d→RepD w g.S v d)→RepS g N w ((ts.zip vals).foldl (fun t (x:Tmp × Value)=>t.setIfInBounds x.1 x.2) tmps) sl∧ts.length=ds.length
 | [],[],s,sl,tmps,vals,hs,hl,hr,hv=>by cases hs; exact ⟨hr,rfl⟩
 | [],_::_,s,sl,tmps,vals,hs,hl,hr,hv=>by simp [setPs] at hs
 | _::_,[],s,sl,tmps,vals,hs,hl,hr,hv=>by simp [setPs] at hs
 | t::ts,d::ds,s,sl,tmps,[],hs,hl,hr,hv=>by simp at hl
 | t::ts,d::ds,s,sl,tmps,v::vals,hs,hl,hr,hv=>by
  simp only [setPs] at hs;have:=setPs_rep ts ds (s.set t (.dat d)) sl (tmps.setIfInBounds t v) vals hs (by simpa using hl) (hr.put (a:={ tmps:=tmps,defers:=[] }) (some t) (.dat v d (hv 0 v d rfl rfl))) (fun j u c g1 g2=>hv (j+1) u c (by simpa using g1) (by simpa using g2));exact ⟨this.1,by simp [this.2]⟩

def exCode:Ex→Code
 | .normal=>.skip
 | .exit id=>.exit id
 | .ret=>.ret

theorem RepV.still {g:Gh} {N N':Nat} {w:World} {v:Value} {p:PV} (h:RepV g N w v p) (hp:p.still=true):RepV (gS g.S) N' w v p:=by
 cases p with
 | dat d=>exact .dat _ _ h.datInv
 | iptr cs=>cases h with|iptr b o cs c h1 h2=>exact .iptr b o cs c h1 h2
 | _=>simp [PV.still] at hp

theorem prune_len {h0:Nat} {ks:List Nat} {st:St} (h:h0≤st.heap.length):(prune h0 (some ks) st).heap.length=h0:=by simp [prune,h]

theorem range_ok {asg bod:St→Option (Ex × St)} {assign body:Code} (hA:∀ st e st',asg st=some (e,st')→CodeOK P call false assign st e st') (hB:∀ st e st',bod st=some (e,st')→CodeOK P call false body st e st')
  (hcall:CallOK P pf call) {gf:FuncId} {caps:List PV} {n:Nat} {st st':St} {e:Ex} {f:Operand} {ps:Array Tmp} (hrun:rangeOf P call hint (roundOf asg bod st.heap.length st.slots ps.toList) n st gf caps=some (e,st'))
  {g:Gh} {a:Act} {w:World} {capv:Array Value} (hf:a.eval f=.func (.func gf) #[] capv) (hcs:capv.size=caps.length) (hcr:∀ (j:Nat) v c,capv[j]? = some v→caps[j]? = some c→RepV g st.heap.length w v c)
  (hst:StOK P B0 w0 S0 Nb g st a w) {Q:Exit→Act→World→Prop}
  (hQ:∀ g' a' w',Ext st.heap.length g w g' w'→Fr g st.heap w g' st'.heap w'→StOK P B0 w0 S0 Nb g' st' a' w'→Df a w a' w'→Q (exOf e) a' w'):(Code.rangeFunc f ps assign body).wpIn Fence.wide m P Q a w:=by
 unfold rangeOf at hrun;split at hrun
 case h_2=>cases hrun
 rename_i fn hfn;split at hrun
 case isTrue=>cases hrun
 rename_i hname;split at hrun
 case h_2=>cases hrun
 rename_i x hx;simp only [j9,jI] at hrun;obtain ⟨rfl,rfl⟩:=hrun;unfold irun at hx;split at hx
 case h_2=>cases hx
 rename_i c hc;split at hx
 case isFalse=>cases hx
 rename_i hchk;simp only [jE] at hchk;obtain ⟨hstill,hres⟩:=hchk;split at hx
 ·cases hx
 case h_3=>cases hx
 rename_i e0 is' hne hic;cases hx;have hne0:∀ id,e0≠.exit id:=fun id h=>hne id h
 refine wpIn_rangeFunc fun fn0 _=>?_
 let D:=w.heap.size
 let l:=D+1
 let rec0:LoopState→Option Code→Loop:=fun s pe=>{ state:=s,pending:=pe,fn:=fn0,tmps:=a.tmps,params:=ps,assign,body,defers:=D }
 let W1:=(w.alloc (.deferred (some []))).alloc (.loop (rec0 .ready none))
 let Out:Rnd→Gh→List Blk→World→Prop:=fun s gi Hi W=>∃ gc,s.heap.length=st.heap.length ∧
  Both P B0 w0 S0 st.heap.length g st.heap w D l (rec0 (if s.pend.isNone then .ready else .done) (s.pend.map exCode)) gc s.heap gi Hi W
 have hmk:=callFunc_run hfn hc (by simpa using hname);have hi1:=(hst.inv.alloc (.deferred (some []))).alloc (.loop (rec0 .ready none));have he1:∀ N,Ext N g w g W1:=fun N=>(Ext.alloc hst.inv N _).trans (Ext.alloc (hst.inv.alloc _) N _) (j7 _)
 have hL1:W1.heap[l]? = some (.loop (rec0 .ready none)):=by
  have:=World.alloc_heap_new (w.alloc (.deferred (some []))) (.loop (rec0 .ready none)); rwa [World.size_alloc] at this
 have hD1:W1.heap[D]? = some (.deferred (some [])):=(Below.heap_alloc _ _ _ (by simp [D])).trans (World.alloc_heap_new w _)
 have hst0:StableOut P B0 w0 S0 Out:=by
  intro s gi Hi W gi' Hi' W' hO he hfr hh hi;obtain ⟨gc,hlen,hb⟩:=hO;exact ⟨_,hlen,hb.inner he hfr hh hi⟩
 have hY:YOK P B0 w0 S0 l (roundOf asg bod st.heap.length st.slots ps.toList) Out:=by
  intro gi Hi W vals ds s s' b m hy hO hhi hinv hvs hvr;obtain ⟨gc,hlen,hb⟩:=hO;unfold roundOf at hy;split at hy
  ·cases hy
  rename_i hpend;split at hy
  case h_2=>cases hy
  rename_i sl hsl;split at hy
  case h_2=>cases hy
  rename_i st1 has;rw [hpend] at hb;have hrep0:RepS gc s.heap.length W a.tmps st.slots:=hst.rep.ext hb.ext (Nat.le_of_eq hlen.symm);obtain ⟨hrep1,hpl⟩:=setPs_rep ps.toList ds st.slots sl a.tmps vals.toList hsl (by simpa using hvs) hrep0 (fun j v d g1 g2=>by rw [hb.S]; exact hvr j v d (by simpa using g1) g2)
  have hfold:(ps.zip vals).foldl (fun tmps (x:Tmp × Value)=>match x with|(t,a)=>tmps.setIfInBounds t a) a.tmps=(ps.toList.zip vals.toList).foldl (fun t (x:Tmp × Value)=>t.setIfInBounds x.1 x.2) a.tmps:=by
   rw [← Array.foldl_toList,Array.toList_zip]
  refine ⟨fn0,_,assign,body,run_yield hb.loop (by simp at hpl; show vals.size=ps.size; omega),roundIn_of_wpIn trivial ?_⟩;show assign.wpIn _ _ _ _ { tmps:=(ps.zip vals).foldl _ a.tmps,defers:=[] } W
  rw [show (ps.zip vals).foldl (fun (tmps:Array Value) (x:Tmp × Value)=>match x with|(t,a)=>tmps.setIfInBounds t a) a.tmps=_ from hfold];refine hA _ _ _ has B0 w0 S0 st.heap.length gc _ W (Fence.wide.inRound l) m _ (.inr ⟨l,rfl⟩) (fun h=>by cases h) ⟨hb.hc,hb.inv,hrep1,Nat.le_of_eq hlen.symm⟩ fun g1 a1 w1 e1 f1 hst1 _=>?_
  obtain ⟨hb1,x1⟩:=hb.outer e1 f1 hst1.heap hst1.inv Hi.length;have hb2:=hb1.put (rec0 .busy none);have y2:=hb1.putExt (rec0 .busy none);refine ⟨_,run_beginRound hb1.loop rfl,?_⟩
  have fin:∀ (e:Ex) (st2:St),bod st1=some (e,st2)→(∀ jump,(jump=none∧e=.normal∨jump=some (exCode e))→s'=⟨(prune st.heap.length (some []) st2).heap,if jump.isNone then none else some e⟩→b=jump.isNone →
    ∀ R,(∀ w',(∃ g',Ext Hi.length gi W g' w'∧Ql P g' B0 Hi.length Hi w'∧Inv B0 w0 S0 g' w'∧Out s' g' Hi w')→R (Ending.returned (.bool b)) w') →
    (∀ (a2:Act) (w2:World),(∃ v w',(Instr.endRound l jump).run P w2=.ok v w'∧R (.returned v) w')→roundPost P l R (exOf e) a2 w2) →
    body.wpIn (Fence.wide.inRound l) m P (roundPost P l R) a1 (w1.putObj l (.loop (rec0 .busy none)))):=fun e st2 hbd jump hj hs' hbj R hR hpost=>by
   refine hB _ _ _ hbd B0 w0 S0 st.heap.length g1 a1 _ (Fence.wide.inRound l) m _ (.inr ⟨l,rfl⟩) (fun h=>by cases h) ⟨hb2.hc,hb2.inv,hst1.rep.ext (y2 _ _) (j7 _),hst1.base⟩ fun g2 a2 w2 e2 f2 hst2 _=>hpost a2 w2 ?_
   obtain ⟨hb3,x3⟩:=hb2.outer e2 f2 hst2.heap hst2.inv Hi.length;have hend:=run_endRound (P:=P) jump hb3.loop;have hb4:=hb3.put { rec0 .busy none with state:=if jump.isNone then .ready else .done,pending:=jump };have y4:=hb3.putExt { rec0 .busy none with state:=if jump.isNone then .ready else .done,pending:=jump };have hst4:StOK P B0 w0 S0 st.heap.length g2 st2 a2 _:=⟨hb4.hc,hb4.inv,hst2.rep.ext (y4 _ _) (j7 _),hst2.base⟩;obtain ⟨g5,e5,f5,hst5⟩:=prune_ok (some []) hst4;obtain ⟨hb5,x5⟩:=hb4.outer e5 f5 hst5.heap hst5.inv Hi.length;refine ⟨_,_,hend,?_⟩
   have hg:=hR _ ⟨_,(((x1.trans (y2 Hi.length _) (j7 _)).trans x3 (j7 _)).trans (y4 Hi.length _) (j7 _)).trans x5 (j7 _),hb5.hi,hb5.inv.ofS rfl,g5,(by rw [hs']; exact prune_len (ks:=[]) hst2.base),(by
    rw [hs'];rcases hj with ⟨rfl,rfl⟩|rfl
    ·exact hb5
    ·exact hb5)⟩
   rw [hbj] at hg;exact hg
  split at hy
  ·rename_i st2 hbd;simp only [j9,jI] at hy;obtain ⟨rfl,rfl⟩:=hy;exact fin .normal st2 hbd none (.inl ⟨rfl,rfl⟩) rfl rfl _ (fun w' h=>⟨rfl,h⟩) (fun a2 w2 h=>h)
  ·rename_i e2 st2 hne2 hbd;simp only [j9,jI] at hy;obtain ⟨rfl,rfl⟩:=hy;refine fin e2 st2 hbd (some (exCode e2)) (.inr rfl) rfl rfl _ (fun w' h=>⟨rfl,h⟩) (fun a2 w2 h=>?_);cases e2 with
   | normal=>exact (hne2 rfl).elim
   | exit id=>exact h
   | ret=>exact h
  ·cases hy
 refine ⟨l,[mark D],W1,{ target:=.fn (.func gf) capv,args:=#[.func (.yield l) #[] #[]] },W1,gf,#[.func (.yield l) #[] #[]]++capv,W1,run_enterLoop_outer _ _ _ _ _,?_,fun f' _=>trivial,?_,fun h=>by simp [Fence.wide] at h,callsIn_wide.2 ?_⟩
 ·simp only [resolve,hf];simp [go_sem]
 ·simp [invoke,go_sem,hmk]
 ·refine (callsIn_wide.1 (callsIn_of_wp (n:=0) (R:=fun e W=>(∃ v,e=.returned v)∧∃ gi Hi,Out is'.out gi Hi W) hfn hc trivial ?_)).mono ?_
  ·refine (icode_sound (Out:=Out) (l:=l) hcall hst0 hY n).1 c _ is' e0 hic 0 (gS g.S) _ W1 0 _ ⟨⟨heap_nil,hi1.ofS rfl,⟨?_,fun t=>?_,(hst.rep.glob.ext (he1 0)).ofS fun _ _ h=>h⟩,zN _⟩,fun t ht=>?_,g,rfl,?_⟩ fun g' a' w' he hI hd=>?_
   ·simp [hcs,Nat.add_comm]
   ·cases t with
    | zero=>exact .undef _
    | succ t =>
     simp only [jH,jB,List.cons_append,List.getElem?_cons_succ];rw [Array.getElem?_append,jT];by_cases ht:t < caps.length
     ·have h1:capv[t]? = some capv[t]:=jA y5;have h2:caps[t]? = some caps[t]:=jC ht;rw [if_pos y6,if_pos ht,h2]
      have h3:(#[Value.func (.yield l) #[] #[]]++capv)[t+1]? = some capv[t]:=by
       rw [Array.getElem?_append,if_neg y7]; simp
      rw [h3];exact ((hcr t _ _ h1 h2).ext (he1 _) (j7 _)).still (List.all_eq_true.1 hstill _ (z8 ht))
     ·rw [if_neg y6,if_neg ht];simp only [Array.getElem?_replicate,zK];split <;> split <;> exact undef_rep
   ·simp only [jX] at ht;subst ht;simp [Array.getElem?_append]
   ·refine ⟨(hst.heap.alloc hst.inv (j7 _) _).alloc (hst.inv.alloc _) (j7 _) _,heap_nil,hi1,rfl,he1 _,Fr.old (by simp [W1]; omega) (fun b hb=>?_) (fun i b h _=>⟨i,h⟩),fun i j b _ h=>by simp [occ] at h,fun j b h=>by simp [occ] at h,hL1,hD1,hst.inv.size,j7 _,Nat.le_succ _,by simp [l]⟩;exact (Below.heap_alloc _ _ b y6).trans (Below.heap_alloc w _ b hb)
   ·have hres':fn.results.toList=[]:=by simpa using hres
    have hrs:(results fn a'.tmps).run P w'=.ok (.tuple #[]) w':=by
     have he:fn.results=#[]:=by simpa using hres'
     simp [results,he]
    have hend:a'.defers=[]∧∃ v,(results fn a'.tmps).run P w'=.ok v w'∧((∃ v',Ending.returned v=.returned v')∧∃ gi Hi,Out is'.out gi Hi w'):=⟨hd,_,hrs,⟨_,rfl⟩,g',_,hI.out⟩;cases e0 with
    | normal=>exact hend
    | ret=>exact hend
    | exit id=>exact (hne0 id rfl).elim
  ·rintro e2 W2 ⟨⟨v,rfl⟩,gi,Hi,gc,hlen,hb⟩
   refine ⟨_,_,run_endLoop hb.loop (by cases is'.out.pend <;> simp [rec0]),?_⟩;have hb':=hb.put { rec0 (if is'.out.pend.isNone then .ready else .done) (is'.out.pend.map exCode) with state:=.exhausted }
   have key:=hQ gc { a with defers:=[mark D]++a.defers } _ hb'.ext hb'.fr ⟨hb'.hc,hb'.inv,hst.rep.ext hb'.ext (Nat.le_of_eq hlen.symm),by rw [hlen]; exact hst.base⟩ ⟨[D],rfl,by simp,fun r hr=>by
    simp only [jX] at hr; subst hr; exact ⟨j7 _,hb'.dfr⟩⟩
   cases hp:is'.out.pend with
   | none=>simp only [hp] at key ⊢; exact key
   | some e3 =>
    simp only [hp] at key ⊢;cases e3 with
    | normal=>exact wpIn_skip key
    | exit id=>exact wpIn_exit key
    | ret=>exact wpIn_ret key

end
end Go.Pm
