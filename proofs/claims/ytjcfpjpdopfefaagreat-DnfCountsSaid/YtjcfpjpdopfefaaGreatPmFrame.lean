/-
 The pure machine: a call that sees the first blocks of the heap alone; what it leaves behind them is forgotten.
-/
import Derived.Test.YtjcfpjpdopfefaaGreatPmLend
import Derived.LoopNIn
import Derived.TacticsIn
namespace Go.Pm
open Go Go.RowKit
set_option linter.unusedVariables false
variable {P:Program} {B0:Nat} {w0:World} {S0:Nat→Nat→Prop} {pf:FuncId→Bool} {call:CallF}
theorem sameV_eq:∀ {v w:Value},sameV v w=true→v=w:=by
 intro v w h;unfold sameV at h;split at h
 ·simp only [jE,zA,beq_iff_eq] at h; rw [h.1,h.2]
 ·simp only [beq_iff_eq] at h; rw [h]
 ·rename_i a b;have h:=eq_of_beq h;cases a;cases b;simp only at h;rw [h]
 ·rfl
 ·rfl
 ·rfl
 ·rfl
 ·simp only [jE,zA,List.isEmpty_iff] at h;obtain ⟨⟨rfl,h1,h2⟩,h3,h4⟩:=h;have e:∀ {a:Array Value},a.toList=[]→a=#[]:=fun {a} h=>by cases a; simp_all
  rw [e h1,e h2,e h3,e h4]
 ·cases h
mutual
theorem sameD_eq:∀ {d e:Dat},sameD d e=true→d=e
 | .raw v,.raw w,h=>by rw [sameD] at h; rw [sameV_eq h]
 | .lst es,.lst fs,h=>by rw [sameD] at h; rw [sameDs_eq h]
 | .agg es,.agg fs,h=>by rw [sameD] at h; rw [sameDs_eq h]
 | .raw _,.lst _,h=>by simp [sameD] at h
 | .raw _,.agg _,h=>by simp [sameD] at h
 | .lst _,.raw _,h=>by simp [sameD] at h
 | .lst _,.agg _,h=>by simp [sameD] at h
 | .agg _,.raw _,h=>by simp [sameD] at h
 | .agg _,.lst _,h=>by simp [sameD] at h
theorem sameDs_eq:∀ {l m:List Dat},sameDs l m=true→l=m
 | [],[],_=>rfl
 | a::l,b::m,h=>by
  rw [sameDs,jE] at h;rw [sameD_eq h.1,sameDs_eq h.2]
 | [],_::_,h=>by simp [sameDs] at h
 | _::_,[],h=>by simp [sameDs] at h
end
mutual
theorem sameP_eq:∀ {p q:PV},sameP p q=true→p=q
 | .dat d,q,h=>by
  cases q <;> simp only [sameP,reduceCtorEq] at h
  rw [sameD_eq h]
 | .agg l,q,h=>by
  cases q <;> simp only [sameP,reduceCtorEq] at h
  rw [samePs_eq h]
 | .tup l,q,h=>by
  cases q <;> simp only [sameP,reduceCtorEq] at h
  rw [samePs_eq h]
 | .vec t es,q,h=>by
  cases q <;> simp only [sameP,reduceCtorEq,jE,zA] at h
  rw [h.1,sameDs_eq h.2]
 | .ptr i o,q,h=>by
  cases q <;> simp only [sameP,reduceCtorEq,jE,zA] at h
  rw [h.1,h.2]
 | .iptr cs,q,h=>by
  cases q <;> simp only [sameP,reduceCtorEq] at h
  rw [sameDs_eq h]
 | .arr i o l c,q,h=>by
  cases q <;> simp only [sameP,reduceCtorEq,jE,zA] at h
  rw [h.1.1,h.1.2,h.2.1,h.2.2]
 | .fn f l,q,h=>by
  cases q <;> simp only [sameP,reduceCtorEq,jE,zA] at h
  rw [h.1,samePs_eq h.2]
 | .ms t g o l c,q,h=>by
  cases q <;> simp only [sameP,reduceCtorEq,jE,zA] at h
  rw [h.1.1,h.1.2,h.2.1,h.2.2.1,h.2.2.2]
 | .mp t g j,q,h=>by
  cases q <;> simp only [sameP,reduceCtorEq,jE,zA] at h
  rw [h.1,h.2.1,h.2.2]
 | .mapv i,q,h=>by
  cases q <;> simp only [sameP,reduceCtorEq,zA] at h
  rw [h]
 | .empv b,q,h=>by
  cases q <;> simp only [sameP,reduceCtorEq,beq_iff_eq] at h
  rw [h]
 | .undef,q,h=>by
  cases q <;> simp only [sameP,reduceCtorEq] at h
  rfl
theorem samePs_eq:∀ {l m:List PV},samePs l m=true→l=m
 | [],[],_=>rfl
 | a::l,b::m,h=>by
  rw [samePs,jE] at h;rw [sameP_eq h.1,samePs_eq h.2]
 | [],_::_,h=>by simp [samePs] at h
 | _::_,[],h=>by simp [samePs] at h
end
theorem sameE_eq:∀ {l m:List (Value × PV)},sameE l m=true→l=m
 | [],[],_=>rfl
 | a::l,b::m,h=>by
  rw [sameE,jE,jE] at h;rw [sameE_eq h.2,Prod.ext (sameV_eq h.1.1) (sameP_eq h.1.2)]
 | [],_::_,h=>by simp [sameE] at h
 | _::_,[],h=>by simp [sameE] at h
theorem sameB_eq {a b:Blk} (h:sameB a b=true):a=b:=by
 unfold sameB at h;split at h
 ·rw [sameE_eq h]
 ·rw [samePs_eq h]
 ·simp only [jE,zA] at h; rw [h.1,h.2]
 ·simp only [jE,zA] at h; rw [h.1.1,h.1.2,samePs_eq h.2]
 ·cases h
theorem sameH_eq:∀ {l m:List Blk},sameH l m=true→l=m
 | [],[],_=>rfl
 | a::l,b::m,h=>by
  rw [sameH,jE] at h;rw [sameB_eq h.1,sameH_eq h.2]
 | [],_::_,h=>by simp [sameH] at h
 | _::_,[],h=>by simp [sameH] at h

def CallOK (P:Program) (pf:FuncId→Bool) (call:CallF):Prop :=
 ∀ f args H p H', call f args H = some (p, H') → (∃ fn c, P.funcs[f]? = some fn ∧ fn.body = some c ∧ (fn.name == "runtime.NumGoroutine") = false) ∧
  (pf f=true→H'=H∧(∃ ds,pures H args=some ds)∧∀ H2,pures H2 args=pures H args→call f args H2=some (p,H2)) ∧
  ∀ (B0:Nat) (w0:World) (S0:Nat→Nat→Prop) (g:Gh) (w:World) (vals:Array Value),vals.size=args.length→(∀ (j:Nat) v q,vals[j]? = some v→args[j]? = some q→RepV g H.length w v q) →
   Ql P g B0 H.length H w→Inv B0 w0 S0 g w→GlobRep g w→Calls P f vals w fun e w'=>∃ v g',e=.returned v∧Good P B0 w0 S0 H g w p H' v g' w'

theorem unders_get {n:Nat}:∀ {cs:List PV} {j:Nat} {c:PV},unders n cs=true→cs[j]? = some c→c.under n=true
 | c::cs,0,d,h,e=>by
  simp only [unders,jE] at h;cases e; exact h.1
 | c::cs,j+1,d,h,e=>by
  simp only [unders,jE] at h;exact unders_get h.2 (by simpa using e)
structure Alike (n:Nat) (g g':Gh):Prop where
 S:g'.S=g.S
 blk:∀ i,i < n→g'.blk i=g.blk i
 live:∀ i,i < n→(g'.live i↔g.live i)
 own:∀ i,i < n→g'.own i=g.own i
theorem Alike.refl (n:Nat) (g:Gh):Alike n g g:=⟨rfl,fun _ _=>rfl,fun _ _=>Iff.rfl,fun _ _=>rfl⟩
theorem RepV.turn {g g':Gh} {N N' n:Nat} {w:World} (h:Alike n g g') (hN:n≤N') {v:Value} {q:PV} (hr:RepV g N w v q):q.under n=true→RepV g' N' w v q:=by
 induction hr with
 | dat v d hd=>intro _; exact .dat v d (h.S ▸ hd)
 | agg vs cs h1 _ ih=>intro hb; exact .agg vs cs h1 fun j v c a1 a2=>ih j v c a1 a2 (unders_get hb a2)
 | tup vs cs h1 _ ih=>intro hb; exact .tup vs cs h1 fun j v c a1 a2=>ih j v c a1 a2 (unders_get hb a2)
 | vec v t es v0 k h1 h2 h3 h4 h5 =>
  intro hb;have hb:t < n:=by simpa [PV.under] using hb
  exact .vec v t es v0 k (jP hb hN) (h.S ▸ h2) (by rw [h.own t hb]; exact h3) h4 h5
 | ptr i o hi =>
  intro hb;have hb:i < n:=by simpa [PV.under] using hb
  rw [← h.blk i hb];exact .ptr i o ⟨jP hb hN,(h.live i hb).2 hi.2⟩
 | iptr b o cs c h1 h2=>intro _; exact .iptr b o cs c (fun i hi=>by rw [h.S]; exact h1 i hi) (fun i u hu=>by rw [h.S]; exact h2 i u hu)
 | arr i o len cap hi hc =>
  intro hb;have hb:i < n:=by simpa [PV.under] using hb
  rw [← h.blk i hb];exact .arr i o len cap ⟨jP hb hN,(h.live i hb).2 hi.2⟩ hc
 | fn f vs cs h1 _ ih=>intro hb; exact .fn f vs cs h1 fun j v c a1 a2=>ih j v c a1 a2 (unders_get hb a2)
 | ms t gg lo len cp v v0 k h1 h2 h3 h4 h5 =>
  intro hb;have hb:t < n:=by simpa [PV.under] using hb
  exact .ms t gg lo len cp v v0 k (jP hb hN) (by rw [h.own t hb]; exact h2) h3 h4 h5
 | mp t gg j v v0 k h1 h2 h3 h4 h5 =>
  intro hb;have hb:t < n:=by simpa [PV.under] using hb
  exact .mp t gg j v v0 k (jP hb hN) (by rw [h.own t hb]; exact h2) h3 h4 h5
 | mapv i hi =>
  intro hb;have hb:i < n:=by simpa [PV.under] using hb
  rw [← h.blk i hb];exact .mapv i ⟨jP hb hN,(h.live i hb).2 hi.2⟩
 | empv b v h1 h2=>intro _; exact .empv b v h1 h2
 | undef v=>intro _; exact .undef v
theorem take_get {H:List Blk} {n i:Nat} {x:Blk} (h:(H.take n)[i]? = some x):i < n∧H[i]? = some x:=by
 rw [jR] at h;split at h
 ·exact ⟨‹_›,h⟩
 ·cases h
theorem occ_take {g:Gh} {H:List Blk} {n i:Nat} (h:i < n):occ g (H.take n) i=occ g H i:=by
 unfold occ;rw [jR,if_pos h]
theorem occ_take_lt {g:Gh} {H:List Blk} {n i b:Nat} (h:occ g (H.take n) i=some b):i < n∧occ g H i=some b:=by
 have hi:i < n:=by
  unfold occ at h;rw [jR] at h;by_cases q:i < n
  ·exact q
  ·rw [if_neg q] at h; cases h
 exact ⟨hi,by rw [← occ_take hi]; exact h⟩
theorem occ_alike {g g':Gh} {n:Nat} (h:Alike n g g') {H:List Blk} {i:Nat} (hi:i < n):occ g' H i=occ g H i:=by
 unfold occ;rw [h.blk i hi,h.own i hi]
theorem MtOK.turn {g g':Gh} {N N' n:Nat} {w:World} {e:TypeId} {cs:List PV} {v0:Value} (ha:Alike n g g') (hN:n≤N') (hb:unders n cs=true) (h:MtOK P g N B0 w e cs v0):MtOK P g' N' B0 w e cs v0:=by
 rcases h with h|⟨b,k,cap,cur,rfl,h0,h1,h2,h3,h4,h5,h6,h7,h8⟩|⟨b,k,cap,cur,size,ds,rfl,h0,h1,h2,h3,h3',h4,h4',h4'',h5,h6,h7,h8⟩
 ·exact .inl h
 ·exact .inr (.inl ⟨b,k,cap,cur,rfl,h0,h1,h2,h3,h4,h5,h6,fun o ho=>h7 o (by rw [ha.S] at ho; exact ho),fun j v c a1 a2=>(h8 j v c a1 a2).turn ha hN (unders_get hb a2)⟩)
 ·exact .inr (.inr ⟨b,k,cap,cur,size,ds,rfl,h0,h1,h2,h3,h3',h4,h4',h4'',h5,h6,fun o ho=>h7 o (by rw [ha.S] at ho; exact ho),fun i j d u v a1 a2 a3=>by rw [ha.S]; exact h8 i j d u v a1 a2 a3⟩)
theorem TokOK.turn {g g':Gh} {n:Nat} {w:World} {e:TypeId} {k:Nat} {v0:Value} (ha:Alike n g g') (h:TokOK P g B0 w e k v0):TokOK P g' B0 w e k v0:=by
 rcases h with h|⟨b,cap,cur,size,rfl,h1,h2,h3,h4,h5,h6,h7⟩
 ·exact .inl h
 ·exact .inr ⟨b,cap,cur,size,rfl,h1,h2,h3,h4,h5,h6,fun o ho=>h7 o (by rw [ha.S] at ho; exact ho)⟩
theorem Ql.first {g g':Gh} {N N' n:Nat} {H:List Blk} {w:World} (hH:Ql P g B0 N H w) (ha:Alike n g g') (hN:n≤N') (hb:(H.take n).all (Blk.under n)=true):Ql P g' B0 N' (H.take n) w:=by
 have hbl:∀ {i:Nat} {x:Blk},(H.take n)[i]? = some x→x.under n=true:=fun h=>List.all_eq_true.1 hb _ (jF h)
 refine ⟨fun i cs hi=>?_,fun i e k hi=>?_,fun i e k cs hi=>?_,fun i es hi=>?_,fun i e cs hi=>?_,fun i x hi=>?_,fun i j b h1 h2=>?_⟩
 ·obtain ⟨hlt,hg⟩:=take_get hi;obtain ⟨h1,⟨vals,ty,h2,h3,h4⟩,h5⟩:=hH.box i cs hg;rw [ha.blk i hlt];exact ⟨h1,⟨vals,ty,h2,h3,fun j v c a1 a2=>(h4 j v c a1 a2).turn ha hN (unders_get (hbl hi) a2)⟩,fun o ho=>h5 o (by rw [ha.S] at ho; exact ho)⟩
 ·obtain ⟨hlt,hg⟩:=take_get hi;obtain ⟨v0,h1,h2⟩:=hH.tok i e k hg;exact ⟨v0,by rw [ha.own i hlt]; exact h1,h2.turn ha⟩
 ·obtain ⟨hlt,hg⟩:=take_get hi;obtain ⟨v0,h1,h2⟩:=hH.mt i e k cs hg;exact ⟨v0,by rw [ha.own i hlt]; exact h1,h2.turn ha hN (hbl hi)⟩
 ·obtain ⟨hlt,hg⟩:=take_get hi;obtain ⟨h1,⟨arr,clock,h2,h3,h4⟩,h5⟩:=hH.map i es hg;rw [ha.blk i hlt];refine ⟨h1,⟨arr,clock,h2,h3,fun j m c a1 a2=>⟨(h4 j m c a1 a2).1,(h4 j m c a1 a2).2.turn ha hN ?_⟩⟩,fun o ho=>h5 o (by rw [ha.S] at ho; exact ho)⟩;have:=hbl hi;simp only [Blk.under,j8] at this;exact this c (jF a2)
 ·obtain ⟨hlt,hg⟩:=take_get hi;rw [ha.own i hlt];exact hH.mt0 i e cs hg
 ·obtain ⟨hlt,hg⟩:=take_get hi;obtain ⟨q1,q2⟩:=hH.live i x hg;refine ⟨fun hp=>(ha.live i hlt).2 (q1 hp),fun hx=>?_⟩;obtain ⟨a1,a2⟩:=q2 hx;exact ⟨fun hl=>a1 ((ha.live i hlt).1 hl),by rw [ha.own i hlt]; exact a2⟩
 ·obtain ⟨l1,o1⟩:=occ_take_lt h1;obtain ⟨l2,o2⟩:=occ_take_lt h2;rw [occ_alike ha l1] at o1;rw [occ_alike ha l2] at o2;exact hH.sep i j b o1 o2
theorem app_get {A C:List Blk} {n i:Nat} {x:Blk} (hA:A.length=n) (h:(A++C)[i]? = some x):(i < n∧A[i]? = some x)∨(n≤i∧C[i - n]? = some x):=by
 rw [jT] at h;split at h
 ·exact .inl ⟨by omega,h⟩
 ·exact .inr ⟨by omega,by rw [← hA]; exact h⟩
theorem frame_ok (hcall:CallOK P pf call) {f:FuncId} {args:List PV} {n:Nat} {H H2:List Blk} {g:Gh} {w:World} {p:PV} {vals:Array Value} (hf:frameRun call f args n H=some (p,H2))
  (hn:vals.size=args.length) (hr:∀ (j:Nat) v q,vals[j]? = some v→args[j]? = some q→RepV g H.length w v q) (hH:Ql P g B0 H.length H w) (hi:Inv B0 w0 S0 g w) (hG:GlobRep g w) :
  (∃ fn c, P.funcs[f]? = some fn ∧ fn.body = some c ∧ (fn.name == "runtime.NumGoroutine") = false) ∧ Calls P f vals w fun e w' => ∃ v g', e = .returned v ∧ Good P B0 w0 S0 H g w p H2 v g' w' := by
 unfold frameRun at hf;split at hf
 case isFalse=>cases hf
 rename_i hc;obtain ⟨hlen,hba,hbH⟩:=hc;split at hf
 case h_2=>cases hf
 rename_i p1 H1 hcl;split at hf
 case isFalse=>cases hf
 rename_i hq;obtain ⟨hbp,hbH1⟩:=hq;simp only [j9,jI] at hf;obtain ⟨rfl,rfl⟩:=hf;have htl:(H.take n).length=n:=by rw [zT]; omega
 obtain ⟨k1,_,k3⟩:=hcall _ _ _ _ _ hcl;refine ⟨k1,(k3 B0 w0 S0 g w vals hn (fun j v q a1 a2=>?_) ?_ hi hG).mono fun e w' he=>?_⟩
 ·rw [htl]; exact (hr j v q a1 a2).turn (Alike.refl n g) (j7 n) (unders_get hba a2)
 ·rw [htl]; exact hH.first (Alike.refl n g) (j7 n) hbH
 obtain ⟨v,g1,rfl,hg⟩:=he;have hl1:n≤H1.length:=by have:=hg.len; omega
 have hA:(H1.take n).length=n:=by rw [zT]; omega
 -- the ghosts joined
 let g2:Gh:={ blk:=fun i=>if i < n then g1.blk i else g.blk i,live:=fun i=>if i < n then g1.live i else g.live i,own:=fun i=>if i < n then g1.own i else g.own i,S:=g1.S }
 have hal:Alike n g1 g2:=⟨rfl,fun i h=>if_pos h,fun i h=>by show (if i < n then g1.live i else g.live i)↔_; rw [if_pos h],fun i h=>if_pos h⟩
 have hext:Ext H.length g w g2 w':=by
  have he:=hg.ext;rw [htl] at he;refine ⟨he.S,he.cell,fun i hi2 hl=>?_,fun t ht v n' ho=>?_⟩
  ·by_cases h:i < n
   ·obtain ⟨a1,a2⟩:=he.blk i h hl;exact ⟨(hal.blk i h).trans a1,(hal.live i h).2 a2⟩
   ·exact ⟨if_neg h,by show (if i < n then g1.live i else g.live i); rw [if_neg h]; exact hl⟩
  ·by_cases h:t < n
   ·rw [hal.own t h]; exact he.own t h v n' ho
   ·exact ⟨v,n',(if_neg h).trans ho,j7 _,fun _=>rfl⟩
 have hlen2:(H1.take n++H.drop n).length=H.length:=by rw [jV,hA,zZ]; omega
 have hdrop:∀ {i:Nat} {x:Blk},n≤i→(H.drop n)[i - n]? = some x→H[i]? = some x:=fun {i x} hle h=>by
  rw [zG,show n+(i - n)=i by omega] at h;exact h
 -- the old blocks from n on stay
 have hocc2:∀ i,n≤i→occ g2 (H1.take n++H.drop n) i=occ g H i:=fun i hle=>by
  have e:(H1.take n++H.drop n)[i]? = H[i]?:=by
   rw [zL y5,hA,zG];congr 1; omega
  have eb:g2.blk i=g.blk i:=if_neg y5;have eo:g2.own i=g.own i:=if_neg y5;unfold occ;rw [e,eb,eo]
 have hocc1:∀ i,i < n→occ g2 (H1.take n++H.drop n) i=occ g1 H1 i:=fun i hlt=>by
  have e:(H1.take n++H.drop n)[i]? = H1[i]?:=by
   rw [zM y5,jR,if_pos hlt]
  unfold occ;rw [e,hal.blk i hlt,hal.own i hlt]
 have hno:∀ {i b:Nat},n≤i→occ g H i=some b→∀ j,occ g (H.take n) j≠some b:=fun hle ho j hj=>by
  obtain ⟨l,o⟩:=occ_take_lt hj;have:=hH.sep _ _ _ ho o;omega
 have hkeep:∀ {i b:Nat},n≤i→occ g H i=some b→w'.heap[b]? = w.heap[b]?:=fun hle ho=>hg.fr.keep _ (hH.occ_lt ho).2.1 (hno hle ho)
 have hpub:∀ {i b:Nat},n≤i→occ g H i=some b→∀ o,g2.S b o→g.S b o:=fun hle ho o hs=>by
  rcases hg.fr.pub _ o hs with h|h|⟨j,h⟩
  ·exact h
  ·have:=(hH.occ_lt ho).2.1; omega
  ·exact absurd h (hno hle ho j)
 have hfirst:=hg.heap.first hal (show n≤H.length by omega) hbH1
 have hheap:Ql P g2 B0 H.length (H1.take n++H.drop n) w':=by
  refine ⟨fun i cs h=>?_,fun i e k h=>?_,fun i e k cs h=>?_,fun i es h=>?_,fun i e cs h=>?_,fun i x h=>?_,fun i j b h1 h2=>?_⟩
  ·rcases app_get hA h with ⟨_,h⟩|⟨hle,h⟩
   ·exact hfirst.box i cs h
   ·have hx:=hdrop hle h;obtain ⟨h1,⟨vals',ty,h2,h3,h4⟩,h5⟩:=hH.box i cs hx;rw [show g2.blk i=g.blk i from if_neg y5];exact ⟨h1,⟨vals',ty,by rw [hkeep hle (occ_box hx),h2],h3,fun j v c a1 a2=>(h4 j v c a1 a2).ext hext (j7 _)⟩,fun o ho=>h5 o (hpub hle (occ_box hx) o ho)⟩
  ·rcases app_get hA h with ⟨_,h⟩|⟨hle,h⟩
   ·exact hfirst.tok i e k h
   ·have hx:=hdrop hle h;obtain ⟨v0,h1,h2⟩:=hH.tok i e k hx;have ho:∀ b,v0.ownBlock=some b→occ g H i=some b:=fun b hb=>by rw [occ_tok hx,h1]; exact hb
    exact ⟨v0,(if_neg y5).trans h1,h2.keep (fun b hb=>hkeep hle (ho b hb)) (fun b hb=>hpub hle (ho b hb))⟩
  ·rcases app_get hA h with ⟨_,h⟩|⟨hle,h⟩
   ·exact hfirst.mt i e k cs h
   ·have hx:=hdrop hle h;obtain ⟨v0,h1,h2⟩:=hH.mt i e k cs hx;have ho:∀ b,mtBlock v0=some b→occ g H i=some b:=fun b hb=>by rw [occ_mt hx,h1]; exact hb
    exact ⟨v0,(if_neg y5).trans h1,h2.keep hext (j7 _) (fun b hb=>hkeep hle (ho b hb)) (fun b hb=>hpub hle (ho b hb))⟩
  ·rcases app_get hA h with ⟨_,h⟩|⟨hle,h⟩
   ·exact hfirst.map i es h
   ·have hx:=hdrop hle h;obtain ⟨h1,⟨arr,clock,h2,h3,h4⟩,h5⟩:=hH.map i es hx;rw [show g2.blk i=g.blk i from if_neg y5];exact ⟨h1,⟨arr,clock,⟨by rw [hkeep hle (occ_map hx),h2.1],h2.2⟩,h3,fun j v c a1 a2=>⟨(h4 j v c a1 a2).1,(h4 j v c a1 a2).2.ext hext (j7 _)⟩⟩,fun o ho=>h5 o (hpub hle (occ_map hx) o ho)⟩
  ·rcases app_get hA h with ⟨_,h⟩|⟨hle,h⟩
   ·exact hfirst.mt0 i e cs h
   ·have hx:=hdrop hle h;obtain ⟨v0,h1,h2⟩:=hH.mt0 i e cs hx;exact ⟨v0,(if_neg y5).trans h1,h2⟩
  ·rcases app_get hA h with ⟨_,h⟩|⟨hle,h⟩
   ·exact hfirst.live i x h
   ·have hx:=hdrop hle h;obtain ⟨q1,q2⟩:=hH.live i x hx;have el:g2.live i=g.live i:=if_neg y5;have eo:g2.own i=g.own i:=if_neg y5;rw [el,eo];exact ⟨q1,q2⟩
  ·by_cases c1:i < n <;> by_cases c2:j < n
   ·rw [hocc1 i c1] at h1; rw [hocc1 j c2] at h2; exact hg.heap.sep i j b h1 h2
   ·rw [hocc1 i c1] at h1; rw [hocc2 j y5] at h2;obtain ⟨j',hj'⟩:=hg.fr.occ i b h1 (hH.occ_lt h2).2.1;exact absurd hj' (hno y5 h2 j')
   ·rw [hocc2 i y5] at h1; rw [hocc1 j c2] at h2;obtain ⟨j',hj'⟩:=hg.fr.occ j b h2 (hH.occ_lt h1).2.1;exact absurd hj' (hno y5 h1 j')
   ·rw [hocc2 i y5] at h1; rw [hocc2 j y5] at h2; exact hH.sep i j b h1 h2
 refine ⟨v,g2,rfl,hext,by omega,?_,?_,⟨hg.inv.below,hg.inv.size,hg.inv.old,hg.inv.lt⟩,⟨hg.fr.size,fun b hb hnb=>?_,fun i b ho hb=>?_,fun b o hs=>?_⟩⟩
 ·rw [hlen2]; exact hg.rep.turn hal hlen hbp
 ·rw [hlen2]; exact hheap
 ·exact hg.fr.keep b hb (fun i hi2=>hnb i (occ_take_lt hi2).2)
 ·by_cases c:i < n
  ·rw [hocc1 i c] at ho;obtain ⟨j,hj⟩:=hg.fr.occ i b ho hb;exact ⟨j,(occ_take_lt hj).2⟩
  ·rw [hocc2 i y5] at ho; exact ⟨i,ho⟩
 ·rcases hg.fr.pub b o hs with h|h|⟨j,h⟩
  ·exact .inl h
  ·exact .inr (.inl h)
  ·exact .inr (.inr ⟨j,(occ_take_lt h).2⟩)
end Go.Pm
