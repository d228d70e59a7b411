/-
 Models of functions, their walks, and plain laws.
-/
import Derived.Laws.RangeString
import Derived.Test.YtlnecbnmhhjdpaaGreatDoorPmLaw
import Derived.Test.YtlnecbnmhhjdpaaGreatDoorKElabRightC
namespace Go.Proofs.Tryz
open Go Go.Pm
set_option linter.unusedVariables false
set_option linter.unusedSimpArgs false
set_option maxRecDepth 2000
theorem setM_ok {l:List Int} {j:Nat} {v:Int} (h:j < l.length):setM l (j:Int) v=some (l.set j v):=by simp [setM,h]
theorem ext_getD':∀ {a b:List Int},a.length=b.length→(∀ k,k < a.length→a.getD k 0=b.getD k 0)→a=b
 | [],[],_,_=>rfl
 | x::a,y::b,h1,h2=>by
  rw [show x=y by simpa using h2 0 (by simp),ext_getD' (a:=a) (b:=b) (by simpa using h1) fun k hk=>by simpa using h2 (k+1) (by simpa using hk)]
 | [],_::_,h,_=>by cases h
 | _::_,[],h,_=>by cases h
theorem getD_set {l:List Int} {j k:Nat} {v:Int} (hj:j < l.length):(l.set j v).getD k 0=if k=j then v else l.getD k 0:=by
 by_cases h:k=j
 ·subst h; simp [List.getD_eq_getElem?_getD,hj]
 ·rw [if_neg h]; simp [List.getD_eq_getElem?_getD,List.getElem?_set,h,fun e=>h (Eq.symm e)]
  rw [if_neg (fun e=>h e.symm)]
theorem guard_bind {p:Prop} [Decidable p] {β:Type} {f:Unit→Option β} {r:Option β} (h:p) (h2:f ()=r):(Z3 p>>=f)=r:=by rw [Z3,if_pos h]; exact h2
def leastS (j:Int):List (Int × Int)→Int→Int
 | [],v=>v
 | a::l,v=>leastS j l (if a.1=j∧(v < 0∨a.2 < v) then a.2 else v)
def mapR (m:Nat) (g:Nat→Int):List Int:=(List.range m).map g
theorem mapR_len (m:Nat) (g:Nat→Int):(mapR m g).length=m:=by simp [mapR]
theorem mapR_get {m:Nat} {g:Nat→Int} {k:Nat} (h:k < m):(mapR m g).getD k 0=g k:=by simp [mapR,h]
theorem mapR_idx {m:Nat} {g:Nat→Int} {k:Nat} (h:k < m):idx (mapR m g) (k:Int)=some (g k):=by simp [idx,mapR,h]
theorem mapR_set {m:Nat} {g:Nat→Int} {k:Nat} {v:Int} (h:k < m):(mapR m g).set k v=mapR m (fun j=>if j=k then v else g j):=by
 refine ext_getD' (by simp [mapR_len]) fun j hj=>?_
 rw [List.length_set,mapR_len] at hj
 rw [getD_set (by rw [mapR_len]; exact h),mapR_get hj]
 rw [mapR_get (g:=fun j=>if j=k then v else g j) hj]
theorem least_perm (i:Nat):∀ (p a l:List Int) (v:Int),p.length=a.length→(∀ x∈p,0≤x)→Dims a→(v=-1∧l.getD i 65536=65536∨0≤v∧v≤65536∧l.getD i 65536=v) →
  (i:Int)∈p∨0≤v→(permF l p a).getD i 65536=leastS i (p.zip a) v
 | [],[],l,v,_,_,_,h,hv=>by
  rw [permF,List.zip_nil_left,leastS]
  ·rcases h with h|h
   ·rcases hv with hv|hv
    ·cases hv
    ·omega
   ·exact h.2.2
  all_goals (intros; simp_all)
 | j::p,x::a,l,v,h1,h2,h3,h,hv=>by
  have hj:=h2 j (List.mem_cons_self ..)
  have hx:=h3 x (List.mem_cons_self ..)
  rw [permF,List.zip_cons_cons,leastS]
  have hs:=stepP_get l j.toNat x i
  by_cases hc:j=i
  ·have e:i=j.toNat:=by omega
   rw [if_pos e,← e] at hs
   refine least_perm i p a _ _ (by simpa using h1) (fun y hy=>h2 y (List.mem_cons_of_mem _ hy)) (fun y hy=>h3 y (List.mem_cons_of_mem _ hy)) (Or.inr ?_) (Or.inr ?_)
   ·dsimp only
    rw [← e,hs]
    unfold minI
    rcases h with ⟨rfl,h⟩|⟨g1,g2,h⟩
    ·rw [h,if_pos ⟨hc,Or.inl (by decide)⟩]; refine ⟨hx.1,hx.2,?_⟩; split <;> omega
    ·rw [h]
     by_cases hq:x < v
     ·rw [if_pos ⟨hc,Or.inr hq⟩,if_pos hq]; omega
     ·rw [if_neg (fun h=>hq (h.2.resolve_left (by omega))),if_neg hq]; omega
   ·split
    ·exact hx.1
    ·rename_i hn
     rcases h with ⟨rfl,_⟩|h
     ·exact absurd ⟨hc,Or.inl (by decide)⟩ hn
     ·exact h.1
  ·have e:¬ i=j.toNat:=by omega
   rw [if_neg e] at hs
   rw [if_neg (fun h=>hc h.1)]
   refine least_perm i p a _ _ (by simpa using h1) (fun y hy=>h2 y (List.mem_cons_of_mem _ hy)) (fun y hy=>h3 y (List.mem_cons_of_mem _ hy)) (by rw [hs]; exact h) ?_
   rcases hv with hv|hv
   ·rcases List.mem_cons.1 hv with hv|hv
    ·exact absurd hv.symm hc
    ·exact Or.inl hv
   ·exact Or.inr hv
 | [],_::_,_,_,h,_,_,_,_=>by cases h
 | _::_,[],_,_,h,_,_,_,_=>by cases h
theorem permF_lt:∀ (p a l:List Int),p.length=a.length→(∀ x∈p,0≤x)→l.length≤(permF l p a).length∧(∀ x∈p,x < ((permF l p a).length:Int))∧(∀ i:Nat,i < (permF l p a).length→i < l.length∨∃ x∈p,(i:Int)≤x)
 | [],[],l,_,_=>by
  have e:permF l [] []=l:=by rw [permF]; intros; simp_all
  rw [e]
  exact ⟨Nat.le_refl _,fun x hx=>(nomatch hx),fun i hi=>Or.inl hi⟩
 | j::p,x::a,l,h1,h2=>by
  obtain ⟨i1,i2,i3⟩:=permF_lt p a (stepP l j.toNat x) (by simpa using h1) (fun y hy=>h2 y (List.mem_cons_of_mem _ hy))
  have hj:=h2 j (List.mem_cons_self ..)
  rw [permF]
  rw [stepP_len] at i1 i3
  refine ⟨by omega,fun y hy=>?_,fun i hi=>?_⟩
  ·rcases List.mem_cons.1 hy with rfl|hy
   ·omega
   ·exact i2 y hy
  ·rcases i3 i hi with h|⟨y,hy,h⟩
   ·by_cases hl:i < l.length
    ·exact Or.inl hl
    ·exact Or.inr ⟨j,List.mem_cons_self ..,by omega⟩
   ·exact Or.inr ⟨y,List.mem_cons_of_mem _ hy,h⟩
 | [],_::_,_,h,_=>by cases h
 | _::_,[],_,h,_=>by cases h
theorem perm_least {v a:List Int} (ha:checkR a=0) (hp:permE v a.length=0):(∀ x∈v,0≤x∧x < ((permL v a).length:Int))∧mapR (permL v a).length (fun j=>leastS j (v.zip a) (-1))=permL v a:=by
 obtain ⟨h1,h2,h3⟩:=permE_zero hp
 obtain ⟨hd,hl,_⟩:=checkR_zero.1 ha
 have h0:∀ x∈v,0≤x:=fun x hx=>(h2 x hx).1
 obtain ⟨_,i2,i3⟩:=permF_lt v a [] h1 h0
 refine ⟨fun x hx=>⟨h0 x hx,i2 x hx⟩,ext_getD' (mapR_len _ _) fun k hk=>?_⟩
 rw [mapR_len] at hk
 rw [mapR_get hk]
 have hm:(k:Int)∈v:=by
  rcases i3 k hk with h|⟨y,hy,hle⟩
  ·simp at h
  ·have hne:v≠[]:=fun e=>by rw [e] at hy; cases hy
   have hpos:a.length > 0:=by have:=List.length_pos_iff.2 hne; omega
   have hs:=h3 hpos
   obtain ⟨g1,g2⟩:=maxL_ge hne
   have hpm:=perm_rng (setOf_nodup v) (fun x hx=>by
    have hx':=(mem_setOf v x).1 hx
    have:=g1 x hx'; have:=h0 x hx'; omega)
   refine (mem_setOf v _).1 (hpm.mem_iff.2 (mem_rng.2 ⟨by omega,?_⟩))
   have:=g1 y hy; omega
 have e:=least_perm k v a [] (-1) h1 h0 hd (Or.inl ⟨rfl,by simp⟩) (Or.inl hm)
 rw [← e]
 show (permF [] v a).getD k 65536=(permF [] v a).getD k 0
 have hk':k < (permF [] v a).length:=hk
 simp [List.getD_eq_getElem?_getD,hk']
theorem etaC' (c:Qc):(⟨c.kind,c.shape,c.buffer,c.starts,c.axis,c.amount,c.perm,c.kids⟩:Qc)=c:=by cases c; rfl
inductive nd (bs:List (List Int)):Qc→Prop
 | buf {s:List Int} {j:Nat} (h:bs[j]? = some s) (hs:checkR s=0):nd bs ⟨1,s,(j:Int),[],0,0,[],[]⟩
 | win {s st:List Int} {k:Qc} (hs:checkR s=0) (h1:st.length=s.length) (h2:k.shape.length=s.length) (h3:∀ x∈st,-65536≤x∧x≤65536):nd bs ⟨2,s,0,st,0,0,[],[k]⟩
 | rev {s:List Int} {a:Int} {k:Qc} (hs:checkR s=0) (h:k.shape=s) (h0:0≤a) (h1:a < (s.length:Int)):nd bs ⟨3,s,0,[],a,0,[],[k]⟩
 | rot {s:List Int} {j:Nat} {n:Int} {k:Qc} (hs:checkR s=0) (h:k.shape=s) (h1:j < s.length) (h2:0≤n) (h3:n < 1∨n < s.getD j 0):nd bs ⟨4,s,0,[],(j:Int),n,[],[k]⟩
 | tra {s p:List Int} {k:Qc} (hs:checkR s=0) (h:p.length=k.shape.length) (h1:∀ x∈p,0≤x∧x < (s.length:Int)) (h2:mapR s.length (fun j=>leastS j (p.zip k.shape) (-1))=s):nd bs ⟨5,s,0,[],0,0,p,[k]⟩
 | rsh {s:List Int} {k:Qc} (hs:checkR s=0):nd bs ⟨6,s,0,[],0,0,[],[k]⟩
 | cat {s:List Int} {j:Nat} {k k2:Qc} (hs:checkR s=0) (h1:j < k.shape.length) (h2:k2.shape.length=k.shape.length) (h3:repL k2.shape j (k.shape.getD j 0)=k.shape)
   (h4:repL k.shape j (k.shape.getD j 0+k2.shape.getD j 0)=s):nd bs ⟨7,s,0,[],(j:Int),0,[],[k,k2]⟩
theorem far_L1:∀ (s p:List Int),Sm (p++s).length→(∀ x∈s,-65536≤x∧x≤65536)→QI (p++s,(p.length:Int))=some (.inr ())
 | [],p,_,_=>by rw [QI]; simp only [Y3,if_false]
 | x::s,p,hs,h=>by
  have ih:=far_L1 s (p++[x]) (by rw [← QV]; exact hs) (fun y hy=>h y (List.mem_cons_of_mem _ hy))
  rw [← QV] at ih
  have hx:=h x (List.mem_cons_self ..)
  rw [QI]
  simp only [Ym,if_true,Zp,Ql,mid_W hs,XY,show ¬ x < -65536 by omega,if_false,decide_eq_false (show ¬ x > 65536 by omega),Bool.false_eq_true,ih]
theorem least_L1 (c:Qc) (kid:Qc) (m:Nat) (v2:List Int) (hv2:v2.length=m) (hk:idx c.kids 0=some kid):∀ (s t p q:List Int) (g:Nat→Int),kid.shape=p++s→c.perm=q++t→s.length=t.length→p.length=q.length→Sm (q++t).length →
  (∀ x∈t,0≤x∧x < (m:Int))→Zi (c,v2,mapR m g,(q.length:Int))=some (.inr (mapR m fun j=>leastS j (t.zip s) (g j)))
 | [],[],p,q,g,e1,e2,_,h2,hs,_=>by
  rw [Zi]; simp only [e2,Y3,if_false]; rfl
 | n::s,x::t,p,q,g,e1,e2,h1,h2,hs,hx=>by
  have hx0:=hx x (List.mem_cons_self ..)
  rw [Zi]
  have hi:idx (p++n::s) (q.length:Int)=some n:=by rw [← h2]; exact Zp
  obtain ⟨k,rfl⟩:=Int.eq_ofNat_of_zero_le hx0.1
  have hkm:k < m:=by omega
  have gl:∀ {β:Type} {f:Unit→Option β},(Z3 ((mapR m g).length=m)>>=f)=f ():=fun {β f}=>guard_bind (mapR_len m g) rfl
  have er:=least_L1 c kid m v2 hv2 hk s t (p++[n]) (q++[(k:Int)]) (fun j=>if (k:Int)=(j:Int)∧(g j < 0∨n < g j) then n else g j) (by rw [e1]; simp) (by rw [e2]; simp) (by simpa using h1) (by simp [h2]) (by rw [← QV]; exact hs) (fun y hy=>hx y (List.mem_cons_of_mem _ hy))
  have hst:setM (mapR m g) (k:Int) n=some ((mapR m g).set k n):=setM_ok (by rw [mapR_len]; exact hkm)
  have hset:(g k < 0∨n < g k)→(mapR m g).set k n=mapR m (fun j=>if (k:Int)=(j:Int)∧(g j < 0∨n < g j) then n else g j):=fun hc=>by
   rw [mapR_set hkm]
   congr 1
   funext j
   by_cases hj:j=k
   ·subst hj; simp [hc]
   ·rw [if_neg hj,if_neg (fun h=>hj (by omega))]
  have hno:¬ (g k < 0∨n < g k)→mapR m g=mapR m (fun j=>if (k:Int)=(j:Int)∧(g j < 0∨n < g j) then n else g j):=fun hc=>by
   congr 1
   funext j
   by_cases hj:(k:Int)=(j:Int)
   ·have:k=j:=by omega
    subst this; rw [if_neg (fun h=>hc h.2)]
   ·rw [if_neg (fun h=>hj h.1)]
  simp only [e2,Ym,if_true,Ql,Zp,hk,e1,hi,hv2,show ¬ (k:Int) < 0 by omega,if_false,decide_eq_false (show ¬ (k:Int)≥(m:Int) by omega),Bool.false_eq_true,gl,mapR_idx hkm,mid_W hs]
  have fin:(fun j=>leastS (j:Nat) (((k:Int)::t).zip (n::s)) (g j))=fun (j:Nat)=>leastS j (t.zip s) (if (k:Int)=(j:Int)∧(g j < 0∨n < g j) then n else g j):=rfl
  rw [fin]
  by_cases hv:g k < 0
  ·simp only [hv,if_true,Ql,hst,hset (Or.inl hv),er]
  ·by_cases hn:n < g k
   ·simp only [hv,if_false,decide_eq_true hn,Ql,if_true,hst,hset (Or.inr hn),er]
   ·simp only [hv,if_false,decide_eq_false hn,Ql,Bool.false_eq_true]
    rw [hno (by omega)]
    exact er
 | [],_::_,_,_,_,_,_,h,_,_,_=>by cases h
 | _::_,[],_,_,_,_,_,h,_,_,_=>by cases h
theorem chk_len {s:List Int} (h:checkR s=0):s.length≤16:=(checkR_zero.1 h).2.1
theorem chk_S {s:List Int} (h:checkR s=0):Sm s.length:=Sm_of (show s.length≤1000 by have:=chk_len h; omega)
theorem node_is {bs:List (List Int)} {c:Qc} (h:nd bs c) (hk:∀ k∈c.kids,checkR k.shape=0):Xa (c,bs)=some true:=by
 cases h with
 | @buf s j h hs =>
  obtain ⟨hj,hb⟩:=List.getElem?_eq_some_iff.1 h
  have i1:idx bs (j:Int)=some s:=by rw [idx_ok hj,hb]
  simp [Xa,YM,guardT,idx_ok,shapeCheck_ok _ (chk_S hs),hs,Ql,Jt,i1,sEqual_ok' _ _ (chk_S hs),show idx ([0,0,1,1,1,1,1,2]:List Int) 1=some 0 from rfl,show ¬ (j:Int) < 0 by omega,show ¬ bs.length≤j by omega]
 | @win s st k hs h1 h2 h3 =>
  have e:QZ st=some false:=by
   have:=far_L1 st [] (Sm_of (show ([]++st).length≤1000 by have:=chk_len hs; simp; omega)) h3
   simp only [List.nil_append,List.length_nil,Int.natCast_zero] at this
   unfold QZ Zm
   simp only [this,Ql]; rfl
  simp [Xa,YM,guardT,shapeCheck_ok _ (chk_S hs),hs,Ql,JH,h1,h2,e,show idx ([0,0,1,1,1,1,1,2]:List Int) 2=some 1 from rfl,show idx [k] 0=some k from rfl]
 | @rev s a k hs h h0 h1 =>
  simp [Xa,YM,guardT,shapeCheck_ok _ (chk_S hs),hs,Ql,Ji,QaC,sEqual_ok' _ _ (chk_S hs),h,h0,h1,show idx ([0,0,1,1,1,1,1,2]:List Int) 3=some 1 from rfl,show idx [k] 0=some k from rfl]
 | @rot s j n k hs h h1 h2 h3 =>
  have i1:idx s (j:Int)=some (s.getD j 0):=by rw [idx_ok h1]; simp [List.getD_eq_getElem?_getD,h1]
  have h4:n < (if s.getD j 0 < 1 then 1 else s.getD j 0):=by split <;> omega
  simp [Xa,YM,guardT,shapeCheck_ok _ (chk_S hs),hs,Ql,JG,QaC,sEqual_ok' _ _ (chk_S hs),h,h2,h1,i1,show idx ([0,0,1,1,1,1,1,2]:List Int) 4=some 1 from rfl,show idx [k] 0=some k from rfl]
  simpa [List.getD_eq_getElem?_getD,h1] using h4
 | @tra s p k hs h h1 h2 =>
  have hl:=chk_len hs
  have hk1:=chk_len (hk k (List.mem_cons_self ..))
  have eR:Ys (-1,(s.length:Int))=some (mapR s.length fun _=>-1):=by
   unfold Ys
   show (if ((-1:Int)=1∨(-1:Int)=-1)∧0≤(s.length:Int)∧(s.length:Int)≤16 then some (List.replicate (s.length:Int).toNat (-1:Int)) else none)=_
   rw [if_pos ⟨Or.inr rfl,by omega,by omega⟩,mapR,List.map_const',List.length_range]
   rfl
  have e:=least_L1 ⟨5,s,0,[],0,0,p,[k]⟩ k s.length (mapR s.length fun _=>-1) (mapR_len _ _) rfl k.shape p [] [] (fun _=>-1) rfl rfl h.symm rfl (Sm_of (show ([]++p).length≤1000 by simp; omega)) h1
  simp only [List.length_nil,Int.natCast_zero] at e
  rw [h2] at e
  have hg:Z3 (s.length=(mapR s.length fun _=>(-1:Int)).length)=some ():=if_pos (mapR_len _ _).symm
  have er:Y2 (⟨5,s,0,[],0,0,p,[k]⟩:Qc)=some true:=by
   unfold Y2
   simp only [show idx [k] 0=some k from rfl,Ql,h,ne_eq,not_true_eq_false,if_false,eR,e,hg,sEqual_ok' _ _ (chk_S hs),decide_true]
  simp [Xa,YM,guardT,shapeCheck_ok _ (chk_S hs),hs,Ql,er,show idx ([0,0,1,1,1,1,1,2]:List Int) 5=some 1 from rfl]
 | @rsh s k hs =>
  simp [Xa,YM,guardT,shapeCheck_ok _ (chk_S hs),hs,Ql,Jt,show idx ([0,0,1,1,1,1,1,2]:List Int) 6=some 1 from rfl]
 | @cat s j k k2 hs h1 h2 h3 h4 =>
  have hk1:=hk k (by simp)
  have hk2:=hk k2 (by simp)
  have l1:=chk_len hk1
  have i1:idx k.shape (j:Int)=some (k.shape.getD j 0):=by rw [idx_ok h1]; simp [List.getD_eq_getElem?_getD,h1]
  have j2:j < k2.shape.length:=by omega
  have i2:idx k2.shape (j:Int)=some (k2.shape.getD j 0):=by rw [idx_ok j2]; simp [List.getD_eq_getElem?_getD,j2]
  have g1:=getD_in (checkR_zero.1 hk1).1 h1
  have g2:=getD_in (checkR_zero.1 hk2).1 j2
  have w:W (k.shape.getD j 0+k2.shape.getD j 0)=k.shape.getD j 0+k2.shape.getD j 0:=W_ok (by omega) (by omega)
  have er:Xb (⟨7,s,0,[],(j:Int),0,[],[k,k2]⟩:Qc)=some true:=by
   unfold Xb
   simp only [show idx [k,k2] 0=some k from rfl,show idx [k,k2] 1=some k2 from rfl,Ql,show ¬ (j:Int) < 0 by omega,if_false,decide_eq_false (show ¬ (j:Int)≥(k.shape.length:Int) by omega),Bool.false_eq_true,
    show ((k2.shape.length:Int) != (k.shape.length:Int))=false by simp [h2],i1,i2,w,Replace_ok _ _ _ h1 (show k.shape.length≤1000 by omega),Replace_ok _ _ _ j2 (show k2.shape.length≤1000 by omega),h3,h4,sEqual_ok' _ _ (chk_S hk1),sEqual_ok' _ _ (chk_S hs),decide_true,if_true]
  simp [Xa,YM,guardT,shapeCheck_ok _ (chk_S hs),hs,Ql,er,show idx ([0,0,1,1,1,1,1,2]:List Int) 7=some 2 from rfl]
mutual
def okC (bs:List (List Int)):Qc→Prop
 | ⟨k,s,b,st,ax,am,pe,ks⟩=>(nd bs ⟨k,s,b,st,ax,am,pe,ks⟩∧checkR s=0)∧okCs bs ks
def okCs (bs:List (List Int)):List Qc→Prop
 | []=>True
 | k::ks=>okC bs k∧okCs bs ks
end
mutual
def dpC:Qc→Nat
 | ⟨_,_,_,_,_,_,_,ks⟩=>dpCs ks+1
def dpCs:List Qc→Nat
 | []=>0
 | k::ks=>max (dpC k) (dpCs ks)
end
theorem okC_f {bs:List (List Int)} {c:Qc}:okC bs c↔(nd bs c∧checkR c.shape=0)∧okCs bs c.kids:=by cases c; rw [okC]
theorem dpC_f (c:Qc):dpC c=dpCs c.kids+1:=by cases c; rw [dpC]
theorem okCs_mem {bs:List (List Int)}:∀ {l:List Qc},okCs bs l→∀ k∈l,okC bs k
 | [],_,k,h=>(nomatch h)
 | x::l,h,k,hk=>by
  rw [okCs] at h
  rcases List.mem_cons.1 hk with rfl|hk
  ·exact h.1
  ·exact okCs_mem h.2 k hk
theorem nd.mono {bs:List (List Int)} (r:List (List Int)) {c:Qc} (h:nd bs c):nd (bs++r) c:=by
 cases h with
 | @buf s j h hs=>exact .buf (by rw [List.getElem?_append_left (List.getElem?_eq_some_iff.1 h).1]; exact h) hs
 | win a b c d=>exact .win a b c d
 | rev a b c d=>exact .rev a b c d
 | rot a b c d e=>exact .rot a b c d e
 | tra a b c d=>exact .tra a b c d
 | rsh a=>exact .rsh a
 | cat a b c d e=>exact .cat a b c d e
mutual
theorem okC.mono {bs:List (List Int)} (r:List (List Int)):∀ c:Qc,okC bs c→okC (bs++r) c
 | ⟨k,s,b,st,ax,am,pe,ks⟩,h=>by
  rw [okC] at h ⊢
  exact ⟨⟨h.1.1.mono r,h.1.2⟩,okCs.mono r ks h.2⟩
theorem okCs.mono {bs:List (List Int)} (r:List (List Int)):∀ l:List Qc,okCs bs l→okCs (bs++r) l
 | [],_=>by rw [okCs]; trivial
 | k::ks,h=>by
  rw [okCs] at h ⊢
  exact ⟨okC.mono r k h.1,okCs.mono r ks h.2⟩
end
theorem nd_kids {bs:List (List Int)} {c:Qc} (h:nd bs c):c.kids.length≤2:=by cases h <;> simp
mutual
theorem within_is (bs:List (List Int)):∀ (c:Qc) (m:Nat),okC bs c→dpC c≤m→m≤300→Jb (c,bs,(m:Int))=some true
 | ⟨k,sh,b,st,ax,am,pe,ks⟩,m,h,hd,hm=>by
  rw [okC] at h
  rw [dpC] at hd
  have e:=node_is h.1.1 (fun k hk=>(okC_f.1 (okCs_mem h.2 k hk)).1.2)
  have e2:=within_L1 bs ks [] m k sh b st ax am pe h.2 (by omega) hm (by have:=nd_kids h.1.1; simp at this ⊢; omega)
  simp only [List.nil_append,List.length_nil,Int.natCast_zero] at e2
  rw [Jb]
  simp only [show (m:Int) > 0 by omega,if_true,etaC',e,Ql,Q2,Q4,e2]
theorem within_L1 (bs:List (List Int)):∀ (s p:List Qc) (m:Nat) (k:Int) (sh:List Int) (b:Int) (st:List Int) (ax am:Int) (pe:List Int),okCs bs s→dpCs s+1≤m→m≤300→p.length+s.length≤100 →
  QH (p++s,k,sh,b,st,ax,am,pe,bs,(m:Int),(p.length:Int))=some (.inr ())
 | [],p,m,k,sh,b,st,ax,am,pe,_,_,_,_=>by
  rw [QH]; simp only [Y3,if_false]
 | x::s,p,m,k,sh,b,st,ax,am,pe,h,hd,hm,hl=>by
  rw [okCs] at h
  rw [dpCs] at hd
  have ih:=within_L1 bs s (p++[x]) m k sh b st ax am pe h.2 (by omega) hm (by simp at hl ⊢; omega)
  rw [← QV] at ih
  have e:=within_is bs x (m - 1) h.1 (by omega) (by omega)
  have w:W ((m:Int) - 1)=((m - 1:Nat):Int):=by rw [W_ok (by omega) (by omega)]; omega
  have w2:W ((p.length:Int)+1)=((p++[x]).length:Int):=by
   simp at hl
   rw [W_ok (by omega) (by omega)]; simp
  rw [QH]
  simp only [Ym,if_true,Zp,Ql,Yw,etaC',w,e,Bool.not_true,Bool.false_eq_true,if_false,w2,ih]
end
theorem Right_true {bs:List (List Int)} {c:Qc} (h:okC bs c) (hd:dpC c≤300):Qbr (c,bs)=some true:=by
 have e:=within_is bs c 300 h hd (by omega)
 unfold Qbr
 simp only [show ((300:Nat):Int)=300 from rfl] at e
 simp only [etaC',e,Ql]
theorem ok1 {bs:List (List Int)} {c k:Qc} (hk:c.kids=[k]) (hn:nd bs c) (hs:checkR c.shape=0) (h:okC bs k):okC bs c∧dpC c=dpC k+1:=by
 refine ⟨okC_f.2 ⟨⟨hn,hs⟩,?_⟩,?_⟩
 ·rw [hk,okCs,okCs]; exact ⟨h,trivial⟩
 ·rw [dpC_f,hk,dpCs,dpCs]; omega
theorem seenC_right {bs:List (List Int)} {c:Qc} {s:List Int} (h:okC bs c) (hs:checkR s=0):okC bs (seenC c s)∧(seenC c s).shape=s∧dpC (seenC c s)≤dpC c+1:=by
 unfold seenC
 split
 ·rename_i e; exact ⟨h,e,by omega⟩
 ·obtain ⟨a,b⟩:=ok1 (c:=reshC s c) rfl (nd.rsh hs) hs h
  exact ⟨a,rfl,by omega⟩
theorem okC_shape {bs:List (List Int)} {c:Qc} (h:okC bs c):checkR c.shape=0:=(okC_f.1 h).1.2
theorem take_right {bs:List (List Int)} {c:Qc} {v:List Int} (h:okC bs c) (he:(takeR v c.shape).2=0):okC bs (winC (takeR v c.shape).1 c)∧dpC (winC (takeR v c.shape).1 c)≤dpC c+2:=by
 have hc:=okC_shape h
 have hr:=okR_take (l:=v) hc
 have ht:takeE v c.shape=0:=by
  unfold takeR at he
  by_cases ht:takeE v c.shape=0
  ·exact ht
  ·rw [if_neg ht] at he; exact he
 have e:(takeR v c.shape).1=⟨[],seenL c.shape v.length,v.map absI,List.zipWith stI v (seenL c.shape v.length),-1,0,[]⟩:=by rw [takeR,if_pos ht]
 rw [e] at hr ⊢
 obtain ⟨_,r2,r3⟩:=hr
 obtain ⟨s1,s2,s3⟩:=seenC_right h r2
 have hl:v.length=(seenL c.shape v.length).length:=by
  unfold takeE at ht
  by_cases c1:c.shape=[]∧v.length > 16
  ·rw [if_pos c1] at ht; cases ht
  rw [if_neg c1] at ht
  by_cases c2:v.length≠(seenL c.shape v.length).length
  ·rw [if_pos c2] at ht; cases ht
  ·exact Decidable.not_not.1 c2
 have hb:v.any bigM=false:=by
  unfold takeE at ht
  by_cases c1:c.shape=[]∧v.length > 16
  ·rw [if_pos c1] at ht; cases ht
  rw [if_neg c1,if_neg (fun h=>h hl)] at ht
  by_cases c2:v.any bigM=true
  ·rw [if_pos c2] at ht; cases ht
  ·simpa using c2
 obtain ⟨a,b⟩:=ok1 (bs:=bs) (c:=winC ⟨[],seenL c.shape v.length,v.map absI,List.zipWith stI v (seenL c.shape v.length),-1,0,[]⟩ c) rfl (nd.win r3 (by simp; omega) (by rw [s2]; simp; omega) (fun x hx=>by
  obtain ⟨i,hi,e⟩:=List.getElem_of_mem hx
  simp only [List.length_zipWith] at hi
  simp only [List.getElem_zipWith] at e
  have m1:v[i]∈v:=List.getElem_mem (by omega)
  have hd:=(checkR_zero.1 r2).1 _ (List.getElem_mem (l:=seenL c.shape v.length) (n:=i) (by omega))
  have hv:bigM v[i]=false:=by
   have:=List.any_eq_false.1 hb _ m1
   simpa using this
  have hv':-65536≤v[i]∧v[i]≤65536:=by simp [bigM] at hv; omega
  rw [← e]
  unfold stI absI
  split
  ·omega
  ·omega)) r3 s1
 exact ⟨a,by omega⟩
theorem drop_right {bs:List (List Int)} {c:Qc} {v:List Int} (h:okC bs c) (he:(dropR v c.shape).2=0):okC bs (winC (dropR v c.shape).1 c)∧dpC (winC (dropR v c.shape).1 c)≤dpC c+2:=by
 have hc:=okC_shape h
 have hr:=okR_drop (l:=v) hc
 have ht:dropE v c.shape=0:=by
  unfold dropR at he
  by_cases ht:dropE v c.shape=0
  ·exact ht
  ·rw [if_neg ht] at he; exact he
 have e:(dropR v c.shape).1=⟨[],seenL c.shape v.length,dropL v (seenL c.shape v.length),dropF v (seenL c.shape v.length),-1,0,[]⟩:=by rw [dropR,if_pos ht]
 rw [e] at hr ⊢
 obtain ⟨_,r2,r3⟩:=hr
 obtain ⟨s1,s2,s3⟩:=seenC_right h r2
 have hl:¬ v.length > (seenL c.shape v.length).length:=by
  unfold dropE at ht
  by_cases c1:c.shape=[]∧v.length > 16
  ·rw [if_pos c1] at ht; cases ht
  rw [if_neg c1] at ht
  intro c2
  rw [if_pos c2] at ht; cases ht
 generalize seenL c.shape v.length=r at *
 have hd:=(checkR_zero.1 r2).1
 have e1:(dropL v r).length=r.length:=by simp [dropL]; omega
 obtain ⟨a,b⟩:=ok1 (bs:=bs) (c:=winC ⟨[],r,dropL v r,dropF v r,-1,0,[]⟩ c) rfl (nd.win r3 (by rw [e1]; simp [dropF]; omega) (by rw [s2,e1]) (fun x hx=>by
  rcases List.mem_append.1 hx with hx|hx
  ·obtain ⟨i,hi,e⟩:=List.getElem_of_mem hx
   simp only [List.length_zipWith] at hi
   simp only [List.getElem_zipWith] at e
   have hd':=hd _ (List.getElem_mem (l:=r) (n:=i) (by omega))
   rw [← e]
   unfold dropS absI
   split
   ·omega
   ·split <;> omega
  ·rw [(List.mem_replicate.1 hx).2]; omega)) r3 s1
 exact ⟨a,by omega⟩
theorem turn_right {bs:List (List Int)} {c:Qc} {k:Int} {r:Qn} (h:okC bs c) (hn:¬ r.axis=-1→nd bs ⟨k,r.shape,0,[],r.axis,r.amount,[],[c]⟩∧checkR r.shape=0):okC bs (turnC k r c)∧dpC (turnC k r c)≤dpC c+2:=by
 unfold turnC
 by_cases e:r.axis=-1
 ·rw [if_pos e]; exact ⟨h,by omega⟩
 ·rw [if_neg e]
  obtain ⟨a,b⟩:=ok1 (bs:=bs) (c:=⟨k,r.shape,0,[],r.axis,r.amount,[],[c]⟩) rfl (hn e).1 (hn e).2 h
  exact ⟨a,by omega⟩
theorem revR_in {ax:Int} {a:List Int} (hax:-1≤ax) (he:(revR ax a).2=0):(revR ax a).1.shape=a∧(revR ax a).1.amount=0∧-1≤(revR ax a).1.axis∧(revR ax a).1.axis < (a.length:Int):=by
 unfold revR at he ⊢
 by_cases h1:ax=-1
 ·simp only [h1,if_true] at he ⊢; refine ⟨trivial,trivial,by omega,by omega⟩
 ·by_cases h2:ax≥(a.length:Int)
  ·simp only [h1,h2,if_true,if_false] at he; cases he
  ·simp only [h1,h2,if_false] at he ⊢; refine ⟨trivial,trivial,by omega,by omega⟩
theorem rev_right {bs:List (List Int)} {c:Qc} {ax:Int} (hax:-1≤ax) (h:okC bs c) (he:(revR ax c.shape).2=0):okC bs (turnC 3 (revR ax c.shape).1 c)∧dpC (turnC 3 (revR ax c.shape).1 c)≤dpC c+2:=by
 obtain ⟨h1,h2,h3,h4⟩:=revR_in hax he
 refine turn_right h fun e=>?_
 rw [h1,h2]
 exact ⟨nd.rev (okC_shape h) rfl (by omega) h4,okC_shape h⟩
theorem modI_in (x d:Int):0≤modI x d∧(modI x d < 1∨modI x d < d):=by
 unfold modI
 split
 ·omega
 ·have:=Int.emod_nonneg x (show d≠0 by omega); have:=Int.emod_lt_of_pos x (show 0 < d by omega); omega
theorem rot_right {bs:List (List Int)} {c:Qc} {v:List Int} {ax:Int} (hax:-1≤ax) (h:okC bs c) (he:(rotR v ax c.shape).2=0):okC bs (turnC 4 (rotR v ax c.shape).1 c)∧dpC (turnC 4 (rotR v ax c.shape).1 c)≤dpC c+2:=by
 refine turn_right h fun e=>?_
 unfold rotR at he e ⊢
 by_cases h1:v.length≠1
 ·rw [if_pos h1] at he; cases he
 rw [if_neg h1] at he e ⊢
 by_cases h2:(revR ax c.shape).2≠0
 ·rw [if_pos h2] at he; exact absurd he h2
 rw [if_neg h2] at e ⊢
 obtain ⟨_,_,g3,g4⟩:=revR_in hax (Decidable.not_not.1 h2)
 dsimp only at e ⊢
 obtain ⟨j,hj⟩:=Int.eq_ofNat_of_zero_le (show 0≤(revR ax c.shape).1.axis by omega)
 rw [hj] at g4 ⊢
 have hm:=modI_in (v.getD 0 0) (c.shape.getD j 0)
 refine ⟨nd.rot (okC_shape h) rfl (by omega) ?_ ?_,okC_shape h⟩
 ·rw [if_neg (by omega),Int.toNat_natCast]; exact hm.1
 ·rw [if_neg (by omega),Int.toNat_natCast]; exact hm.2
theorem trans_right {bs:List (List Int)} {c:Qc} {v:List Int} (h:okC bs c) (hp:permE v c.shape.length=0) (hs:checkR (permL v c.shape)=0) (r:Qn) (hr:r.shape=permL v c.shape) (hr2:r.perm=v):okC bs (transC r c)∧dpC (transC r c)≤dpC c+2:=by
 obtain ⟨p1,p2⟩:=perm_least (okC_shape h) hp
 obtain ⟨a,b⟩:=ok1 (bs:=bs) (c:=transC r c) rfl (by unfold transC; rw [hr,hr2]; exact nd.tra hs (permE_zero hp).1 p1 p2) (by show checkR r.shape=0; rw [hr]; exact hs) h
 exact ⟨a,by omega⟩
theorem resh_right {bs:List (List Int)} {c:Qc} {s:List Int} (h:okC bs c) (hs:checkR s=0):okC bs (reshC s c)∧dpC (reshC s c)≤dpC c+2:=by
 obtain ⟨a,b⟩:=ok1 (bs:=bs) (c:=reshC s c) rfl (nd.rsh hs) hs h
 exact ⟨a,by omega⟩
theorem monR_ok {bs:List (List Int)} {t:Qf} {c:Qc} (hax:-1≤t.axis) (h:okC bs c) (he:(monR t c).2=0):okC bs (monR t c).1∧dpC (monR t c).1≤dpC c+2:=by
 have hc:=okC_shape h
 unfold monR at he ⊢
 by_cases h3:t.fn=3
 ·rw [if_pos h3] at he ⊢; exact rev_right hax h he
 rw [if_neg h3] at he ⊢
 by_cases h4:t.fn=4
 ·rw [if_pos h4]
  exact trans_right h (dn_perm c.shape.length) (okR_flip hc).2.2 _ rfl rfl
 ·rw [if_neg h4]
  exact resh_right h (cells_check hc)
theorem meaR_ok {bs:List (List Int)} {t:Qf} {c:Qc} {v:List Int} (hax:-1≤t.axis) (h:okC bs c) (he:(meaR t c v).2=0):okC bs (meaR t c v).1∧dpC (meaR t c v).1≤dpC c+2:=by
 have hc:=okC_shape h
 unfold meaR at he ⊢
 by_cases h1:t.fn=1
 ·rw [if_pos h1] at he ⊢; exact take_right h he
 rw [if_neg h1] at he ⊢
 by_cases h2:t.fn=2
 ·rw [if_pos h2] at he ⊢; exact drop_right h he
 rw [if_neg h2] at he ⊢
 by_cases h3:t.fn=3
 ·rw [if_pos h3] at he ⊢; exact rot_right hax h he
 rw [if_neg h3] at he ⊢
 by_cases h4:t.fn=4
 ·rw [if_pos h4] at he ⊢
  have ht:transE v c.shape=0:=by
   unfold transR at he
   by_cases ht:transE v c.shape=0
   ·exact ht
   ·rw [if_neg ht] at he; exact he
  have e:(transR v c.shape).1=⟨[],c.shape,permL v c.shape,[],-1,0,v⟩:=by rw [transR,if_pos ht]
  dsimp only
  rw [e]
  unfold transE at ht
  by_cases hp:permE v c.shape.length=0
  ·rw [if_pos hp] at ht
   exact trans_right h hp ht _ rfl rfl
  ·rw [if_neg hp] at ht; exact absurd ht hp
 ·rw [if_neg h4] at he ⊢
  exact resh_right h (okR_resh hc).2.2
theorem cat_right {bs:List (List Int)} {ax:Int} {d c:Qc} (hax:-1≤ax) (hd:okC bs d) (hc:okC bs c) (he:(catR ax d.shape c.shape).2=0) :
  okC bs ⟨7,(catR ax d.shape c.shape).1.shape,0,[],(catR ax d.shape c.shape).1.axis,0,[],[seenC d (catR ax d.shape c.shape).1.left,seenC c (catR ax d.shape c.shape).1.right]⟩ ∧
  dpC ⟨7,(catR ax d.shape c.shape).1.shape,0,[],(catR ax d.shape c.shape).1.axis,0,[],[seenC d (catR ax d.shape c.shape).1.left,seenC c (catR ax d.shape c.shape).1.right]⟩≤max (dpC d) (dpC c)+2:=by
 have hok:=okR_cat hax (okC_shape hd) (okC_shape hc)
 obtain ⟨k1,k2,k3⟩:=hok
 obtain ⟨s1,s2,s3⟩:=seenC_right hd k1
 obtain ⟨t1,t2,t3⟩:=seenC_right hc k2
 refine ⟨okC_f.2 ⟨⟨?_,k3⟩,by show okCs bs [_,_]; rw [okCs,okCs,okCs]; exact ⟨s1,t1,trivial⟩⟩,by rw [dpC_f]; show dpCs [_,_]+1≤_; rw [dpCs,dpCs,dpCs]; omega⟩
 generalize hX:seenC d (catR ax d.shape c.shape).1.left=X at *
 generalize hY:seenC c (catR ax d.shape c.shape).1.right=Y at *
 clear hX hY
 unfold catR at he k3 s2 t2 ⊢
 generalize hR:max (max d.shape.length c.shape.length) 1=R at *
 dsimp only at he k3 s2 t2 ⊢
 by_cases h1:ax≥(R:Int)
 ·rw [if_pos h1] at he; cases he
 rw [if_neg h1] at he k3 s2 t2 ⊢
 have hkR:(if ax=-1 then (R:Int) - 1 else ax).toNat < R:=by split <;> omega
 generalize (if ax=-1 then (R:Int) - 1 else ax).toNat=k at *
 split at he
 ·cases he
 ·rename_i hbad
  rw [if_neg hbad] at k3 s2 t2 ⊢
  split at he
  ·rename_i ht
   rw [if_pos ht] at k3 s2 t2 ⊢
   dsimp only at k3 s2 t2 ⊢
   have lX:(widR d.shape c.shape R k).length=R:=widR_len hkR (by omega)
   have lY:(widR c.shape d.shape R k).length=R:=widR_len hkR (by omega)
   rw [← s2] at lX ht k3 ⊢
   rw [← t2] at lY ht k3 ⊢
   unfold tailE at ht
   by_cases c1:remL X.shape k=remL Y.shape k
   ·refine nd.cat k3 (by omega) (by omega) ?_ rfl
    have kX:k < X.shape.length:=by omega
    rw [rep_other (show k < Y.shape.length by omega) kX c1.symm,getD_el kX]
    exact rep_self kX
   ·rw [if_pos c1] at ht; cases ht
  ·exact absurd he (by assumption)
mutual
def stepsL:Qf→List Qf
 | ⟨k,f,a,nm,nu,ks⟩=>stepsR ks++[⟨k,f,a,nm,nu,ks⟩]
def stepsR:List Qf→List Qf
 | []=>[]
 | k::ks=>stepsR ks++stepsL k
end
theorem stepsL_f (t:Qf):stepsL t=stepsR t.kids++[t]:=by cases t; rw [stepsL]
theorem stepsR_one (k:Qf):stepsR [k]=stepsL k:=by simp [stepsR]
theorem stepsR_two (a k:Qf):stepsR [a,k]=stepsL k++stepsL a:=by simp [stepsR]
theorem stepsR_snoc:∀ (l:List Qf) (k:Qf),stepsR (l++[k])=stepsL k++stepsR l
 | [],k=>by simp [stepsR]
 | x::l,k=>by rw [List.cons_append,stepsR,stepsR_snoc l k,stepsR,List.append_assoc]
mutual
theorem stepsL_len:∀ t:Qf,(stepsL t).length=szT t
 | ⟨_,_,_,_,_,ks⟩=>by rw [stepsL,szT,List.length_append,stepsR_len ks]; simp; omega
theorem stepsR_len:∀ l:List Qf,(stepsR l).length=szTs l
 | []=>rfl
 | k::ks=>by rw [stepsR,szTs,List.length_append,stepsR_len ks,stepsL_len k]; omega
end
instance (v:ByteArray) (N:List ByteArray):Decidable (v∈N):=decidable_of_iff (∃ y∈N,y=v) (by simp)
def addN (N:List ByteArray) (x:Qf):List ByteArray:=if x.kind=2∧x.name ∉ N then N++[x.name] else N
def namesF (N:List ByteArray) (l:List Qf):List ByteArray:=l.foldl addN N
theorem addN_not {x:Qf} (h:x.kind≠2) (N:List ByteArray):addN N x=N:=by unfold addN; rw [if_neg (fun h'=>h h'.1)]
theorem addN_two {x:Qf} (h:x.kind=2) (N:List ByteArray):addN N x=if x.name∈N then N else N++[x.name]:=by
 unfold addN
 by_cases hx:x.name∈N
 ·rw [if_neg (fun h'=>h'.2 hx),if_pos hx]
 ·rw [if_pos ⟨h,hx⟩,if_neg hx]
def ixN:List ByteArray→ByteArray→Nat
 | [],_=>0
 | x::l,v=>if x=v then 0 else ixN l v+1
theorem ixN_lt:∀ {l:List ByteArray} {v:ByteArray},v∈l→ixN l v < l.length
 | x::l,v,h=>by
  rw [ixN]
  split
  ·simp
  ·rename_i hx
   have:=ixN_lt ((List.mem_cons.1 h).resolve_left (fun h'=>hx h'.symm))
   simp only [List.length_cons]; omega
theorem ixN_app:∀ {l:List ByteArray} {v:ByteArray} (m:List ByteArray),v∈l→ixN (l++m) v=ixN l v
 | x::l,v,m,h=>by
  rw [List.cons_append,ixN,ixN]
  split
  ·rfl
  ·rename_i hx
   rw [ixN_app m ((List.mem_cons.1 h).resolve_left (fun h'=>hx h'.symm))]
theorem ixN_snoc:∀ {l:List ByteArray} {v:ByteArray},v ∉ l→ixN (l++[v]) v=l.length
 | [],v,_=>by rw [List.nil_append,ixN,if_pos rfl]; rfl
 | x::l,v,h=>by
  rw [List.cons_append,ixN,if_neg (fun h'=>h (by rw [h']; exact List.mem_cons_self ..)),ixN_snoc (fun h'=>h (List.mem_cons_of_mem _ h'))]
  rfl
structure InvS (Z:ByteArray→Prop) (N:List ByteArray) (S:List Qj):Prop where
 met:∀ s∈S,s.name≠ByteArray.empty→s.name∈N
 has:∀ v∈N,¬ Z v→∃ s∈S,s.name=v
 once:S.Pairwise (fun a b=>b.name≠ByteArray.empty→a.name≠b.name)
 order:S.Pairwise (fun a b=>a.name≠ByteArray.empty→b.name≠ByteArray.empty→¬ Z b.name→ixN N a.name < ixN N b.name)
theorem InvS.nil (Z:ByteArray→Prop):InvS Z [] []:=⟨fun _ h=>(nomatch h),fun _ h=>(nomatch h),List.Pairwise.nil,List.Pairwise.nil⟩
theorem InvS.grow {Z:ByteArray→Prop} {N:List ByteArray} {S:List Qj} (h:InvS Z N S) (v:ByteArray) (hv:Z v∨∃ s∈S,s.name=v):InvS Z (N++[v]) S:=by
 refine ⟨fun s hs hn=>List.mem_append_left _ (h.met s hs hn),fun w hw hz=>?_,h.once,?_⟩
 ·rcases List.mem_append.1 hw with hw|hw
  ·exact h.has w hw hz
  ·rw [List.mem_singleton.1 hw] at hz ⊢
   exact hv.resolve_left hz
 ·refine List.Pairwise.imp_of_mem (fun {a b} ha hb hab na nb zb=>?_) h.order
  rw [ixN_app _ (h.met a ha na),ixN_app _ (h.met b hb nb)]
  exact hab na nb zb
theorem InvS.lit {Z:ByteArray→Prop} {N:List ByteArray} {S:List Qj} (h:InvS Z N S) (a:Qt):InvS Z N (S++[⟨ByteArray.empty,a⟩]):=by
 refine ⟨fun s hs hn=>?_,fun w hw hz=>?_,?_,?_⟩
 ·rcases List.mem_append.1 hs with hs|hs
  ·exact h.met s hs hn
  ·rw [List.mem_singleton.1 hs] at hn; exact absurd rfl hn
 ·obtain ⟨s,hs,e⟩:=h.has w hw hz
  exact ⟨s,List.mem_append_left _ hs,e⟩
 ·exact List.pairwise_append.2 ⟨h.once,List.pairwise_singleton _ _,fun x _ y hy hn=>by rw [List.mem_singleton.1 hy] at hn; exact absurd rfl hn⟩
 ·exact List.pairwise_append.2 ⟨h.order,List.pairwise_singleton _ _,fun x _ y hy _ hn=>by rw [List.mem_singleton.1 hy] at hn; exact absurd rfl hn⟩
theorem InvS.read {Z:ByteArray→Prop} {N:List ByteArray} {S:List Qj} (h:InvS Z N S) {x:Qf} (hk:x.kind=2) (hn:x.name≠ByteArray.empty) (a:Qt) :
  InvS Z (addN N x) (if ∃ s∈S,s.name=x.name then S else S++[⟨x.name,a⟩]):=by
 rw [addN_two hk]
 by_cases hS:∃ s∈S,s.name=x.name
 ·rw [if_pos hS]
  split
  ·exact h
  ·exact h.grow _ (Or.inr hS)
 ·rw [if_neg hS]
  have tail:∀ N',(∀ v∈N,v∈N')→(∀ v∈N',v∈N∨v=x.name)→x.name∈N'→(∀ v∈N,ixN N' v=ixN N v)→(¬ Z x.name→ixN N' x.name=N.length)→InvS Z N' (S++[⟨x.name,a⟩]):=fun N' i1 i2 i3 i4 i5=>by
   refine ⟨fun s hs hn=>?_,fun w hw hz=>?_,?_,?_⟩
   ·rcases List.mem_append.1 hs with hs|hs
    ·exact i1 _ (h.met s hs hn)
    ·rw [List.mem_singleton.1 hs]; exact i3
   ·rcases i2 w hw with hw|hw
    ·obtain ⟨s,hs,e⟩:=h.has w hw hz
     exact ⟨s,List.mem_append_left _ hs,e⟩
    ·exact ⟨_,List.mem_append_right _ (List.mem_singleton.2 rfl),hw.symm⟩
   ·exact List.pairwise_append.2 ⟨h.once,List.pairwise_singleton _ _,fun y hy z hz _ e=>hS ⟨y,hy,by rw [List.mem_singleton.1 hz] at e; exact e⟩⟩
   ·refine List.pairwise_append.2 ⟨List.Pairwise.imp_of_mem (fun {p q} hp hq hpq np nq zq=>?_) h.order,List.pairwise_singleton _ _,fun y hy z hz ny _ zz=>?_⟩
    ·rw [i4 _ (h.met p hp np),i4 _ (h.met q hq nq)]
     exact hpq np nq zq
    ·rw [List.mem_singleton.1 hz] at zz ⊢
     rw [i4 _ (h.met y hy ny),i5 zz]
     exact ixN_lt (h.met y hy ny)
  by_cases hN:x.name∈N
  ·rw [if_pos hN]
   exact tail N (fun _ h=>h) (fun _ h=>Or.inl h) hN (fun _ _=>rfl) (fun hz=>absurd (h.has _ hN hz) hS)
  ·rw [if_neg hN]
   exact tail _ (fun _ h=>List.mem_append_left _ h) (fun v hv=>(List.mem_append.1 hv).imp_right (fun h=>List.mem_singleton.1 h)) (List.mem_append_right _ (List.mem_singleton.2 rfl)) (fun v hv=>ixN_app _ hv) (fun _=>ixN_snoc hN)
theorem InvS.measure {Z:ByteArray→Prop} {N:List ByteArray} {S:List Qj} (h:InvS Z N S) {x:Qf} (hz:x.kind=2→Z x.name):InvS Z (addN N x) S:=by
 unfold addN
 split
 ·rename_i hx
  exact h.grow _ (Or.inl (hz hx.1))
 ·exact h
theorem steps_is:∀ (n:Nat) (t:Qf),szT t≤n→n≤600→Jc t=some (stepsL t)
 | 0,t,h,_=>by have:=szT_pos t; omega
 | n+1,t,h,hn=>by
  have hsz:=szT_f t
  have hlen:=szTs_len t.kids
  have loop:∀ (m:Nat) (acc:List Qf),m≤t.kids.length→acc.length+szTs (t.kids.take m)≤600 →
    ZS (t,acc,(m:Int) - 1)=some (acc++stepsR (t.kids.take m)):=by
   intro m
   induction m with
   | zero =>
    intro acc _ _
    rw [ZS]
    have:¬ (((0:Nat):Int) - 1≥0):=by omega
    simp only [this,if_false]
    simp [stepsR]
   | succ m ih =>
    intro acc hm ha
    have hml:m < t.kids.length:=hm
    have htk:t.kids.take (m+1)=t.kids.take m++[t.kids[m]]:=List.take_succ_eq_append_getElem hml
    have hs1:szTs (t.kids.take (m+1))=szTs (t.kids.take m)+szT t.kids[m]:=by rw [htk,szTs_app]; simp [szTs]
    have hall:szTs (t.kids.take (m+1))≤szTs t.kids:=by
     have:=szTs_app (t.kids.take (m+1)) (t.kids.drop (m+1))
     rw [List.take_append_drop] at this; omega
    have e:=steps_is n t.kids[m] (by omega) (by omega)
    have hl:=stepsL_len t.kids[m]
    have h1:(((m+1:Nat):Int) - 1≥0):=by omega
    have h2:((m+1:Nat):Int) - 1=(m:Int):=by omega
    have eo:=ih (acc++stepsL t.kids[m]) (by omega) (by simp; omega)
    rw [ZS]
    simp only [h1,if_true]
    rw [h2,W_ok (n:=(m:Int) - 1) (by omega) (by omega)]
    simp only [idx_ok hml,Ql,e,app_le2 (b:=88) (l:=acc) (es:=stepsL t.kids[m]) (by omega) (by omega),eo]
    rw [htk,stepsR_snoc,List.append_assoc]
  have eo:=loop t.kids.length [] (Nat.le_refl _) (by rw [List.take_length]; simp; omega)
  rw [List.take_length,List.nil_append] at eo
  have hl:=stepsR_len t.kids
  rw [Jc]
  have w:W ((t.kids.length:Int) - 1)=(t.kids.length:Int) - 1:=W_ok (by omega) (by omega)
  simp only [w,eo,Ql,app_le2 (b:=88) (l:=stepsR t.kids) (es:=[t]) (by simp; omega) (by omega)]
  rw [stepsL_f]
theorem in_L1is (nm:ByteArray):∀ (s p:List ByteArray),(p++s).length≤1000→XD (p++s,nm,(p.length:Int))=some (if nm∈s then .inl () else .inr ())
 | [],p,h=>by rw [XD]; simp only [Y3,if_false,List.not_mem_nil]
 | x::s,p,h=>by
  have ih:=in_L1is nm s (p++[x]) (by rw [← QV]; exact h)
  rw [← QV] at ih
  rw [XD]
  simp only [Ym,if_true,Zp,Ql,mid_W (Sm_le h),ih]
  by_cases hx:x=nm
  ·rw [if_pos hx,if_pos (by rw [hx]; exact List.mem_cons_self ..)]
  ·rw [if_neg hx]
   by_cases hs:nm∈s
   ·rw [if_pos hs,if_pos (List.mem_cons_of_mem _ hs)]
   ·rw [if_neg hs,if_neg (fun h=>(List.mem_cons.1 h).elim (fun h=>hx h.symm) hs)]
theorem in_is (nm:ByteArray) (l:List ByteArray) (h:l.length≤1000):QbE (nm,l)=some (decide (nm∈l)):=by
 have e:=in_L1is nm l [] h
 simp only [List.nil_append,List.length_nil,Int.natCast_zero] at e
 unfold QbE
 simp only [e,Ql]
 by_cases hx:nm∈l <;> simp [hx]
theorem names_L1is (t:Qf):∀ (s p:List Qf) (acc:List ByteArray),(p++s).length≤1000→acc.length≤p.length→Yi (p++s,t,acc,(p.length:Int))=some (namesF acc s)
 | [],p,acc,h,_=>by rw [Yi]; simp only [Y3,if_false]; rfl
 | x::s,p,acc,h,ha=>by
  have ih:=fun acc' (h':acc'.length≤p.length+1)=>names_L1is t s (p++[x]) acc' (by rw [← QV]; exact h) (by simpa using h')
  simp only [← QV] at ih
  have hp:p.length≤1000:=by simp at h; omega
  have eb:=in_is x.name acc (by omega)
  have e1:=ih acc (by omega)
  have e2:=ih (acc++[x.name]) (by simp; omega)
  rw [Yi]
  simp only [Ym,if_true,Zp,Ql,mid_W (Sm_le h),eb,e1,app_le2 (b:=16) (l:=acc) (es:=[x.name]) (by simp; omega) (by omega),e2]
  show _=some (namesF (addN acc x) s)
  by_cases hk:x.kind=2
  ·rw [addN_two hk]
   by_cases hm:x.name∈acc
   ·simp [hk,hm]
   ·simp [hk,hm]
  ·rw [addN_not hk]
   simp [hk]
theorem names_is {t:Qf} (h:szT t≤600):Qa1 t=some (namesF [] (stepsL t)):=by
 have e:=steps_is 600 t h (by omega)
 have hl:=stepsL_len t
 have eo:=names_L1is t (stepsL t) [] [] (by simp; omega) (by simp)
 simp only [List.nil_append,List.length_nil,Int.natCast_zero] at eo
 unfold Qa1
 simp only [e,Ql,eo]
theorem addN_len (N:List ByteArray) (x:Qf):(addN N x).length≤N.length+1:=by unfold addN; split <;> simp
theorem namesF_len:∀ (l:List Qf) (N:List ByteArray),(namesF N l).length≤N.length+l.length
 | [],N=>Nat.le_refl _
 | x::l,N=>by
  have:=namesF_len l (addN N x)
  have:=addN_len N x
  show (namesF (addN N x) l).length≤_
  simp only [List.length_cons]; omega
theorem sidx_dec {s:ByteArray} {i:Nat} {v:Int} (hv:sidx s (i:Int)=some v) (ha:v < 128):Utf8.decode s i=(v.toNat,1)∧0≤v:=by
 unfold sidx at hv
 rw [if_pos (by omega)] at hv
 simp only [Int.toNat_natCast,Option.map_eq_some_iff] at hv
 obtain ⟨b,hb,rfl⟩:=hv
 obtain ⟨h,rfl⟩:=Array.getElem?_eq_some_iff.1 hb
 exact ⟨decode_ascii s i h (by show (s.data[i]).toNat < 128; omega),by omega⟩
theorem letter_lt {v:Int} (h:YS v=some true):v < 128:=by
 unfold YS at h
 simp only [ite_som,Ql,Option.some.injEq] at h
 by_cases h1:v < 128
 ·exact h1
 ·have e1:¬ v≤90:=by omega
  have e2:¬ v≤122:=by omega
  have e3:¬ v=95:=by omega
  simp [e1,e2,e3] at h
theorem digit_lt {v:Int} (h:XB v=some true):v < 128:=by
 unfold XB at h
 simp only [ite_som,Option.some.injEq] at h
 by_cases h1:v < 128
 ·exact h1
 ·have e1:¬ v≤57:=by omega
  simp [e1] at h
theorem lex_letter (v:Int):QaD v=YS v:=rfl
theorem lex_digit (v:Int):QcL v=XB v:=rfl
theorem span_end (s:ByteArray) (hs:s.size≤1000000000000000000):∀ m i:Nat,i+m=s.size→ZO (s,(i:Int))=some (s.size:Int)→Zu (s,i)=some (.inr s.size)
 | 0,i,h,_=>by
  rw [Zu]
  have:¬ i < s.size:=by omega
  simp only [this,if_false]
  rw [Nat.add_zero] at h; rw [h]
 | m+1,i,h,he=>by
  have h1:((i:Int) < (s.size:Int)):=by omega
  obtain ⟨v,e⟩:=sidx_ok (b:=s) (i:=i) (by omega)
  obtain ⟨b,eb⟩:=letter_tot v
  obtain ⟨c,ec⟩:=digit_tot v
  have w:W ((i:Int)+1)=((i+1:Nat):Int):=W_succ (by omega)
  rw [ZO] at he
  simp only [h1,if_true,e,eb,ec,Ql,w] at he
  have hin:Qb2 v=some true∧v < 128∧ZO (s,((i+1:Nat):Int))=some (s.size:Int):=by
   unfold Qb2
   simp only [lex_letter,lex_digit,eb,ec,Ql]
   cases b with
   | true=>exact ⟨rfl,letter_lt eb,he⟩
   | false=>cases c with
    | true=>exact ⟨rfl,digit_lt ec,he⟩
    | false =>
     have:(some (i:Int))=some (s.size:Int):=he
     rw [Option.some.injEq] at this
     omega
  obtain ⟨q1,q2,q3⟩:=hin
  obtain ⟨hd,h0⟩:=sidx_dec e q2
  rw [Zu]
  have hv:((v.toNat:Nat):Int)=v:=by omega
  simp only [show i < s.size by omega,if_true,hd,hv,q1,Ql,Bool.true_eq_false,if_false]
  exact span_end s hs m (i+1) (by omega) q3
theorem lexName_ok {s:ByteArray} (hs:s.size≤1000000000000000000) (h:YA s=some true):Qcu s=some true∧s≠ByteArray.empty:=by
 have hp:(s.size:Int) > 0:=by
  by_cases hp:(s.size:Int) > 0
  ·exact hp
  ·unfold YA at h; simp only [hp,if_false,Ql,Bool.false_eq_true] at h; cases h
 obtain ⟨v,e⟩:=sidx_ok (b:=s) (i:=0) (by omega)
 obtain ⟨b,eb⟩:=letter_tot v
 have e':=e
 simp only [Int.natCast_zero] at e'
 unfold YA Qb3 at h
 simp only [hp,if_true,e',eb,Ql] at h
 cases b with
 | false=>simp at h
 | true =>
  simp only [if_true] at h
  cases hE:ZO (s,0) with
  | none=>rw [hE] at h; cases h
  | some r =>
   rw [hE] at h
   simp only [Ql,Option.some.injEq,beq_iff_eq] at h
   subst h
   have hsp:=span_end s hs s.size 0 (by omega) (by simpa using hE)
   obtain ⟨hd,h0⟩:=sidx_dec e (letter_lt eb)
   have hv:((v.toNat:Nat):Int)=v:=by omega
   have hl:QaD v=some true:=eb
   constructor
   ·unfold Qcu Qdr X0 QbP
    simp only [show 0 < s.size by omega,if_true,hd,hv,hl,Ql,Bool.true_eq_false,if_false,hsp,hp,beq_self_eq_true]
   ·intro h0; rw [h0] at hp; exact absurd hp (by decide)
theorem ite_e {c:Prop} [Decidable c] {α:Type} {a b:α} {P:α→Prop} (ha:c→P a) (hb:¬ c→P b):P (if c then a else b):=by
 split
 ·exact ha ‹_›
 ·exact hb ‹_›
theorem check5 (a:Qt) (h:a.shape.length≤1000):∃ e,Qa0 a=some e∧(e=0→checkR a.shape=0∧(a.data.length:Int)=prodI a.shape):=by
 unfold Qa0
 dsimp only
 simp only [Check_ok a.shape (Sm_le h),Cells_ok a.shape (Sm_le h),Ql,ite_som]
 by_cases hc:checkR a.shape=0
 ·have hcc:cellsR a.shape=prodI a.shape:=by rw [cellsR,if_pos hc]
  simp only [hc,if_true,hcc]
  by_cases hd:(a.data.length:Int)=prodI a.shape
  ·exact ⟨_,rfl,fun _=>⟨trivial,hd⟩⟩
  ·have:((a.data.length:Int) != prodI a.shape)=true:=by simp [hd]
   simp only [this,if_true]
   exact ⟨_,rfl,fun q=>absurd q (by decide)⟩
 ·simp only [hc,if_false,Bool.false_eq_true]
  exact ⟨_,rfl,fun q=>absurd q hc⟩
theorem inl_R {P:Prop}:∃ r,(some (Sum.inl ()):Option (Unit ⊕ Unit))=some r∧(r=.inr ()→P):=⟨_,rfl,fun h=>by cases h⟩
def bnd1 (b:Qb):Prop:=b.value.shape.length≤100∧b.value.data.length≤300∧b.name.size≤100
theorem few_L1 (l:List Qb) (hl:l.length≤1000):∀ (s p:List Qb),l=p++s→∃ r,Xc (l,300,(p.length:Int))=some r∧(r=.inr ()→∀ b∈s,bnd1 b)
 | [],p,e=>by
  rw [Xc]
  have:¬ ((p.length:Int) < (l.length:Int)):=by rw [e]; simp
  rw [if_neg this]
  exact ⟨_,rfl,fun _ b hb=>by cases hb⟩
 | x::s,p,e=>by
  rw [Xc]
  have h1:((p.length:Int) < (l.length:Int)):=by rw [e]; exact Ym
  have hi:idx l (p.length:Int)=some x:=by rw [e]; exact Zp
  have hw:W ((p.length:Int)+1)=((p++[x]).length:Int):=by
   have:=hl; rw [e] at this; exact mid_W (Sm_le this)
  obtain ⟨r,er,hr⟩:=few_L1 l hl s (p++[x]) (by rw [e]; simp)
  simp only [h1,if_true,hi,Ql,QcM,ite_som,hw]
  by_cases hq:bnd1 x
  ·obtain ⟨q1,q2,q3⟩:=hq
   refine ite_e (P:=fun (o:Option (Unit ⊕ Unit))=>∃ r,o=some r∧(r=.inr ()→∀ b∈x::s,bnd1 b)) (fun _=>inl_R) (fun _=>⟨r,er,fun h b hb=>?_⟩)
   rcases List.mem_cons.1 hb with rfl|hb
   ·exact ⟨q1,q2,q3⟩
   ·exact hr h b hb
  ·have hA:(if (if (x.value.shape.length:Int)≤100 then decide ((x.value.data.length:Int)≤300) else false)=false then true else decide ((x.name.size:Int) > 100))=true:=by
    by_cases a1:(x.value.shape.length:Int)≤100
    ·rw [if_pos a1]
     by_cases a2:(x.value.data.length:Int)≤300
     ·rw [decide_eq_true a2,if_neg (by decide),decide_eq_true_eq]
      by_cases a3:(x.name.size:Int) > 100
      ·exact a3
      ·exact absurd ⟨by omega,by omega,by omega⟩ hq
     ·rw [decide_eq_false a2,if_pos rfl]
    ·rw [if_neg a1,if_pos rfl]
   rw [if_pos hA]
   exact ⟨_,rfl,fun h=>by cases h⟩
theorem Few_is (l:List Qb):∃ b,Qb5 (l,300)=some b∧(b=true→l.length≤12∧∀ b∈l,bnd1 b):=by
 unfold Qb5
 by_cases h12:(l.length:Int) > 12
 ·exact ⟨false,by simp [h12],fun h=>by cases h⟩
 ·obtain ⟨r,er,hr⟩:=few_L1 l (by omega) l [] rfl
  simp only [List.length_nil,Int.natCast_zero] at er
  simp only [h12,if_false,er,Ql]
  cases r with
  | inl u=>exact ⟨false,rfl,fun h=>by cases h⟩
  | inr u=>exact ⟨true,rfl,fun _=>⟨by omega,hr rfl⟩⟩
theorem right_L2 (l:List Qb) (k:Nat) (hk:k < l.length) (hl:l.length≤1000):∀ m j:Nat,j+m=k→∃ r,YJ ((k:Int),l,(j:Int))=some r∧(r=.inr ()→∀ i,j≤i→(h:i < k)→l[i].name≠l[k].name)
 | 0,j,h=>by
  rw [YJ]
  have:¬ ((j:Int) < (k:Int)):=by omega
  rw [if_neg this]
  exact ⟨_,rfl,fun _ i h1 h2=>by omega⟩
 | m+1,j,h=>by
  rw [YJ]
  have h1:((j:Int) < (k:Int)):=by omega
  have hi:idx l (j:Int)=some l[j]:=idx_ok (by omega)
  have hi2:idx l (k:Int)=some l[k]:=idx_ok hk
  have w:W ((j:Int)+1)=((j+1:Nat):Int):=W_succ (by omega)
  simp only [h1,if_true,hi,hi2,Ql,w]
  obtain ⟨r,er,hr⟩:=right_L2 l k hk hl m (j+1) (by omega)
  refine ite_e (P:=fun (o:Option (Unit ⊕ Unit))=>∃ r,o=some r∧(r=.inr ()→∀ i,j≤i→(h:i < k)→l[i].name≠l[k].name)) (fun _=>⟨_,rfl,fun h=>by cases h⟩) (fun hne=>⟨r,er,fun hr' i i1 i2=>?_⟩)
  by_cases hij:i=j
  ·subst hij; exact hne
  ·exact hr hr' i (by omega) i2
def bnd2 (b:Qb):Prop:=checkR b.value.shape=0∧(b.value.data.length:Int)=prodI b.value.shape∧YA b.name=some true
theorem right_L1 (l:List Qb) (hl:l.length≤1000) (hb:∀ b∈l,bnd1 b):∀ (s p:List Qb),l=p++s→∃ r,YI (l,(p.length:Int))=some r∧(r=.inr ()→∀ k,p.length≤k→(h:k < l.length)→bnd2 l[k]∧∀ i (hi:i < k),l[i].name≠l[k].name)
 | [],p,e=>by
  rw [YI]
  have:¬ ((p.length:Int) < (l.length:Int)):=by rw [e]; simp
  rw [if_neg this]
  exact ⟨_,rfl,fun _ k h1 h2=>by omega⟩
 | x::s,p,e=>by
  rw [YI]
  have h1:((p.length:Int) < (l.length:Int)):=by rw [e]; exact Ym
  have hi:idx l (p.length:Int)=some x:=by rw [e]; exact Zp
  have hw:W ((p.length:Int)+1)=((p++[x]).length:Int):=by
   have:=hl; rw [e] at this; exact mid_W (Sm_le this)
  obtain ⟨r,er,hr⟩:=right_L1 l hl hb s (p++[x]) (by rw [e]; simp)
  obtain ⟨q1,q2,q3⟩:=hb x (by rw [e]; simp)
  obtain ⟨nb,en⟩:=name_tot x.name (by omega)
  obtain ⟨ce,ec,hce⟩:=check5 x.value (by omega)
  have hpl:p.length < l.length:=by omega
  have hx:l[p.length]=x:=by
   have:=idx_ok hpl; rw [hi] at this; exact (Option.some.inj this).symm
  obtain ⟨r2,e2,hr2⟩:=right_L2 l p.length hpl hl p.length 0 (by omega)
  simp only [Int.natCast_zero] at e2
  simp only [h1,if_true,hi,Ql,en,ec,e2,ite_som,hw]
  refine ite_e (P:=fun (o:Option (Unit ⊕ Unit))=>∃ r,o=some r∧(r=.inr ()→∀ k,p.length≤k→(h:k < l.length)→bnd2 l[k]∧∀ i (hi:i < k),l[i].name≠l[k].name)) (fun _=>inl_R) (fun hA=>?_)
  have hc0:ce=0∧nb=true:=by
   cases nb with
   | false=>exact absurd rfl hA
   | true =>
    by_cases q:ce=0
    ·exact ⟨q,rfl⟩
    ·exfalso; apply hA; simp [q]
  obtain ⟨hc0,rfl⟩:=hc0
  cases r2 with
  | inl u=>exact ⟨_,rfl,fun h=>by cases h⟩
  | inr u =>
   refine ⟨r,er,fun h k k1 k2=>?_⟩
   by_cases hk:k=p.length
   ·subst hk
    exact ⟨by rw [hx]; exact ⟨(hce hc0).1,(hce hc0).2,en⟩,fun i hi=>hr2 rfl i (Nat.zero_le _) hi⟩
   ·exact hr h k (by simp; omega) k2
def rightL (l:List Qb):Prop:=(∀ b∈l,bnd2 b)∧l.Pairwise (fun a b=>a.name≠b.name)
theorem Right_is (l:List Qb) (hl:l.length≤1000) (hb:∀ b∈l,bnd1 b):∃ b,Qa4 l=some b∧(b=true→rightL l):=by
 obtain ⟨r,er,hr⟩:=right_L1 l hl hb l [] rfl
 simp only [List.length_nil,Int.natCast_zero] at er
 unfold Qa4
 simp only [er,Ql]
 cases r with
 | inl u=>exact ⟨false,rfl,fun h=>by cases h⟩
 | inr u =>
  refine ⟨true,rfl,fun _=>⟨fun b hb=>?_,List.pairwise_iff_getElem.2 fun i j h1 h2 hij=>(hr rfl j (Nat.zero_le _) h2).2 i hij⟩⟩
  obtain ⟨k,hk,rfl⟩:=List.mem_iff_getElem.1 hb
  exact (hr rfl k (Nat.zero_le _) hk).1
def smOf:List Qb→Nat→List (ByteArray × Int)
 | [],_=>[]
 | b::l,k=>(b.name,(k:Int))::smOf l (k+1)
theorem smOf_none {nm:ByteArray}:∀ {l:List Qb} (k:Nat),(∀ b∈l,b.name≠nm)→getS (smOf l k) nm=none
 | [],_,_=>rfl
 | b::l,k,h=>by
  rw [smOf,getS,if_neg (fun e=>h b (List.mem_cons_self ..) e.symm)]
  exact smOf_none (k+1) (fun x hx=>h x (List.mem_cons_of_mem _ hx))
theorem smOf_get {nm:ByteArray}:∀ (l:List Qb) (k:Nat),getS (smOf l k) nm=none∧(∀ b∈l,b.name≠nm)∨∃ i,∃ h:i < l.length,getS (smOf l k) nm=some ((k+i:Nat):Int)∧l[i].name=nm
 | [],_=>Or.inl ⟨rfl,fun _ h=>by cases h⟩
 | b::l,k=>by
  by_cases e:nm=b.name
  ·exact Or.inr ⟨0,by simp,by rw [smOf,getS,if_pos e]; rfl,e.symm⟩
  ·rcases smOf_get l (k+1) with ⟨h1,h2⟩|⟨i,h,h1,h2⟩
   ·refine Or.inl ⟨by rw [smOf,getS,if_neg e]; exact h1,fun x hx=>?_⟩
    rcases List.mem_cons.1 hx with rfl|hx
    ·exact fun h=>e h.symm
    ·exact h2 x hx
   ·refine Or.inr ⟨i+1,by simp only [List.length_cons]; omega,?_,by simpa using h2⟩
    rw [smOf,getS,if_neg e,h1]
    congr 2; omega
theorem smOf_set {x:Qb}:∀ (l:List Qb) (k:Nat),(∀ b∈l,b.name≠x.name)→setS (smOf l k) x.name ((k+l.length:Nat):Int)=smOf (l++[x]) k
 | [],k,_=>rfl
 | b::l,k,h=>by
  have ih:=smOf_set l (k+1) (fun y hy=>h y (List.mem_cons_of_mem _ hy))
  rw [List.cons_append,smOf,smOf,setS,if_neg (fun e=>h b (List.mem_cons_self ..) e.symm),← ih]
  simp only [List.length_cons]
  congr 3; omega
theorem copied_is (l:List Int) (hl:l.length≤1000):XI l=some l∧YE l=some l:=by
 have hcc:cpM (List.replicate l.length (0:Int)) l=l:=by unfold cpM; simp
 have hm:makeM 8 (l.length:Int) (0:Int)=some (List.replicate l.length 0):=by
  have hr:(1000:Nat) * 8≤room:=by decide +kernel
  have:((l.length:Int) * 8≤(room:Int)):=by omega
  simp [makeM,this]; omega
 have hg:l.length=(List.replicate l.length (0:Int)).length:=by simp
 constructor
 ·unfold XI
  simp only [hm,Ql,hcc]
  rw [Z3,if_pos hg]; rfl
 ·unfold YE
  simp only [hm,Ql,hcc]
  rw [Z3,if_pos hg]; rfl
theorem Copy_is {a:Qt} (h1:a.shape.length≤1000) (h2:a.data.length≤1000):XX a=some a:=by
 unfold XX
 simp only [(copied_is _ h1).1,(copied_is _ h2).2,Ql]
theorem aCheck_is {a:Qt} (h:checkR a.shape=0) (hd:(a.data.length:Int)=prodI a.shape):XA a=some 0:=by
 have hs:a.shape.length≤1000:=by have:=(checkR_zero.1 h).2.1; omega
 have hc:cellsR a.shape=prodI a.shape:=by rw [cellsR,if_pos h]
 unfold XA
 simp only [shapeCheck_ok _ (Sm_le hs),shapeCells_ok _ (Sm_le hs),h,hc,hd,Ql,ne_eq,not_true_eq_false,if_false]
def okL (l:List Qb):Prop:=l.length≤12∧(∀ b∈l,bnd1 b)∧rightL l
theorem envRight_is {b:Qb} (h1:bnd1 b) (h2:bnd2 b):Qb1 b=some true:=by
 unfold Qb1
 have e:=(lexName_ok (s:=b.name) (by have:=h1.2.2; omega) h2.2.2).1
 have e2:XA (⟨b.value.shape,b.value.data⟩:Qt)=some 0:=aCheck_is (a:=b.value) h2.1 h2.2.1
 simp only [e,Ql,if_true,e2]
 rfl
theorem envCopied_is {b:Qb} (h1:bnd1 b):Qbt b=some b:=by
 unfold Qbt
 have e2:XX (⟨b.value.shape,b.value.data⟩:Qt)=some b.value:=Copy_is (a:=b.value) (by have:=h1.1; show _≤1000; omega) (by have:=h1.2.1; show _≤1000; omega)
 simp only [e2,Ql]
theorem New_L1 {l:List Qb} (hl:okL l):∀ (s p:List Qb),l=p++s→Yb (l,smOf p 0,p,(p.length:Int))=some (.inr (smOf l 0,l))
 | [],p,h=>by
  rw [Yb]
  have:¬ ((p.length:Int) < (l.length:Int)):=by rw [h]; simp
  rw [if_neg this]
  rw [List.append_nil] at h; rw [h]
 | x::s,p,h=>by
  have ih:=New_L1 hl s (p++[x]) (by rw [h]; simp)
  rw [Yb]
  have h1:((p.length:Int) < (l.length:Int)):=by rw [h]; exact Ym
  have hi:idx l (p.length:Int)=some x:=by rw [h]; exact Zp
  have h12:=hl.1
  have hpl:p.length+1≤12:=by rw [h] at h12; simp at h12; omega
  have hw:W ((p.length:Int)+1)=((p++[x]).length:Int):=by
   have:l.length≤1000:=by omega
   rw [h] at this; exact mid_W (Sm_le this)
  have hx:x∈l:=by rw [h]; simp
  have hp:∀ y∈p,y.name≠x.name:=by
   have:=hl.2.2.2; rw [h] at this
   intro y hy
   exact (List.pairwise_append.1 this).2.2 y hy x (List.mem_cons_self ..)
  have hlk:lookS (smOf p 0) x.name=(0,false):=by rw [lookS,smOf_none 0 hp]; rfl
  have hst:setS (smOf p 0) x.name (p.length:Int)=smOf (p++[x]) 0:=by
   have:=smOf_set p 0 hp; rwa [Nat.zero_add] at this
  simp only [h1,if_true,hi,Ql,Xu,hlk,Bool.false_eq_true,if_false,envRight_is (hl.2.1 x hx) (hl.2.2.1 x hx),Bool.not_true,envCopied_is (hl.2.1 x hx),
   app_le2 (b:=64) (l:=p) (es:=[x]) (by simp; omega) (by omega),hst,hw,ih]
theorem Make_is {l:List Qb} (hl:okL l):XK l=some (.inr (smOf l 0,l,l)):=by
 have h:=New_L1 hl l [] rfl
 simp only [List.length_nil,Int.natCast_zero] at h
 have h0:smOf [] 0=[]:=rfl
 rw [h0] at h
 unfold XK Qa9
 simp only [h,Ql]
theorem Get_is {l:List Qb} (hl:okL l) (nm:ByteArray):Yu (nm,smOf l 0,l,l)=some ([],[],false)∨∃ b∈l,b.name=nm∧Yu (nm,smOf l 0,l,l)=some (b.value.shape,b.value.data,true):=by
 unfold Yu XN Xv
 rcases smOf_get (nm:=nm) l 0 with ⟨h,_⟩|⟨i,hi,h,hn⟩
 ·have e:lookS (smOf l 0) nm=(0,false):=by rw [lookS,h]; rfl
  simp only [e,Ql,if_true]
  exact Or.inl trivial
 ·rw [Nat.zero_add] at h
  have e:lookS (smOf l 0) nm=((i:Int),true):=by rw [lookS,h]; rfl
  have hm:l[i]∈l:=List.getElem_mem hi
  have h1:=hl.2.1 _ hm
  have ec:XX (⟨l[i].value.shape,l[i].value.data⟩:Qt)=some l[i].value:=Copy_is (a:=l[i].value) (by have:=h1.1; show _≤1000; omega) (by have:=h1.2.1; show _≤1000; omega)
  refine Or.inr ⟨l[i],hm,hn,?_⟩
  simp only [e,Ql,Bool.true_eq_false,if_false,idx_ok hi,ec]
def litA (v:List Int):Qt:=⟨if v.length=1 then [] else [(v.length:Int)],v⟩
theorem litA_right {v:List Int} (hv:v.length≤1000):checkR (litA v).shape=0∧((litA v).data.length:Int)=prodI (litA v).shape:=by
 have h:checkR (litA v).shape=0:=by
  unfold litA
  split
  ·rfl
  ·refine checkR_zero.2 ⟨fun x hx=>?_,by simp,?_⟩
   ·simp only [List.mem_singleton] at hx; subst hx; omega
   ·show prodI [(v.length:Int)]≤_; simp [prodI]; omega
 refine ⟨h,?_⟩
 unfold litA
 split
 ·rename_i h1; show (v.length:Int)=_; rw [h1]; rfl
 ·simp [prodI]
theorem readS_is {l:List Qb} (hl:okL l) (a:Qf) (hv:a.nums.length≤1000):∃ v b e,X4 (a.kind,a.fn,a.axis,a.name,a.nums,a.kids,smOf l 0,l,l)=some (v,b,e)∧v.length≤1000:=by
 unfold X4
 by_cases h:a.kind=1
 ·simp only [h,if_true,Clone64_ok _ hv,Ql]
  exact ⟨_,_,_,rfl,hv⟩
 ·simp only [h,if_false]
  rcases Get_is hl a.name with e|⟨b,hb,_,e⟩
  ·simp only [e,Ql,if_true]
   exact ⟨_,_,_,rfl,by simp⟩
  ·simp only [e,Ql,Bool.true_eq_false,if_false]
   split
   ·exact ⟨_,_,_,rfl,by simp⟩
   ·exact ⟨_,_,_,rfl,by have:=(hl.2.1 b hb).2.1; omega⟩
theorem catR_dims {t:Qf} (h:formF t):-1≤t.axis:=by
 rcases h with h|h|h|h
 ·omega
 ·omega
 ·obtain ⟨_,_,_,_,h⟩:=h; unfold axF at h; omega
 ·obtain ⟨_,_,_,_,_,_,h,_⟩:=h; unfold axF at h; omega
theorem uniqB:∀ {l:List Qb},l.Pairwise (fun a b=>a.name≠b.name)→∀ a∈l,∀ b∈l,a.name=b.name→a=b
 | [],_,a,ha,_,_,_=>(nomatch ha)
 | x::l,h,a,ha,b,hb,e=>by
  obtain ⟨h1,h2⟩:=List.pairwise_cons.1 h
  rcases List.mem_cons.1 ha with ha'|ha'
  ·rcases List.mem_cons.1 hb with hb'|hb'
   ·rw [ha',hb']
   ·exact absurd (ha' ▸ e) (h1 b hb')
  ·rcases List.mem_cons.1 hb with hb'|hb'
   ·exact absurd (hb' ▸ e.symm) (h1 a ha')
   ·exact uniqB h2 a ha' b hb' e
def bndS (l:List Qb) (ss:List Qj):Prop:=∀ s∈ss,s.value.shape.length≤100∧(s.name=ByteArray.empty∨∃ b∈l,b.name=s.name∧b.value=s.value)
def shs (ss:List Qj):List (List Int):=ss.map fun s=>s.value.shape
theorem idxS_at {nm:ByteArray} {sh da:List Int} {a:List (ByteArray × Int)} {b c:List Qb}:∀ (s p:List Qj),(p++s).length≤1000 →
  ((nm≠ByteArray.empty∧∃ x∈s,x.name=nm)∧∃ u v w,∃ k:Nat,QD (p++s,nm,sh,da,a,b,c,(p.length:Int))=some (.inl (u,v,w,(k:Int)))∧∃ x,(p++s)[k]? = some x∧x.name=nm) ∨
  (¬ (nm≠ByteArray.empty∧∃ x∈s,x.name=nm)∧QD (p++s,nm,sh,da,a,b,c,(p.length:Int))=some (.inr ()))
 | [],p,h=>by
  refine Or.inr ⟨fun ⟨_,x,hx,_⟩=>(nomatch hx),?_⟩
  rw [QD]; simp only [Y3,if_false]
 | x::s,p,h=>by
  have ih:=idxS_at (nm:=nm) (sh:=sh) (da:=da) (a:=a) (b:=b) (c:=c) s (p++[x]) (by rw [← QV]; exact h)
  rw [← QV] at ih
  rw [QD]
  have e:∀ q1 q2 q9,Yq (x.name,q1,q2,nm,sh,da,a,b,c,q9)=some (decide (nm≠ByteArray.empty∧x.name=nm)):=fun q1 q2 q9=>by
   unfold Yq
   by_cases h1:nm=ByteArray.empty
   ·simp [h1]
   ·by_cases h2:x.name=nm <;> simp [h1,h2]
  simp only [Ym,if_true,Zp,Ql,e,mid_W (Sm_le h)]
  by_cases hq:nm≠ByteArray.empty∧x.name=nm
  ·rw [decide_eq_true hq,if_pos rfl]
   exact Or.inl ⟨⟨hq.1,x,List.mem_cons_self ..,hq.2⟩,_,_,_,p.length,rfl,x,by simp,hq.2⟩
  ·rw [decide_eq_false hq,if_neg (by decide)]
   rcases ih with ⟨⟨i1,y,hy,i2⟩,r⟩|⟨i1,r⟩
   ·exact Or.inl ⟨⟨i1,y,List.mem_cons_of_mem _ hy,i2⟩,r⟩
   ·refine Or.inr ⟨fun ⟨j1,y,hy,j2⟩=>?_,r⟩
    rcases List.mem_cons.1 hy with rfl|hy
    ·exact hq ⟨j1,j2⟩
    ·exact i1 ⟨j1,y,hy,j2⟩
theorem read_at {ss:List Qj} (hs:ss.length≤1000) {nm:ByteArray} {v:Qt} (hsh:v.shape.length≤1000) (a:List (ByteArray × Int)) (b c:List Qb) :
  ∃ (ss2:List Qj) (k:Nat),Z8 (nm,v.shape,v.data,a,b,c,ss)=some (ss2,v.shape,(k:Int)) ∧
   (ss2=ss∧(nm≠ByteArray.empty∧∃ x,ss[k]? = some x∧x.name=nm)∨ss2=ss++[⟨nm,v⟩]∧k=ss.length):=by
 have happ:=app_le2 (b:=64) (l:=ss) (es:=[(⟨nm,⟨v.shape,v.data⟩⟩:Qj)]) (by simp; omega) (by omega)
 unfold Z8 Zc
 rcases idxS_at (nm:=nm) (sh:=v.shape) (da:=v.data) (a:=a) (b:=b) (c:=c) ss [] hs with ⟨h,u,w,z,k,e,hx⟩|⟨h,e⟩
 ·simp only [List.nil_append,List.length_nil,Int.natCast_zero] at e hx
  have:¬ ((k:Int) < 0):=by omega
  simp only [e,Ql,this,if_false,Clone_ok _ hsh]
  exact ⟨_,k,rfl,Or.inl ⟨rfl,h.1,hx⟩⟩
 ·simp only [List.nil_append,List.length_nil,Int.natCast_zero] at e
  simp only [e,Ql,happ,Clone_ok _ hsh]
  exact ⟨_,ss.length,rfl,Or.inr ⟨rfl,rfl⟩⟩
theorem atom_r {l:List Qb} (hl:okL l) {t:Qf} (hF:formF t) (hk:t.kids.length=0) (hv:t.nums.length≤1000) {ss:List Qj} (hs:ss.length≤1000) (hB:bndS l ss) :
  ∃ ss' sh k e,YG (t.kind,t.fn,t.axis,t.name,t.nums,t.kids,smOf l 0,l,l,ss)=some (ss',(if e=0 then 1 else 0),sh,k,e) ∧
   (e=0→(t.kind=1∨t.kind=2)∧ss'.length≤ss.length+1∧bndS l ss'∧okC (shs ss') ⟨1,sh,k,[],0,0,[],[]⟩∧∃ r,ss'=ss++r∧∀ s∈r,s.name=ByteArray.empty∨t.kind=2∧t.name=s.name):=by
 unfold YG
 have hkind:(t.kind=1∧t.name=ByteArray.empty)∨(t.kind=2∧YA t.name=some true):=by
  rcases hF with h|h|h|h
  ·exact Or.inl ⟨h.1,h.2.2.2.1⟩
  ·exact Or.inr ⟨h.1,h.2.2.2.1⟩
  ·have:=h.2.2.2.1; omega
  ·have:=h.2.2.2.1; omega
 rcases hkind with ⟨h1,hn⟩|⟨h1,hn⟩
 ·obtain ⟨r1,r2⟩:=litA_right hv
  have hsh:(litA t.nums).shape.length≤1000:=by unfold litA; split <;> simp
  obtain ⟨ss2,k,er,hk2⟩:=read_at hs (nm:=ByteArray.empty) (v:=litA t.nums) hsh (smOf l 0) l l
  have hmid:((if (t.nums.length:Int)=1 then idx t.nums 0>>=fun v4=>Qbp v4>>=fun (v5:Qt)=>some (v5.shape,v5.data) else some ((⟨[(t.nums.length:Int)],t.nums⟩:Qt).shape,(⟨[(t.nums.length:Int)],t.nums⟩:Qt).data)):Option (List Int × List Int))=some ((litA t.nums).shape,(litA t.nums).data):=by
   unfold litA
   by_cases h:t.nums.length=1
   ·obtain ⟨x,hx⟩:=List.length_eq_one_iff.1 h
    rw [hx]; rfl
   ·have:¬ (t.nums.length:Int)=1:=by omega
    simp only [this,h,if_false]
  unfold Qbq
  simp only [h1,if_true,(copied_is _ hv).2,Ql]
  rw [hmid]
  have ec:XA (⟨(litA t.nums).shape,(litA t.nums).data⟩:Qt)=some 0:=aCheck_is (a:=litA t.nums) r1 r2
  simp only [Ql,ec,ne_eq,not_true_eq_false,if_false,er]
  rcases hk2 with ⟨_,h,_⟩|⟨rfl,rfl⟩
  ·exact absurd rfl h
  refine ⟨_,(litA t.nums).shape,_,0,rfl,fun _=>⟨Or.inl trivial,by simp,fun s hs=>?_,?_,_,rfl,fun s hs=>?_⟩⟩
  ·rcases List.mem_append.1 hs with hs|hs
   ·exact hB s hs
   ·rw [List.mem_singleton.1 hs]; exact ⟨by show (litA t.nums).shape.length≤100; unfold litA; split <;> simp,Or.inl rfl⟩
  ·exact okC_f.2 ⟨⟨nd.buf (by simp [shs]) r1,r1⟩,by rw [okCs]; trivial⟩
  ·rw [List.mem_singleton.1 hs]; exact Or.inl rfl
 ·have hz:¬ t.kind=1:=by rw [h1]; decide
  simp only [hz,if_false]
  rcases Get_is hl t.name with e|⟨b,hb,hbn,e⟩
  ·simp only [e,Ql,if_true]
   exact ⟨ss,[],0,2,rfl,fun h=>absurd h (by decide)⟩
  ·have h1b:=hl.2.1 b hb
   have h2b:=hl.2.2.1 b hb
   obtain ⟨ss2,k,er,hk2⟩:=read_at hs (nm:=t.name) (v:=b.value) (by have:=h1b.1; omega) (smOf l 0) l l
   simp only [e,Ql,Bool.true_eq_false,if_false,er]
   have hne:t.name≠ByteArray.empty:=by rw [← hbn]; exact (lexName_ok (by have:=h1b.2.2; omega) h2b.2.2).2
   rcases hk2 with ⟨rfl,_,x,hx,hxn⟩|⟨rfl,rfl⟩
   ·have hxm:x∈ss2:=List.mem_of_getElem? hx
    have hxe:x.value=b.value:=by
     rcases (hB x hxm).2 with h|⟨b',hb',h1',h2'⟩
     ·exact absurd (hxn.symm.trans h) hne
     ·rw [← h2',uniqB hl.2.2.2 b' hb' b hb (by rw [h1',hxn,hbn])]
    refine ⟨_,b.value.shape,_,0,rfl,fun _=>⟨Or.inr h1,by omega,hB,?_,[],by simp,fun s hs=>(nomatch hs)⟩⟩
    exact okC_f.2 ⟨⟨nd.buf (by simp [shs,hx,hxe]) h2b.1,h2b.1⟩,by rw [okCs]; trivial⟩
   ·refine ⟨_,b.value.shape,_,0,rfl,fun _=>⟨Or.inr h1,by simp,fun s hs=>?_,?_,_,rfl,fun s hs=>?_⟩⟩
    ·rcases List.mem_append.1 hs with hs|hs
     ·exact hB s hs
     ·rw [List.mem_singleton.1 hs]; exact ⟨h1b.1,Or.inr ⟨b,hb,hbn,rfl⟩⟩
    ·exact okC_f.2 ⟨⟨nd.buf (by simp [shs]) h2b.1,h2b.1⟩,by rw [okCs]; trivial⟩
    ·rw [List.mem_singleton.1 hs]; exact Or.inr ⟨h1,rfl⟩
theorem mea_r {l:List Qb} (hl:okL l) {t a k:Qf} {c:Qc} {ss:List Qj} (hk:t.kids=[a,k]) (hv:a.nums.length≤1000) (hf:1≤t.fn∧t.fn≤5) (hax:-1≤t.axis) {bs:List (List Int)} (hC:okC bs c) :
  ∃ (d:Qc) (e:Int),Z0 (t.kind,t.fn,t.axis,t.name,t.nums,t.kids,c.kind,c.shape,c.buffer,c.starts,c.axis,c.amount,c.perm,c.kids,smOf l 0,l,l,ss)=some (d.kind,d.shape,d.buffer,d.starts,d.axis,d.amount,d.perm,d.kids,e)∧(e=0→okC bs d∧dpC d≤dpC c+2):=by
 have hc:=okC_shape hC
 have hlc:=(checkR_zero.1 hc).2.1
 have e0:idx t.kids 0=some a:=by rw [hk]; rfl
 obtain ⟨v,b,e,er,hvl⟩:=readS_is hl a hv
 unfold Z0
 simp only [e0,Ql,er]
 by_cases h1:e=0
 ·subst h1
  simp only [ne_eq,not_true_eq_false,if_false,etaC]
  have hf':t.fn=1∨t.fn=2∨t.fn=3∨t.fn=4∨t.fn=5:=by omega
  refine ⟨(meaR t c v).1,(meaR t c v).2,?_,fun h=>meaR_ok hax hC h⟩
  unfold meaR
  rcases hf' with hf|hf|hf|hf|hf
  ·have hr:=(okR_len (okR_take (l:=v) hc)).2.1
   simp only [hf,if_true,Take_ok v _ c.shape hvl hc,Ql,window_okC (takeR v c.shape).1 c (by omega)]
  ·have hr:=(okR_len (okR_drop (l:=v) hc)).2.1
   simp only [hf,nq21,if_false,if_true,Drop_ok v _ c.shape hvl hc,Ql,window_okC (dropR v c.shape).1 c (by omega)]
  ·simp only [hf,nq31,nq32,if_false,if_true,Rotate_ok v _ hax hvl hc,Ql,turned_ok]
  ·simp only [hf,nq41,nq42,nq43,if_false,if_true,Transpose_ok v _ c.shape hvl hlc,Ql,transposed_ok]
  ·simp only [hf,nq51,nq52,nq53,nq54,if_false,Reshape_ok v _ c.shape hvl (show _≤1000 by omega),Ql,reshaped_ok]
 ·simp only [h1,ne_eq,not_false_eq_true,if_true]
  exact ⟨⟨0,[],0,[],0,0,[],[]⟩,e,rfl,fun h=>absurd h h1⟩
def simR (l:List Qb) (t:Qf) (ss:List Qj):Prop:=∃ (ss':List Qj) (c:Qc) (e:Int),
 QO (t.kind,t.fn,t.axis,t.name,t.nums,t.kids,smOf l 0,l,l,ss)=some (ss',c.kind,c.shape,c.buffer,c.starts,c.axis,c.amount,c.perm,c.kids,e) ∧
 (e=0→okC (shs ss') c∧ss'.length≤ss.length+szT t∧bndS l ss'∧dpC c≤3 * szT t∧∃ r,ss'=ss++r∧∀ s∈r,s.name=ByteArray.empty∨∃ x∈stepsL t,x.kind=2∧x.name=s.name)
theorem shs_app (a b:List Qj):shs (a++b)=shs a++shs b:=by simp [shs]
theorem expr_r {l:List Qb} (hl:okL l):∀ (n:Nat) (t:Qf),szT t≤n→good t→numT t≤1000→∀ ss:List Qj,ss.length+szT t≤900→bndS l ss→simR l t ss
 | 0,t,h,_,_,_,_,_=>by have:=szT_pos t; omega
 | n+1,t,h,hg,hN,ss,hs,hB=>by
  have hg':=good_f.1 hg
  obtain ⟨hF,hK⟩:=hg'
  have hax:=catR_dims hF
  have hsz:=szT_f t
  have hnum:=numT_f t
  by_cases h0:t.kids.length=0
  ·obtain ⟨ss',sh,k,e,ea,ha⟩:=atom_r hl hF h0 (show t.nums.length≤1000 by omega) (show ss.length≤1000 by omega) hB
   refine ⟨ss',⟨if e=0 then 1 else 0,sh,k,[],0,0,[],[]⟩,e,?_,fun he=>?_⟩
   ·rw [QO]
    simp only [h0,Int.natCast_zero,if_true,ea,Ql]
   ·obtain ⟨a1,a2,a3,a4,r,a5,a6⟩:=ha he
    rw [if_pos he]
    refine ⟨a4,by omega,a3,?_,r,a5,fun s hs=>(a6 s hs).imp_right fun h=>⟨t,by rw [stepsL_f]; simp,h.1,h.2⟩⟩
    rw [dpC_f]; show 0+1≤_; omega
  have hn0:¬ (t.kids.length:Int)=0:=by omega
  have hF':(t.kind=3∧t.kids.length=1)∨(t.kind=4∧t.kids.length=2∧1≤t.fn∧t.fn≤6∧(t.fn=6∨(t.kids.getD 0 noT).kind=1∨(t.kids.getD 0 noT).kind=2)):=by
   rcases hF with h|h|h|h
   ·exact absurd h.2.2.2.2 h0
   ·exact absurd h.2.2.2.2.2 h0
   ·exact Or.inl ⟨h.1,h.2.2.2.1⟩
   ·exact Or.inr ⟨h.1,h.2.2.2.1,h.2.2.2.2.1,h.2.2.2.2.2.1,h.2.2.2.2.2.2.2⟩
  rcases hF' with ⟨h3,h4⟩|⟨h3,h4,f1,f2,f3⟩
  ·-- one operand
   obtain ⟨k,hk⟩:=kids1 h4
   rw [hk] at hK hsz hnum
   have s1:=sz1 k
   have zk:=szT_pos k
   obtain ⟨ss',c,e,e1,r1⟩:=expr_r hl n k (by omega) (goods1.1 hK) (by omega) ss (by omega) hB
   have ik:idx t.kids (W ((t.kids.length:Int) - 1))=some k:=by rw [hk]; rfl
   by_cases he:e=0
   ·subst he
    obtain ⟨q1,q2,q3,q4,r,q5,q6⟩:=r1 rfl
    refine ⟨ss',(monR t c).1,(monR t c).2,?_,fun h=>?_⟩
    ·rw [QO]
     simp only [hn0,if_false,ik,Ql,e1,ne_eq,not_true_eq_false,etaT,etaC,monad_okC t c (okC_shape q1)]
     simp only [h3,if_true]
    ·obtain ⟨m1,m2⟩:=monR_ok hax q1 h
     refine ⟨m1,by omega,q3,by omega,r,q5,fun s hs=>(q6 s hs).imp_right fun ⟨x,hx,h⟩=>⟨x,by rw [stepsL_f,hk,stepsR_one]; simp [hx],h⟩⟩
   ·refine ⟨ss',⟨0,[],0,[],0,0,[],[]⟩,e,?_,fun h=>absurd h he⟩
    rw [QO]
    simp only [hn0,if_false,ik,Ql,e1,ne_eq,he,not_false_eq_true,if_true]
  ·-- two operands
   obtain ⟨a,k,hk⟩:=kids2 h4
   rw [hk] at hK hsz hnum f3
   obtain ⟨ga,gk⟩:=goods2.1 hK
   have s1:=sz2 a k
   have f3:t.fn=6∨a.kind=1∨a.kind=2:=f3
   have zk:=szT_pos k
   have za:=szT_pos a
   obtain ⟨ss',c,e,e1,r1⟩:=expr_r hl n k (by omega) gk (by omega) ss (by omega) hB
   have ik:idx t.kids (W ((t.kids.length:Int) - 1))=some k:=by rw [hk]; rfl
   have i0:idx t.kids 0=some a:=by rw [hk]; rfl
   have h34:¬ t.kind=3:=by omega
   by_cases he:e=0
   case neg =>
    refine ⟨ss',⟨0,[],0,[],0,0,[],[]⟩,e,?_,fun h0=>absurd h0 he⟩
    rw [QO]
    simp only [hn0,if_false,ik,Ql,e1,ne_eq,he,not_false_eq_true,if_true]
   subst he
   obtain ⟨q1,q2,q3,q4,r,q5,q6⟩:=r1 rfl
   have hst:∀ x,x∈stepsL k∨x∈stepsL a→x∈stepsL t:=fun x hx=>by
    rw [stepsL_f,hk,stepsR_two]; simp only [List.mem_append]; exact Or.inl hx
   by_cases h6:t.fn=6
   ·obtain ⟨ss2,d,e2,g1,w1⟩:=expr_r hl n a (by omega) ga (by omega) ss' (by omega) q3
    have hps:QO (t.kind,t.fn,t.axis,t.name,t.nums,t.kids,smOf l 0,l,l,ss)=(Zq (t.kind,t.fn,t.axis,t.name,t.nums,t.kids,c.kind,c.shape,c.buffer,c.starts,c.axis,c.amount,c.perm,c.kids,smOf l 0,l,l,ss')>>=fun ((v19,v20,v21,v22,v23,v24):((List Qj) × Int × (List Int) × Int × (List Qc) × Int)) =>
      some (v19,v20,v21,(0:Int),([]:List Int),v22,(0:Int),([]:List Int),v23,v24)):=by
     rw [QO]
     simp only [hn0,if_false,ik,Ql,e1,ne_eq,not_true_eq_false,h34,XJ]
     simp only [h6,if_true]
    rw [Zq] at hps
    simp only [i0,Ql,g1] at hps
    by_cases he2:e2=0
    case neg =>
     refine ⟨ss2,⟨0,[],0,[],0,0,[],[]⟩,e2,?_,fun h0=>absurd h0 he2⟩
     rw [hps]; simp only [ne_eq,he2,not_false_eq_true,if_true,Ql]
    subst he2
    obtain ⟨u1,u2,u3,u4,r',u5,u6⟩:=w1 rfl
    have q1':okC (shs ss2) c:=by rw [u5,shs_app]; exact q1.mono _ _
    obtain ⟨dd,ld,_⟩:=checkR_zero.1 (okC_shape u1)
    obtain ⟨dc,lc,_⟩:=checkR_zero.1 (okC_shape q1)
    have hok:=okR_cat hax (okC_shape u1) (okC_shape q1)
    obtain ⟨l1,l2,l3⟩:=okR_len hok
    simp only [ne_eq,not_true_eq_false,if_false,Cat_ok hax ld lc dd dc,Ql,etaC,seen_okC d (catR t.axis d.shape c.shape).1.left (by omega),seen_okC c _ (show (catR t.axis d.shape c.shape).1.right.length≤1000 by omega)] at hps
    refine ⟨ss2,⟨7,(catR t.axis d.shape c.shape).1.shape,0,[],(catR t.axis d.shape c.shape).1.axis,0,[],[seenC d (catR t.axis d.shape c.shape).1.left,seenC c (catR t.axis d.shape c.shape).1.right]⟩,(catR t.axis d.shape c.shape).2,hps,fun h=>?_⟩
    obtain ⟨m1,m2⟩:=cat_right hax u1 q1' h
    refine ⟨m1,by omega,u3,by omega,r++r',by rw [u5,q5,List.append_assoc],fun s hs=>?_⟩
    rcases List.mem_append.1 hs with hs|hs
    ·exact (q6 s hs).imp_right fun ⟨x,hx,h⟩=>⟨x,hst x (Or.inl hx),h⟩
    ·exact (u6 s hs).imp_right fun ⟨x,hx,h⟩=>⟨x,hst x (Or.inr hx),h⟩
   ·obtain ⟨d,e2,hm,hd⟩:=mea_r (ss:=ss') hl hk (show a.nums.length≤1000 by have:=numT_f a; omega) ⟨f1,by omega⟩ hax q1
    refine ⟨ss',d,e2,?_,fun h=>?_⟩
    ·rw [QO]
     simp only [hn0,if_false,ik,Ql,e1,ne_eq,not_true_eq_false,h34,XJ]
     simp only [h6,if_false,hm,Ql]
    ·obtain ⟨m1,m2⟩:=hd h
     exact ⟨m1,by omega,q3,by omega,r,q5,fun s hs=>(q6 s hs).imp_right fun ⟨x,hx,h⟩=>⟨x,hst x (Or.inl hx),h⟩⟩
theorem namesF_has:∀ (l:List Qf) (N:List ByteArray),(∀ v∈N,v∈namesF N l)∧∀ x∈l,x.kind=2→x.name∈namesF N l
 | [],N=>⟨fun v h=>h,fun x h=>(nomatch h)⟩
 | y::l,N=>by
  obtain ⟨i1,i2⟩:=namesF_has l (addN N y)
  have e:namesF N (y::l)=namesF (addN N y) l:=rfl
  rw [e]
  have hN:∀ v∈N,v∈addN N y:=fun v hv=>by unfold addN; split; exact List.mem_append_left _ hv; exact hv
  refine ⟨fun v hv=>i1 v (hN v hv),fun x hx hk=>?_⟩
  rcases List.mem_cons.1 hx with rfl|hx
  ·refine i1 _ ?_
   rw [addN_two hk]; split
   ·assumption
   ·simp
  ·exact i2 x hx hk
theorem get_L1 (l:List Qb) (hl:l.length≤1000) (nm:ByteArray):∀ (s p:List Qb),l=p++s→∃ r,Xd (l,nm,(p.length:Int))=some r∧∀ b∈s,b.name=nm→(∀ x∈l,x.name=nm→x=b)→r=.inl (b.value.shape,b.value.data)
 | [],p,e=>by
  rw [Xd]
  have:¬ ((p.length:Int) < (l.length:Int)):=by rw [e]; simp
  rw [if_neg this]
  exact ⟨_,rfl,fun b hb=>(nomatch hb)⟩
 | y::s,p,e=>by
  obtain ⟨r,er,hr⟩:=get_L1 l hl nm s (p++[y]) (by rw [e]; simp)
  rw [Xd]
  have h1:((p.length:Int) < (l.length:Int)):=by rw [e]; exact Ym
  have hi:idx l (p.length:Int)=some y:=by rw [e]; exact Zp
  have hw:W ((p.length:Int)+1)=((p++[y]).length:Int):=by
   rw [e] at hl; exact mid_W (Sm_le hl)
  simp only [h1,if_true,hi,Ql,hw,er]
  by_cases hy:y.name=nm
  ·rw [if_pos hy]
   refine ⟨_,rfl,fun b hb hn hu=>?_⟩
   rw [hu y (by rw [e]; simp) hy]
  ·rw [if_neg hy]
   refine ⟨r,rfl,fun b hb hn hu=>?_⟩
   rcases List.mem_cons.1 hb with rfl|hb
   ·exact absurd hn hy
   ·exact hr b hb hn hu
theorem Get_at {l:List Qb} (hl:okL l) (nm:ByteArray):∃ a o,Qb6 (l,nm)=some (a,o)∧∀ b∈l,b.name=nm→a=b.value∧o=true:=by
 obtain ⟨r,er,hr⟩:=get_L1 l (by have:=hl.1; omega) nm l [] rfl
 simp only [List.length_nil,Int.natCast_zero] at er
 unfold Qb6
 simp only [er,Ql]
 cases r with
 | inl x=>exact ⟨_,_,rfl,fun b hb hn=>by cases hr b hb hn (fun x hx hx'=>uniqB hl.2.2.2 x hx b hb (by rw [hx',hn])); exact ⟨rfl,rfl⟩⟩
 | inr x=>exact ⟨_,_,rfl,fun b hb hn=>by cases hr b hb hn (fun x hx hx'=>uniqB hl.2.2.2 x hx b hb (by rw [hx',hn]))⟩
theorem eq5_L1 (a:Qt) (hl:a.data.length≤1000):∀ (s p:List Int),a.data=p++s→YH (a,a,(p.length:Int))=some (.inr ())
 | [],p,e=>by
  rw [YH]
  have:¬ ((p.length:Int) < (a.data.length:Int)):=by rw [e]; simp
  rw [if_neg this]
 | y::s,p,e=>by
  have ih:=eq5_L1 a hl s (p++[y]) (by rw [e]; simp)
  rw [YH]
  have h1:((p.length:Int) < (a.data.length:Int)):=by rw [e]; exact Ym
  have hi:idx a.data (p.length:Int)=some y:=by rw [e]; exact Zp
  have hw:W ((p.length:Int)+1)=((p++[y]).length:Int):=by
   rw [e] at hl; exact mid_W (Sm_le hl)
  simp only [h1,if_true,hi,Ql,ne_eq,not_true_eq_false,if_false,hw,ih]
theorem Equal5 (a:Qt) (h1:a.shape.length≤1000) (h2:a.data.length≤1000):JT (a,a)=some true:=by
 have e:=eq5_L1 a h2 a.data [] rfl
 simp only [List.length_nil,Int.natCast_zero] at e
 unfold JT
 simp only [Equal_ok _ _ (Sm_le h1),Ql,decide_true,Bool.true_eq_false,if_false,bne_self_eq_false,Bool.false_eq_true,e]
theorem shs_L1 (c:Qc) (S:List Qj) (hS:S.length≤1000) (hv:∀ s∈S,s.value.shape.length≤1000):∀ (s p:List Qj),S=p++s→YF (⟨c,S⟩,shs p,(p.length:Int))=some (shs S)
 | [],p,e=>by
  rw [YF]
  have:¬ ((p.length:Int) < (S.length:Int)):=by rw [e]; simp
  rw [if_neg this,e,List.append_nil]
 | y::s,p,e=>by
  have ih:=shs_L1 c S hS hv s (p++[y]) (by rw [e]; simp)
  rw [YF]
  have h1:((p.length:Int) < (S.length:Int)):=by rw [e]; exact Ym
  have hi:idx S (p.length:Int)=some y:=by rw [e]; exact Zp
  have hw:W ((p.length:Int)+1)=((p++[y]).length:Int):=by
   rw [e] at hS; exact mid_W (Sm_le hS)
  have ha:app 24 (shs p) ([y.value.shape]:List (List Int))=some (shs (p++[y])):=by
   have hp:p.length≤S.length:=by rw [e]; simp
   rw [app_le2 (show (shs p).length+([y.value.shape]:List (List Int)).length≤100000000 by simp [shs]; omega) (by omega)]
   simp [shs]
  simp only [h1,if_true,hi,Ql,Clone_ok _ (hv y (by rw [e]; simp)),ha,hw,ih]
theorem rt_L1 {l:List Qb} (hl:okL l) {N:List ByteArray} (hN:N.length≤1000) {S:List Qj} (hS:S.length≤1000) (hB:bndS l S) (hM:∀ s∈S,s.name=ByteArray.empty∨s.name∈N) (v15:(List (ByteArray × Int))) (v16:(List Qb)) (v17:(List Qb)) (v18:Int) (v19:(List Int)) (v20:Int) (v21:(List Int)) (v22:Int) (v23:Int) (v24:(List Int)) (v25:(List Qc)) (v26:(List Qj)) (v27:(List Qj)) (v28:Int) (v29:(List Int)) (v30:Int) (v31:(List Int)) (v32:Int) (v33:Int) (v34:(List Int)) (v35:(List Qc)) (v36:Int) (v37:(List Int)) (v38:Int) (v39:(List Int)) (v40:Int) (v41:Int) (v42:(List Int)) (v43:(List Qc)):∀ (s p:List Qj),S=p++s →
  ZH (S,l,N,v15,v16,v17,v18,v19,v20,v21,v22,v23,v24,v25,v26,v27,v28,v29,v30,v31,v32,v33,v34,v35,v36,v37,v38,v39,v40,v41,v42,v43,(p.length:Int))=some (.inr ())
 | [],p,e=>by
  rw [ZH]
  have:¬ ((p.length:Int) < (S.length:Int)):=by rw [e]; simp
  rw [if_neg this]
 | y::s,p,e=>by
  have ih:=rt_L1 hl hN hS hB hM v15 v16 v17 v18 v19 v20 v21 v22 v23 v24 v25 v26 v27 v28 v29 v30 v31 v32 v33 v34 v35 v36 v37 v38 v39 v40 v41 v42 v43 s (p++[y]) (by rw [e]; simp)
  have hy:y∈S:=by rw [e]; simp
  rw [ZH]
  have h1:((p.length:Int) < (S.length:Int)):=by rw [e]; exact Ym
  have hi:idx S (p.length:Int)=some y:=by rw [e]; exact Zp
  have hw:W ((p.length:Int)+1)=((p++[y]).length:Int):=by
   rw [e] at hS; exact mid_W (Sm_le hS)
  obtain ⟨a,o,eg,hg⟩:=Get_at hl y.name
  simp only [h1,if_true,hi,Ql,eg,hw,ih,in_is _ _ hN]
  by_cases hn:y.name=ByteArray.empty
  ·simp only [hn,ne_eq,not_true_eq_false,if_false,Ql,Bool.false_eq_true]
  ·obtain ⟨b,hb,hbn,hbv⟩:=(hB y hy).2.resolve_left hn
   obtain ⟨ha,ho⟩:=hg b hb hbn
   have h1b:=hl.2.1 b hb
   have eE:JT (a,y.value)=some true:=by
    rw [ha,← hbv]; exact Equal5 _ (by have:=h1b.1; omega) (by have:=h1b.2.1; omega)
   simp only [ne_eq,hn,not_false_eq_true,if_true,ho,Bool.true_eq_false,if_false,eE,Ql,Bool.not_true,Bool.false_eq_true,decide_eq_true ((hM y hy).resolve_left hn)]
theorem ElabRight_ok (l:List Qb) (t:Qf) (hb:numT t≤szT t * 140737488351232) (hn:namesOk t):XZ (l,t)=some true:=by
 obtain ⟨b1,e1,h1⟩:=Few_is l
 obtain ⟨b3,e3,h3⟩:=tSmall_ok t hb hn
 unfold XZ
 simp only [QbO,Ql,Bool.true_eq_false,if_false,etaT,e1]
 cases b1 with
 | false=>simp
 | true =>
 obtain ⟨h12,hb1⟩:=h1 rfl
 obtain ⟨b2,e2,h2⟩:=Right_is l (by omega) hb1
 simp only [Bool.not_true,Bool.false_eq_true,if_false,Ql,e2]
 cases b2 with
 | false=>simp
 | true =>
 have hl:okL l:=⟨h12,hb1,h2 rfl⟩
 simp only [Bool.not_true,Bool.false_eq_true,if_false,Ql,e3]
 cases b3 with
 | false=>simp
 | true =>
 obtain ⟨⟨f1,f2,f3⟩,_,hg⟩:=h3.1 rfl
 obtain ⟨S,c,e,eE,hE⟩:=expr_r hl 60 t f1 hg (by omega) [] (by simp; omega) (fun s h=>(nomatch h))
 have hpl:=namesF_len (stepsL t) []
 have hsl:=stepsL_len t
 unfold J9
 simp only [Bool.not_true,Bool.false_eq_true,if_false,Ql,Make_is hl,eE]
 by_cases he:e=0
 case neg =>
  simp only [he,ne_eq,not_false_eq_true,if_true,Ql]
  rfl
 subst he
 obtain ⟨q1,q2,q3,q4,r,q5,q6⟩:=hE rfl
 simp only [ne_eq,not_true_eq_false,if_false,Ql,names_is (show szT t≤600 by omega)]
 have hS:S.length≤1000:=by simp at q2; omega
 have hM:∀ s∈S,s.name=ByteArray.empty∨s.name∈namesF [] (stepsL t):=fun s hs=>by
  rw [q5,List.nil_append] at hs
  exact (q6 s hs).imp_right fun ⟨x,hx,hk,hxn⟩=>by rw [← hxn]; exact (namesF_has (stepsL t) []).2 x hx hk
 have eL1:=fun v15 v16 v17 v18 v19 v20 v21 v22 v23 v24 v25 v26 v27 v28 v29 v30 v31 v32 v33 v34 v35 v36 v37 v38 v39 v40 v41 v42 v43=>rt_L1 hl (show (namesF [] (stepsL t)).length≤1000 by simp at hpl; omega) hS q3 hM v15 v16 v17 v18 v19 v20 v21 v22 v23 v24 v25 v26 v27 v28 v29 v30 v31 v32 v33 v34 v35 v36 v37 v38 v39 v40 v41 v42 v43 S [] rfl
 simp only [List.length_nil,Int.natCast_zero] at eL1
 have eS:QaX (⟨c,S⟩:ZM)=some (shs S):=by
  have:=shs_L1 c S hS (fun s hs=>?_) S [] rfl
  ·simp only [List.length_nil,Int.natCast_zero] at this
   unfold QaX
   simp only [show ([]:List (List Int))=shs [] from rfl,this,Ql]
  ·have:=(q3 s hs).1; omega
 simp only [eL1,Ql,etaC',eS,Right_true q1 (show dpC c≤300 by omega)]
set_option maxHeartbeats 2000000
theorem ua9:prog.underlying 9=some TypeDesc.string:=by kernel_rfl
theorem ua3:prog.underlying 3=some (TypeDesc.int IntKind.i64):=by kernel_rfl
theorem ua33:prog.underlying 33=some (TypeDesc.slice 3):=by kernel_rfl
theorem ua2:prog.underlying 2=some (TypeDesc.int IntKind.i64):=by kernel_rfl
theorem ua23:prog.underlying 23=some (TypeDesc.slice 2):=by kernel_rfl
theorem ua46 : prog.underlying 46 = some (TypeDesc.struct { toList := [{ name := "Shape", type := 33, offset := 0, embedded := false, tag := "", pkgPath := "", byteOffset := 0 }, { name := "Data", type := 23, offset := 1, embedded := false, tag := "", pkgPath := "", byteOffset := 24 }] }) := by kernel_rfl
theorem ua59 : prog.underlying 59 = some (TypeDesc.struct { toList := [{ name := "Name", type := 9, offset := 0, embedded := false, tag := "", pkgPath := "", byteOffset := 0 }, { name := "Value", type := 46, offset := 1, embedded := false, tag := "", pkgPath := "", byteOffset := 16 }] }) := by kernel_rfl
theorem ua22:prog.underlying 22=some (TypeDesc.slice 59):=by kernel_rfl
theorem ua26 : prog.underlying 26 = some (TypeDesc.struct { toList := [{ name := "Kind", type := 3, offset := 0, embedded := false, tag := "", pkgPath := "", byteOffset := 0 }, { name := "Fn", type := 3, offset := 1, embedded := false, tag := "", pkgPath := "", byteOffset := 8 }, { name := "Axis", type := 3, offset := 2, embedded := false, tag := "", pkgPath := "", byteOffset := 16 }, { name := "Name", type := 9, offset := 3, embedded := false, tag := "", pkgPath := "", byteOffset := 24 }, { name := "Nums", type := 23, offset := 4, embedded := false, tag := "", pkgPath := "", byteOffset := 40 }, { name := "Kids", type := 24, offset := 5, embedded := false, tag := "", pkgPath := "", byteOffset := 64 }] }) := by kernel_rfl
theorem ua24:prog.underlying 24=some (TypeDesc.slice 26):=by kernel_rfl
theorem ua4:prog.underlying 4=some TypeDesc.bool:=by kernel_rfl
theorem exists_map {α β:Type} {f:β→α} {p:β→Prop}:∀ {L:List α},(∀ x∈L,∃ y,x=f y∧p y)→∃ l:List β,L=l.map f∧∀ y∈l,p y
 | [],_=>⟨[],rfl,fun y h=>by cases h⟩
 | x::L,h=>by
  obtain ⟨y,rfl,hy⟩:=h x (List.mem_cons_self ..)
  obtain ⟨l,rfl,hl⟩:=exists_map (fun x hx=>h x (List.mem_cons_of_mem _ hx))
  exact ⟨y::l,rfl,fun z hz=>by
   rcases List.mem_cons.1 hz with rfl|hz
   ·exact hy
   ·exact hl z hz⟩
variable {B:Nat} {n:Nat} {cs:List Dat}
theorem tc9 (h:TyC prog B n 9 cs):∃ m:ByteArray,cs=[strD m]∧m.size≤B:=by
 cases n with
 | zero=>exact h.elim
 | succ n =>
  simp only [TyC,ua9] at h
  obtain ⟨m,rfl,hm⟩:=h
  exact ⟨m,rfl,hm⟩
theorem tc3 (h:TyC prog B n 3 cs):∃ m:Int,cs=[(Qi m)]∧((-9223372036854775808)≤m∧m≤9223372036854775807):=by
 cases n with
 | zero=>exact h.elim
 | succ n =>
  simp only [TyC,ua3] at h
  obtain ⟨m,rfl,hm⟩:=h
  refine ⟨m,rfl,?_⟩
  simpa [Lit.wf,IntKind.min,IntKind.max,IntKind.signed,IntKind.bits] using hm
def ok33 (B:Nat) (x:(List Int)):Prop:=x.length≤B∧∀ m∈x,((-9223372036854775808)≤m∧m≤9223372036854775807)
theorem tc33 (h:TyC prog B n 33 cs):∃ l:(List Int),cs=[.lst ((List.map Qi) l)]∧ok33 B l:=by
 cases n with
 | zero=>exact h.elim
 | succ n =>
  simp only [TyC,ua33] at h
  obtain ⟨L,rfl,hl,hx⟩:=h
  obtain ⟨l,rfl,hm⟩:=exists_map (f:=fun m=>[(Qi m)]) (p:=fun m=>((-9223372036854775808)≤m∧m≤9223372036854775807)) (fun x hx'=>tc3 (hx x hx'))
  refine ⟨l,?_,by simpa using hl,hm⟩
  have e:(l.map (fun m=>[(Qi m)])).map (elemD prog 3)=l.map Qi:=by
   rw [List.map_map]; exact List.map_congr_left (fun m _=>by simp only [Function.comp_apply]; simp [elemD,aggB,ua3])
  rw [e]
theorem tc2 (h:TyC prog B n 2 cs):∃ m:Int,cs=[(Qi m)]∧((-9223372036854775808)≤m∧m≤9223372036854775807):=by
 cases n with
 | zero=>exact h.elim
 | succ n =>
  simp only [TyC,ua2] at h
  obtain ⟨m,rfl,hm⟩:=h
  refine ⟨m,rfl,?_⟩
  simpa [Lit.wf,IntKind.min,IntKind.max,IntKind.signed,IntKind.bits] using hm
def ok23 (B:Nat) (x:(List Int)):Prop:=x.length≤B∧∀ m∈x,((-9223372036854775808)≤m∧m≤9223372036854775807)
theorem tc23 (h:TyC prog B n 23 cs):∃ l:(List Int),cs=[.lst ((List.map Qi) l)]∧ok23 B l:=by
 cases n with
 | zero=>exact h.elim
 | succ n =>
  simp only [TyC,ua23] at h
  obtain ⟨L,rfl,hl,hx⟩:=h
  obtain ⟨l,rfl,hm⟩:=exists_map (f:=fun m=>[(Qi m)]) (p:=fun m=>((-9223372036854775808)≤m∧m≤9223372036854775807)) (fun x hx'=>tc2 (hx x hx'))
  refine ⟨l,?_,by simpa using hl,hm⟩
  have e:(l.map (fun m=>[(Qi m)])).map (elemD prog 2)=l.map Qi:=by
   rw [List.map_map]; exact List.map_congr_left (fun m _=>by simp only [Function.comp_apply]; simp [elemD,aggB,ua2])
  rw [e]
structure ok46 (B:Nat) (x:Qt):Prop where
 shape:(ok33 B x.shape)
 data:(ok23 B x.data)
theorem tc46 (h:TyC prog B n 46 cs):∃ x:Qt,cs=[(.lst ((List.map Qi) x.shape)),(.lst ((List.map Qi) x.data))]∧ok46 B x:=by
 cases n with
 | zero=>exact h.elim
 | succ n =>
  simp only [TyC,ua46,List.foldr] at h
  obtain ⟨_,_,rfl,h0,_,_,rfl,h1,rfl⟩:=h
  obtain ⟨m0,rfl,i0⟩:=tc33 h0
  obtain ⟨m1,rfl,i1⟩:=tc23 h1
  exact ⟨⟨m0,m1⟩,rfl,i0,i1⟩
structure ok59 (B:Nat) (x:Qb):Prop where
 name:(x.name.size≤B)
 value:(ok46 B x.value)
theorem tc59 (h:TyC prog B n 59 cs):∃ x:Qb,cs=[(strD x.name),(.lst ((List.map Qi) x.value.shape)),(.lst ((List.map Qi) x.value.data))]∧ok59 B x:=by
 cases n with
 | zero=>exact h.elim
 | succ n =>
  simp only [TyC,ua59,List.foldr] at h
  obtain ⟨_,_,rfl,h0,_,_,rfl,h1,rfl⟩:=h
  obtain ⟨m0,rfl,i0⟩:=tc9 h0
  obtain ⟨m1,rfl,i1⟩:=tc46 h1
  exact ⟨⟨m0,m1⟩,rfl,i0,i1⟩
def ok22 (B:Nat) (x:(List Qb)):Prop:=x.length≤B∧∀ m∈x,(ok59 B m)
theorem tc22 (h:TyC prog B n 22 cs):∃ l:(List Qb),cs=[.lst ((List.map Qb.toD) l)]∧ok22 B l:=by
 cases n with
 | zero=>exact h.elim
 | succ n =>
  simp only [TyC,ua22] at h
  obtain ⟨L,rfl,hl,hx⟩:=h
  obtain ⟨l,rfl,hm⟩:=exists_map (f:=fun m=>[(strD m.name),(.lst ((List.map Qi) m.value.shape)),(.lst ((List.map Qi) m.value.data))]) (p:=fun m=>(ok59 B m)) (fun x hx'=>tc59 (hx x hx'))
  refine ⟨l,?_,by simpa using hl,hm⟩
  have e:(l.map (fun m=>[(strD m.name),(.lst ((List.map Qi) m.value.shape)),(.lst ((List.map Qi) m.value.data))])).map (elemD prog 59)=l.map Qb.toD:=by
   rw [List.map_map]; exact List.map_congr_left (fun m _=>by simp only [Function.comp_apply]; simp [elemD,aggB,ua59]; rfl)
  rw [e]
mutual
def ok26 (B:Nat):Qf→Prop
 | ⟨kind,fn,axis,name,nums,kids⟩=>(((-9223372036854775808)≤kind∧kind≤9223372036854775807))∧(((-9223372036854775808)≤fn∧fn≤9223372036854775807))∧(((-9223372036854775808)≤axis∧axis≤9223372036854775807))∧((name.size≤B))∧((ok23 B nums))∧(kids.length≤B∧okl26 B kids)
def okl26 (B:Nat):List Qf→Prop
 | []=>True
 | k::ks=>ok26 B k∧okl26 B ks
end
theorem okl26_of:∀ {l:List Qf},(∀ y∈l,ok26 B y)→okl26 B l
 | [],_=>by rw [okl26]; trivial
 | y::l,h=>by rw [okl26]; exact ⟨h y (List.mem_cons_self ..),okl26_of fun z hz=>h z (List.mem_cons_of_mem _ hz)⟩
theorem ts26 (ih:∀ cs,TyC prog B n 24 cs→∃ l:List Qf,cs=[.lst (Qf.toDs l)]∧l.length≤B∧okl26 B l) (h:TyC prog B (n+1) 26 cs):∃ x:Qf,cs=[(Qi x.kind),(Qi x.fn),(Qi x.axis),(strD x.name),(.lst ((List.map Qi) x.nums)),(.lst (Qf.toDs x.kids))]∧ok26 B x:=by
 simp only [TyC,ua26,List.foldr] at h
 obtain ⟨_,_,rfl,h0,_,_,rfl,h1,_,_,rfl,h2,_,_,rfl,h3,_,_,rfl,h4,_,_,rfl,h5,rfl⟩:=h
 obtain ⟨m0,rfl,i0⟩:=tc3 h0
 obtain ⟨m1,rfl,i1⟩:=tc3 h1
 obtain ⟨m2,rfl,i2⟩:=tc3 h2
 obtain ⟨m3,rfl,i3⟩:=tc9 h3
 obtain ⟨m4,rfl,i4⟩:=tc23 h4
 obtain ⟨m5,rfl,i5⟩:=ih _ h5
 exact ⟨⟨m0,m1,m2,m3,m4,m5⟩,rfl,by rw [ok26]; exact ⟨i0,i1,i2,i3,i4,i5⟩⟩
theorem tl26 (ih:∀ cs,TyC prog B n 26 cs→∃ x:Qf,cs=[(Qi x.kind),(Qi x.fn),(Qi x.axis),(strD x.name),(.lst ((List.map Qi) x.nums)),(.lst (Qf.toDs x.kids))]∧ok26 B x) (h:TyC prog B (n+1) 24 cs):∃ l:List Qf,cs=[.lst (Qf.toDs l)]∧l.length≤B∧okl26 B l:=by
 simp only [TyC,ua24] at h
 obtain ⟨L,rfl,hl,hx⟩:=h
 obtain ⟨l,rfl,hm⟩:=exists_map (f:=fun (x:Qf)=>[(Qi x.kind),(Qi x.fn),(Qi x.axis),(strD x.name),(.lst ((List.map Qi) x.nums)),(.lst (Qf.toDs x.kids))]) (p:=fun x=>ok26 B x) (fun c hc=>ih c (hx c hc))
 refine ⟨l,?_,by simpa using hl,okl26_of hm⟩
 have e:(l.map (fun (x:Qf)=>[(Qi x.kind),(Qi x.fn),(Qi x.axis),(strD x.name),(.lst ((List.map Qi) x.nums)),(.lst (Qf.toDs x.kids))])).map (elemD prog 26)=Qf.toDs l:=by
  rw [Qf.toDs_eq,List.map_map]; exact List.map_congr_left (fun m _=>by rw [Qf.toD_eq]; simp only [Function.comp_apply]; simp [elemD,aggB,ua26]; rfl)
 rw [e]
theorem tr26:∀ n,(∀ cs,TyC prog B n 26 cs→∃ x:Qf,cs=[(Qi x.kind),(Qi x.fn),(Qi x.axis),(strD x.name),(.lst ((List.map Qi) x.nums)),(.lst (Qf.toDs x.kids))]∧ok26 B x)∧(∀ cs,TyC prog B n 24 cs→∃ l:List Qf,cs=[.lst (Qf.toDs l)]∧l.length≤B∧okl26 B l)
 | 0=>⟨fun _ h=>h.elim,fun _ h=>h.elim⟩
 | n+1=>⟨fun _ h=>ts26 (tr26 n).2 h,fun _ h=>tl26 (tr26 n).1 h⟩
theorem tc26 (h:TyC prog B n 26 cs):∃ x:Qf,cs=[(Qi x.kind),(Qi x.fn),(Qi x.axis),(strD x.name),(.lst ((List.map Qi) x.nums)),(.lst (Qf.toDs x.kids))]∧ok26 B x:=(tr26 n).1 cs h
theorem ty22 {d:Dat} (h:TyA prog B 22 d):∃ m:(List Qb),d=(.lst ((List.map Qb.toD) m))∧(ok22 B m):=by
 obtain ⟨n,cs,h,hd⟩:=h
 obtain ⟨m,rfl,hm⟩:=tc22 h
 exact ⟨m,by rw [hd]; simp [elemD,aggB,ua22],hm⟩
theorem ty26 {d:Dat} (h:TyA prog B 26 d):∃ m:Qf,d=(Qf.ex m)∧(ok26 B m):=by
 obtain ⟨n,cs,h,hd⟩:=h
 obtain ⟨m,rfl,hm⟩:=tc26 h
 exact ⟨m,by rw [hd]; simp [elemD,aggB,ua26]; rfl,hm⟩
def argTs:List TypeId:=[9,3,33,2,23,46,59,22,26,24,4]
theorem argTs_closed:closedTs prog argTs=true:=by kernel_rfl
theorem laidOut:laidOutB prog=true:=by kernel_rfl
theorem summ:SummOK prog env:=fun f s h=>by cases h
theorem mixed:prog.follows .mixedOrders=true:=by kernel_rfl
theorem pure_of {f:FuncId} {dss:List Dat} {p:PV} (ho:p.out=true) (h:PC prog env f (dss.map .dat) [] p []):PureCall prog f dss p:=by
 obtain ⟨N,hN⟩:=h
 exact pure_sound summ mixed (hN N (Nat.le_refl _)) ho
mutual
theorem numT_le (B:Nat):∀ t:Qf,ok26 B t→numT t≤szT t * B
 | ⟨_,_,_,_,nums,kids⟩,h=>by
  rw [ok26] at h
  have:=numTs_le B kids h.2.2.2.2.2.2
  have:=h.2.2.2.2.1.1
  rw [numT,szT,Nat.add_mul,Nat.one_mul]; omega
theorem numTs_le (B:Nat):∀ l:List Qf,okl26 B l→numTs l≤szTs l * B
 | [],_=>Nat.zero_le _
 | k::ks,h=>by
  rw [okl26] at h
  have:=numT_le B k h.1
  have:=numTs_le B ks h.2
  rw [numTs,szTs,Nat.add_mul]; omega
end
mutual
theorem namesOk_of:∀ t:Qf,ok26 140737488351232 t→namesOk t
 | ⟨_,_,_,nm,_,ks⟩,h=>by
  rw [ok26] at h
  rw [namesOk]
  exact ⟨by have:=h.2.2.2.1; unfold nmOk; omega,namesOks_of ks h.2.2.2.2.2.2⟩
theorem namesOks_of:∀ l:List Qf,okl26 140737488351232 l→namesOks l
 | [],_=>by rw [namesOks]; trivial
 | k::ks,h=>by
  rw [okl26] at h
  rw [namesOks]
  exact ⟨namesOk_of k h.1,namesOks_of ks h.2⟩
end
theorem ElabRight_of (l:List Qb) (t:Qf) (h:ok26 140737488351232 t):XZ (l,t)=some true:=ElabRight_ok l t (numT_le _ t h) (namesOk_of t h)
end Go.Proofs.Tryz
