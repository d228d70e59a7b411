/-
 Models of functions, their walks, and plain laws.
-/
import Derived.Test.YtdecaohlejlglaaGreatPmLaw
import Derived.Test.YtdecaohlejlglaaGreatKElabUnboundC
namespace Go.Proofs.Tryz
open Go Go.Pm
set_option linter.unusedVariables false
set_option linter.unusedSimpArgs false
set_option maxRecDepth 2000
theorem check_nil:checkR []=0:=rfl
def okR (r:Qn):Prop:=checkR r.left=0∧checkR r.right=0∧checkR r.shape=0
theorem okR_zero:okR zeroRule:=⟨check_nil,check_nil,check_nil⟩
theorem okR_take {l a:List Int} (ha:checkR a=0):okR (takeR l a).1:=by
 unfold takeR
 split
 ·rename_i h
  unfold takeE at h
  by_cases h1:a=[]∧l.length > 16
  ·rw [if_pos h1] at h; cases h
  ·rw [if_neg h1] at h
   split at h
   ·cases h
   ·split at h
    ·cases h
    ·exact ⟨check_nil,seen_check ha h1,h⟩
 ·exact okR_zero
theorem okR_drop {l a:List Int} (ha:checkR a=0):okR (dropR l a).1:=by
 unfold dropR
 split
 ·rename_i h
  unfold dropE at h
  by_cases h1:a=[]∧l.length > 16
  ·rw [if_pos h1] at h; cases h
  ·rw [if_neg h1] at h
   have hc:=seen_check ha h1
   split at h
   ·cases h
   ·exact ⟨check_nil,hc,(below_drop l _ (by omega) (checkR_zero.1 hc).1).right hc⟩
 ·exact okR_zero
theorem okR_trans {v a:List Int} (ha:checkR a=0):okR (transR v a).1:=by
 unfold transR
 split
 ·rename_i h
  unfold transE at h
  split at h
  ·exact ⟨check_nil,ha,h⟩
  ·rename_i h2; exact absurd h h2
 ·exact okR_zero
theorem okR_resh {v a:List Int} (ha:checkR a=0):okR (reshR v a).1:=by
 unfold reshR
 split
 ·rename_i h; exact ⟨check_nil,ha,h⟩
 ·exact okR_zero
theorem getD_el {X:List Int} {k:Nat} (h:k < X.length):X.getD k 0=X[k]:=by simp [List.getD_eq_getElem?_getD,h]
theorem okR_cat {p0:Int} {a b:List Int} (hp:-1≤p0) (ha:checkR a=0) (hb:checkR b=0):okR (catR p0 a b).1:=by
 obtain ⟨da,la,_⟩:=checkR_zero.1 ha
 obtain ⟨db,lb,_⟩:=checkR_zero.1 hb
 unfold catR
 obtain ⟨R,hR⟩:∃ R,R=max (max a.length b.length) 1:=⟨_,rfl⟩
 simp only [← hR]
 split
 ·exact okR_zero
 ·rename_i hk
  obtain ⟨k,ek⟩:∃ k,k=(if p0=-1 then (R:Int) - 1 else p0).toNat:=⟨_,rfl⟩
  have hkR:k < R:=by rw [ek]; split <;> omega
  rw [← ek]
  split
  ·exact okR_zero
  ·rename_i hbad
   split
   ·rename_i ht
    have lX:(widR a b R k).length=R:=widR_len hkR (by omega)
    have lY:(widR b a R k).length=R:=widR_len hkR (by omega)
    have dX:Dims (widR a b R k):=widR_dims da db
    have dY:Dims (widR b a R k):=widR_dims db da
    generalize widR a b R k=X at *
    generalize widR b a R k=Y at *
    unfold tailE at ht
    by_cases c1:remL X k=remL Y k
    ·rw [if_neg (fun h=>h c1)] at ht
     by_cases c2:checkR (repL X k (sumAt X Y k))=0
     ·have gX:=getD_in dX (show k < X.length by omega)
      have gY:=getD_in dY (show k < Y.length by omega)
      have kX:k < X.length:=by omega
      have kY:k < Y.length:=by omega
      refine ⟨?_,?_,c2⟩
      ·have:=part_right (x:=X.getD k 0) (by omega) c2 gX.1 (by unfold sumAt; omega)
       rw [getD_el kX,rep_self kX] at this; exact this
      ·have:=part_right (x:=Y.getD k 0) (by omega) c2 gY.1 (by unfold sumAt; omega)
       rw [rep_other kX kY c1,getD_el kY,rep_self kY] at this; exact this
     ·rw [if_pos c2] at ht; cases ht
    ·rw [if_pos c1] at ht; cases ht
   ·exact okR_zero
theorem stepP_get (l:List Int) (j:Nat) (x:Int) (i:Nat):(stepP l j x).getD i 65536=if i=j then minI (l.getD j 65536) x else l.getD i 65536:=by
 have hp:∀ i,(padTo l j).getD i 65536=l.getD i 65536:=fun i=>by
  unfold padTo
  simp only [List.getD_eq_getElem?_getD]
  by_cases h:i < l.length
  ·rw [List.getElem?_append_left h]
  ·rw [List.getElem?_append_right (by omega),List.getElem?_eq_none (l:=l) (by omega)]
   by_cases h2:i - l.length < j+1 - l.length
   ·rw [List.getElem?_replicate]; simp [h2]
   ·rw [List.getElem?_eq_none (by simp; omega)]
 have hk:j < (padTo l j).length:=by rw [padTo_len]; omega
 have h0:(padTo l j).getD j 0=l.getD j 65536:=by
  rw [← hp j]; simp [List.getD_eq_getElem?_getD,hk]
 unfold stepP
 rw [h0,List.getD_eq_getElem?_getD,List.getElem?_set]
 by_cases h:i=j
 ·subst h; simp [hk]
 ·rw [if_neg (fun e=>h e.symm),if_neg h,← List.getD_eq_getElem?_getD,hp]
def rng (n:Nat):List Int:=(List.range n).map fun (k:Nat)=>(k:Int)
theorem rng_nodup (n:Nat):(rng n).Nodup:=List.Pairwise.map _ (fun a b h e=>h (by omega)) List.nodup_range
theorem mem_rng {n:Nat} {x:Int}:x∈rng n↔0≤x∧x < (n:Int):=by
 unfold rng
 rw [List.mem_map]
 constructor
 ·rintro ⟨k,hk,rfl⟩; have:=List.mem_range.1 hk; omega
 ·intro h; exact ⟨x.toNat,List.mem_range.2 (by omega),by omega⟩
theorem perm_rng {v:List Int} (h1:v.Nodup) (h2:∀ x∈v,0≤x∧x < (v.length:Int)):v.Perm (rng v.length):=by
 refine (List.perm_ext_iff_of_nodup h1 (rng_nodup _)).2 fun x=>⟨fun h=>mem_rng.2 (h2 x h),fun h=>?_⟩
 rcases Classical.em (x∈v) with hx|hx
 ·exact hx
 ·have hle:=List.Nodup.length_le_of_subset (l₁:=x::v) (l₂:=rng v.length) (List.nodup_cons.2 ⟨hx,h1⟩) (fun y hy=>by
   rcases List.mem_cons.1 hy with rfl|hy
   ·exact h
   ·exact mem_rng.2 (h2 y hy))
  simp [rng] at hle
  omega
theorem ite_som {c:Prop} [Decidable c] {α:Type} (a b:α):(if c then some a else some b)=some (if c then a else b):=by split <;> rfl
def rr (r:Qn):Qt:=⟨r.left,r.right,r.shape,r.starts,r.axis,r.amount,r.perm⟩
theorem rMag_ok (v:Int):XJ v=some (if bigM v then (0,7) else (absI v,0)):=by
 unfold XJ bigM absI
 dsimp only
 by_cases h1:v > 65536
 ·simp [h1,Qj]
 by_cases h2:v < -65536
 ·simp [h1,h2,Qj]
 simp only [h1,h2,if_false,decide_false,Bool.or_self,Qj,Bool.false_eq_true]
 by_cases h3:v < 0
 ·simp only [h3,if_true]
  rw [W_ok (by omega) (by omega),Int.zero_sub]
 ·simp only [h3,if_false]
theorem rseen_L1 (n:Nat) (hn:n≤1000):∀ (m j:Nat),j+m=n→YH ((n:Int),List.replicate j 1,(j:Int))=some (List.replicate n 1)
 | 0,j,h=>by
  rw [YH]
  have:¬ ((j:Int) < (n:Int)):=by omega
  simp only [this,if_false]
  rw [show j=n by omega]
 | m+1,j,h=>by
  rw [YH]
  have h1:((j:Int) < (n:Int)):=by omega
  have w:W ((j:Int)+1)=((j+1:Nat):Int):=W_succ (by omega)
  have e:=rseen_L1 n hn m (j+1) (by omega)
  simp only [h1,if_true,app1 (show (List.replicate j (1:Int)).length≤100000 by simp; omega),Qj,w]
  rw [← List.replicate_succ',e]
theorem rseen_ok (a:List Int) (n:Nat) (hn:n≤1000):Qat (a,(n:Int))=some (seenL a n):=by
 unfold Qat seenL
 dsimp only
 by_cases h:a=[]
 ·subst h
  have e:=rseen_L1 n hn n 0 (by omega)
  simp only [List.replicate_zero,Int.natCast_zero] at e
  rw [if_neg (by simp),if_pos rfl,e]; rfl
 ·rw [if_pos (by have:=List.length_pos_iff.2 h; omega),if_neg h]
theorem rtake_L1:∀ (s t p q A B:List Int),s.length=t.length→p.length=q.length→(p++s).length≤1000→A.length≤p.length→B.length≤p.length→Dims t →
  (s.any bigM=true→∃ x,Ys (p++s,q++t,A,B,(p.length:Int))=some (.inl x)) ∧
  (s.any bigM=false→Ys (p++s,q++t,A,B,(p.length:Int))=some (.inr (A++s.map absI,B++List.zipWith stI s t)))
 | [],[],p,q,A,B,_,_,_,_,_,_=>by
  refine ⟨fun h=>by simp at h,fun _=>?_⟩
  rw [Ys]; simp only [ZZ,if_false]; simp
 | x::s,d::t,p,q,A,B,h1,h2,hs,hA,hB,hd=>by
  have hl:(p++x::s).length≤1000:=hs
  have hl':p.length≤1000:=by simp at hl; omega
  have hdd:=hd d (List.mem_cons_self ..)
  have ih:=fun a b:Int=>rtake_L1 s t (p++[x]) (q++[d]) (A++[a]) (B++[b]) (by simpa using h1) (by simp [h2]) (by rw [← QE]; exact hs) (by simp; omega) (by simp; omega) (fun z hz=>hd z (List.mem_cons_of_mem _ hz))
  simp only [← QE] at ih
  rw [Ys]
  have hxq:idx (q++d::t) (p.length:Int)=some d:=by rw [h2]; exact Q2
  simp only [ZE,if_true,Q2,hxq,Qj,rMag_ok,mid_W (Sm_le hs)]
  cases hb:bigM x
  ·have hbx:-65536≤x∧x≤65536:=by simp [bigM] at hb; omega
   have hW:W (d - absI x)=d - absI x:=by unfold absI; split <;> rw [W_ok (by omega) (by omega)]
   simp only [Bool.false_eq_true,if_false,ne_eq,not_true_eq_false,app1 (show A.length≤100000 by omega),app1 (show B.length≤100000 by omega),Qj,ite_som,hW,List.any_cons,hb,Bool.false_or,List.map_cons,List.zipWith_cons_cons]
   have hst:(if x < 0 then d - absI x else 0)=stI x d:=rfl
   simp only [hst]
   obtain ⟨i1,i2⟩:=ih (absI x) (stI x d)
   refine ⟨fun h=>i1 h,fun h=>?_⟩
   rw [i2 h]
   try simp
  ·simp only [if_true,ne_eq,show ¬ ((7:Int)=0) by decide,not_false_eq_true,List.any_cons,hb,Bool.true_or]
   exact ⟨fun _=>⟨_,rfl⟩,fun h=>by cases h⟩
theorem len_nil {a:List Int}:((a.length:Int)=0)↔a=[]:=by rw [← List.length_eq_zero_iff]; omega
theorem absI_nonneg (v:Int):0≤absI v:=by unfold absI; split <;> omega
theorem rTake_ok (v a:List Int) (hv:v.length≤1000) (ha:checkR a=0):Qas (v,a)=some (rr (takeR v a).1,(takeR v a).2):=by
 unfold Qas takeR takeE
 simp only [ite_som,Qj,rseen_ok a v.length hv,len_nil]
 by_cases c1:a=[]∧v.length > 16
 ·have c1':(if a=[] then decide ((v.length:Int) > 16) else false)=true:=by rw [if_pos c1.1]; simp; omega
  rw [if_pos c1',if_pos c1]; rfl
 have c1':¬ (if a=[] then decide ((v.length:Int) > 16) else false)=true:=by
  intro h
  split at h
  ·rename_i h0; exact c1 ⟨h0,by simp at h; omega⟩
  ·cases h
 rw [if_neg c1',if_neg c1]
 by_cases c2:v.length≠(seenL a v.length).length
 ·rw [if_pos (show ((v.length:Int)≠((seenL a v.length).length:Int)) by omega),if_pos c2]; rfl
 rw [if_neg (show ¬ ((v.length:Int)≠((seenL a v.length).length:Int)) by omega),if_neg c2]
 have hd:Dims (seenL a v.length):=(checkR_zero.1 (seen_check ha c1)).1
 obtain ⟨l1,l2⟩:=rtake_L1 v (seenL a v.length) [] [] [] [] (by omega) rfl (by simpa using hv) (by simp) (by simp) hd
 simp only [List.nil_append,List.length_nil,Int.natCast_zero] at l1 l2
 cases c3:v.any bigM
 ·rw [l2 c3]
  simp only [Qj,Check_ok (v.map absI) (Sm_le (by simpa using hv)),Bool.false_eq_true,if_false]
  by_cases c4:checkR (v.map absI)=0
  ·rw [if_neg (by simpa using c4),if_pos c4]; rfl
  ·rw [if_pos c4,if_neg c4]
   rcases check_dims (X:=v.map absI) (fun d hd=>by obtain ⟨z,_,rfl⟩:=List.mem_map.1 hd; exact absI_nonneg z) with h|h
   ·exact absurd h c4
   ·rw [h]; rfl
 ·obtain ⟨x,e⟩:=l1 c3
  obtain ⟨x1,x2⟩:=x
  rw [e]; rfl
theorem rdrop_end (v:List Int):∀ (t q A B:List Int),v.length≤q.length→(q++t).length≤1000→A.length≤q.length→B.length≤q.length→Dims t →
  ZQ (q++t,v,A,B,(q.length:Int))=some (A++t,B++List.replicate t.length 0)
 | [],q,A,B,_,_,_,_,_=>by rw [ZQ]; simp only [ZZ,if_false]; simp
 | d::t,q,A,B,h,hs,hA,hB,hd=>by
  have hl:(q++d::t).length≤1000:=hs
  have hl':q.length≤1000:=by simp at hl; omega
  have hdd:=hd d (List.mem_cons_self ..)
  have ih:=rdrop_end v t (q++[d]) (A++[d]) (B++[0]) (by simp; omega) (by rw [← QE]; exact hs) (by simp; omega) (by simp; omega) (fun z hz=>hd z (List.mem_cons_of_mem _ hz))
  rw [← QE] at ih
  have w:W (d+0)=d:=by rw [W_ok (by omega) (by omega),Int.add_zero]
  rw [ZQ]
  simp only [ZE,if_true,Q2,Qj,mid_W (Sm_le hs),if_neg (show ¬ ((q.length:Int) < (v.length:Int)) by omega),Bool.false_eq_true,if_false,w,app1 (show A.length≤100000 by omega),app1 (show B.length≤100000 by omega),ih]
  simp [List.replicate_succ]
theorem rdrop_L1:∀ (s t p q A B:List Int),s.length≤t.length→p.length=q.length→(q++t).length≤1000→A.length≤q.length→B.length≤q.length→Dims t →
  ZQ (q++t,p++s,A,B,(q.length:Int))=some (A++dropL s t,B++dropF s t)
 | [],t,p,q,A,B,_,h2,hs,hA,hB,hd=>by
  rw [rdrop_end _ t q A B (by simp; omega) hs hA hB hd]
  simp [dropL,dropF]
 | x::s,[],p,q,A,B,h1,_,_,_,_,_=>by simp at h1
 | x::s,d::t,p,q,A,B,h1,h2,hs,hA,hB,hd=>by
  have hl:(q++d::t).length≤1000:=hs
  have hl':q.length≤1000:=by simp at hl; omega
  have hdd:=hd d (List.mem_cons_self ..)
  have ih:=fun a b:Int=>rdrop_L1 s t (p++[x]) (q++[d]) (A++[a]) (B++[b]) (by simpa using h1) (by simp [h2]) (by rw [← QE]; exact hs) (by simp; omega) (by simp; omega) (fun z hz=>hd z (List.mem_cons_of_mem _ hz))
  simp only [← QE] at ih
  have hxi:idx (p++x::s) (q.length:Int)=some x:=by rw [← h2]; exact Q2
  have hlt:((q.length:Int) < ((p++x::s).length:Int)):=by simp; omega
  have w0:W (0 - d)=-d:=by rw [W_ok (by omega) (by omega),Int.zero_sub]
  rw [ZQ]
  simp only [ZE,hlt,if_true,Q2,hxi,Qj,mid_W (Sm_le hs),w0,app1 (show A.length≤100000 by omega),app1 (show B.length≤100000 by omega)]
  by_cases hx:x > 0
  ·have e1:(if d < x then d else x)=dropS d x:=by
    have hx0:¬ x < 0:=by omega
    unfold dropS absI; simp only [hx0,if_false]
   have e2:W (d - dropS d x)=dropD d x:=by
    unfold dropD; rw [← e1]; unfold absI; rw [if_neg (show ¬ x < 0 by omega)]
    split <;> rw [W_ok (by omega) (by omega)]
   simp only [hx,decide_true,if_true,e1,e2,ih]
   simp [dropL,dropF]
  ·have e1:W (d+(if x < -d then -d else x))=dropD d x:=by
    unfold dropD absI
    by_cases h0:x < 0
    ·rw [if_pos h0]
     by_cases h4:x < -d
     ·rw [if_pos h4,if_pos (show -x > d by omega),W_ok (by omega) (by omega)]; omega
     ·rw [if_neg h4,if_neg (show ¬ -x > d by omega),W_ok (by omega) (by omega)]; omega
    ·rw [if_neg h0,if_neg (show ¬ x < -d by omega),if_neg (show ¬ x > d by omega),W_ok (by omega) (by omega)]; omega
   have e2:dropS d x=0:=by
    unfold dropS absI
    by_cases h0:x < 0
    ·rw [if_pos h0]
    ·rw [if_neg h0]; split <;> split <;> omega
   simp only [hx,decide_false,Bool.false_eq_true,if_false,e1,ih]
   simp [dropL,dropF,e2]
theorem rDrop_ok (v a:List Int) (hv:v.length≤1000) (ha:checkR a=0):Qaq (v,a)=some (rr (dropR v a).1,(dropR v a).2):=by
 unfold Qaq dropR dropE
 simp only [ite_som,Qj,rseen_ok a v.length hv,len_nil]
 by_cases c1:a=[]∧v.length > 16
 ·have c1':(if a=[] then decide ((v.length:Int) > 16) else false)=true:=by rw [if_pos c1.1]; simp; omega
  rw [if_pos c1',if_pos c1]; rfl
 have c1':¬ (if a=[] then decide ((v.length:Int) > 16) else false)=true:=by
  intro h
  split at h
  ·rename_i h0; exact c1 ⟨h0,by simp at h; omega⟩
  ·cases h
 rw [if_neg c1',if_neg c1]
 have hc:=checkR_zero.1 (seen_check ha c1)
 by_cases c2:v.length > (seenL a v.length).length
 ·rw [if_pos (show ((v.length:Int) > ((seenL a v.length).length:Int)) by omega),if_pos c2]; rfl
 rw [if_neg (show ¬ ((v.length:Int) > ((seenL a v.length).length:Int)) by omega),if_neg c2]
 have l2:=rdrop_L1 v (seenL a v.length) [] [] [] [] (by omega) rfl (by simp; omega) (by simp) (by simp) hc.1
 simp only [List.nil_append,List.length_nil,Int.natCast_zero] at l2
 rw [l2]; rfl
theorem insL_cons (d:Int) (t:List Int) (j:Nat) (n:Int):insL (d::t) (j+1) n=d::insL t j n:=by simp [insL]
theorem remL_cons (d:Int) (t:List Int) (j:Nat):remL (d::t) (j+1)=d::remL t j:=by simp [remL]
theorem rins_after (k:Nat) (n:Int):∀ (t p A:List Int),k < p.length→(p++t).length≤1000→A.length≤p.length+1→Zf (p++t,(k:Int),n,A,(p.length:Int))=some (A++t)
 | [],p,A,hk,hs,hA=>by
  have hl:p.length≤1000:=by simpa using hs
  rw [Zf]
  simp only [if_pos (show ((p.length:Int)≤((p++([]:List Int)).length:Int)) by simp),if_neg (show ¬ ((p.length:Int)=(k:Int)) by omega),Qj,ZZ,if_false]
  rw [Zf,W_succ (by omega)]
  simp only [List.append_nil]
  rw [if_neg (show ¬ (((p.length+1:Nat):Int)≤(p.length:Int)) by omega)]
 | d::t,p,A,hk,hs,hA=>by
  have hl:p.length≤1000:=by simp at hs; omega
  have ih:=rins_after k n t (p++[d]) (A++[d]) (by simp; omega) (by rw [← QE]; exact hs) (by simp; omega)
  rw [← QE] at ih
  rw [Zf]
  simp only [if_pos (show ((p.length:Int)≤((p++d::t).length:Int)) by simp; omega),if_neg (show ¬ ((p.length:Int)=(k:Int)) by omega),Qj,ZE,if_true,Q2,app1 (show A.length≤100000 by omega),mid_W (Sm_le hs),ih]
  simp
theorem rins_before (k:Nat) (n:Int):∀ (t p A:List Int),p.length≤k→k≤(p++t).length→(p++t).length≤1000→A.length≤p.length→Zf (p++t,(k:Int),n,A,(p.length:Int))=some (A++insL t (k - p.length) n)
 | [],p,A,hk,hk2,hs,hA=>by
  have hl:p.length≤1000:=by simpa using hs
  have he:k=p.length:=by simp at hk2; omega
  subst he
  rw [Zf]
  simp only [if_pos (show ((p.length:Int)≤((p++([]:List Int)).length:Int)) by simp),if_true,Qj,ZZ,if_false,app1 (show A.length≤100000 by omega)]
  rw [Zf,W_succ (by omega)]
  simp only [List.append_nil]
  rw [if_neg (show ¬ (((p.length+1:Nat):Int)≤(p.length:Int)) by omega)]
  simp [insL]
 | d::t,p,A,hk,hk2,hs,hA=>by
  have hl:p.length≤1000:=by simp at hs; omega
  rw [Zf]
  simp only [if_pos (show ((p.length:Int)≤((p++d::t).length:Int)) by simp; omega),ZE,if_true,Q2,Qj,mid_W (Sm_le hs)]
  by_cases he:k=p.length
  ·subst he
   have ih:=rins_after p.length n t (p++[d]) (A++[n]++[d]) (by simp) (by rw [← QE]; exact hs) (by simp; omega)
   rw [← QE] at ih
   simp only [if_true,app1 (show A.length≤100000 by omega),Qj,app1 (show (A++[n]).length≤100000 by simp; omega),ih]
   simp [insL]
  ·have ih:=rins_before k n t (p++[d]) (A++[d]) (by simp; omega) (by rw [← QE]; exact hk2) (by rw [← QE]; exact hs) (by simp; omega)
   rw [← QE] at ih
   simp only [if_neg (show ¬ ((p.length:Int)=(k:Int)) by omega),Qj,app1 (show A.length≤100000 by omega),ih]
   obtain ⟨j,hj⟩:∃ j,k - p.length=j+1:=⟨k - p.length - 1,by omega⟩
   rw [hj,insL_cons,show k - (p++[d]).length=j by simp; omega]
   simp
theorem rIns_ok (s:List Int) (k:Nat) (n:Int) (hk:k≤s.length) (hs:s.length≤1000):Xt (s,(k:Int),n)=some (insL s k n):=by
 have e:=rins_before k n s [] [] (by simp) (by simpa using hk) (by simpa using hs) (by simp)
 simp only [List.nil_append,List.length_nil,Int.natCast_zero,Nat.sub_zero] at e
 unfold Xt
 simp only [e,Qj]
theorem rrem_after (k:Nat):∀ (t p A:List Int),k < p.length→(p++t).length≤1000→A.length≤p.length→Zq (p++t,(k:Int),A,(p.length:Int))=some (A++t)
 | [],p,A,hk,hs,hA=>by rw [Zq]; simp only [ZZ,if_false]; rw [List.append_nil]
 | d::t,p,A,hk,hs,hA=>by
  have hl:p.length≤1000:=by simp at hs; omega
  have ih:=rrem_after k t (p++[d]) (A++[d]) (by simp; omega) (by rw [← QE]; exact hs) (by simp; omega)
  rw [← QE] at ih
  rw [Zq]
  simp only [ZE,if_true,if_pos (show ((p.length:Int)≠(k:Int)) by omega),Q2,Qj,app1 (show A.length≤100000 by omega),mid_W (Sm_le hs),ih]
  simp
theorem rrem_before (k:Nat):∀ (t p A:List Int),p.length≤k→(p++t).length≤1000→A.length≤p.length→Zq (p++t,(k:Int),A,(p.length:Int))=some (A++remL t (k - p.length))
 | [],p,A,hk,hs,hA=>by rw [Zq]; simp only [ZZ,if_false]; simp [remL]
 | d::t,p,A,hk,hs,hA=>by
  have hl:p.length≤1000:=by simp at hs; omega
  rw [Zq]
  by_cases he:k=p.length
  ·subst he
   have ih:=rrem_after p.length t (p++[d]) A (by simp) (by rw [← QE]; exact hs) (by simp; omega)
   rw [← QE] at ih
   simp only [ZE,if_true,ne_eq,not_true_eq_false,if_false,mid_W (Sm_le hs),ih]
   simp [remL]
  ·have ih:=rrem_before k t (p++[d]) (A++[d]) (by simp; omega) (by rw [← QE]; exact hs) (by simp; omega)
   rw [← QE] at ih
   simp only [ZE,if_true,if_pos (show ((p.length:Int)≠(k:Int)) by omega),Q2,Qj,app1 (show A.length≤100000 by omega),mid_W (Sm_le hs),ih]
   obtain ⟨j,hj⟩:∃ j,k - p.length=j+1:=⟨k - p.length - 1,by omega⟩
   rw [hj,remL_cons,show k - (p++[d]).length=j by simp; omega]
   simp
theorem rRem_ok (s:List Int) (k:Nat) (hs:s.length≤1000):Qac (s,(k:Int))=some (remL s k):=by
 have e:=rrem_before k s [] [] (by simp) (by simpa using hs) (by simp)
 simp only [List.nil_append,List.length_nil,Int.natCast_zero,Nat.sub_zero] at e
 unfold Qac
 simp only [e,Qj]
theorem ins_rem {s:List Int} {k:Nat} (n:Int) (hk:k < s.length):insL (remL s k) k n=repL s k n:=by
 have hl:(s.take k).length=k:=by simp; omega
 unfold insL remL repL
 rw [List.take_append_of_le_length (by omega),List.drop_append_of_le_length (by omega),List.take_of_length_le (by omega),List.drop_of_length_le (by omega),List.nil_append]
theorem rput_ok (s:List Int) (k:Nat) (n:Int) (hk:k < s.length) (hs:s.length≤1000):Jp (s,(k:Int),n)=some (repL s k n):=by
 unfold Jp
 have:=remL_len hk
 simp only [rRem_ok s k hs,Qj,rIns_ok (remL s k) k n (by omega) (by omega),ins_rem n hk]
theorem rcat_after {a b:List Int} {k:Nat} {X Y:List Int} (hR:max (max (a.length:Int) (b.length:Int)) 1=(X.length:Int)) (hX:X.length≤1000):∀ (s t p q:List Int),X=p++s→Y=q++t→p.length=q.length→s.length=t.length→k < p.length→Zg (a,b,(k:Int),X,Y,(p.length:Int))=some (if s=t then .inr () else .inl ())
 | [],[],p,q,e1,e2,_,_,_=>by
  rw [Zg,hR]; simp only [if_neg (show ¬ ((p.length:Int) < (X.length:Int)) by rw [e1]; simp),if_true]
 | d::s,e::t,p,q,e1,e2,h1,h2,hk=>by
  have hl:p.length≤1000:=by rw [e1] at hX; simp at hX; omega
  have ih:=rcat_after (k:=k) (X:=X) (Y:=Y) hR hX s t (p++[d]) (q++[e]) (by rw [← QE]; exact e1) (by rw [← QE]; exact e2) (by simp [h1]) (by simpa using h2) (by simp; omega)
  have i1:idx X (p.length:Int)=some d:=by rw [e1]; exact Q2
  have i2:idx Y (p.length:Int)=some e:=by rw [e2,h1]; exact Q2
  have w:W ((p.length:Int)+1)=((p++[d]).length:Int):=by rw [W_succ (by omega)]; simp
  rw [Zg,hR]
  simp only [if_pos (show ((p.length:Int) < (X.length:Int)) by rw [e1]; exact ZE),if_pos (show ((p.length:Int)≠(k:Int)) by omega),i1,i2,Qj,w,ih]
  by_cases hde:d=e <;> simp [hde,Qj]
 | [],_::_,_,_,_,_,_,h2,_=>by cases h2
 | _::_,[],_,_,_,_,_,h2,_=>by cases h2
theorem rcat_before {a b:List Int} {k:Nat} {X Y:List Int} (hR:max (max (a.length:Int) (b.length:Int)) 1=(X.length:Int)) (hX:X.length≤1000):∀ (s t p q:List Int),X=p++s→Y=q++t→p.length=q.length→s.length=t.length→p.length≤k→Zg (a,b,(k:Int),X,Y,(p.length:Int))=some (if remL s (k - p.length)=remL t (k - p.length) then .inr () else .inl ())
 | [],[],p,q,e1,e2,_,_,_=>by
  rw [Zg,hR]; simp only [if_neg (show ¬ ((p.length:Int) < (X.length:Int)) by rw [e1]; simp),if_true]
 | d::s,e::t,p,q,e1,e2,h1,h2,hk=>by
  have hl:p.length≤1000:=by rw [e1] at hX; simp at hX; omega
  have i1:idx X (p.length:Int)=some d:=by rw [e1]; exact Q2
  have i2:idx Y (p.length:Int)=some e:=by rw [e2,h1]; exact Q2
  have w:W ((p.length:Int)+1)=((p++[d]).length:Int):=by rw [W_succ (by omega)]; simp
  rw [Zg,hR]
  by_cases he:k=p.length
  ·have ih:=rcat_after (k:=k) (X:=X) (Y:=Y) hR hX s t (p++[d]) (q++[e]) (by rw [← QE]; exact e1) (by rw [← QE]; exact e2) (by simp [h1]) (by simpa using h2) (by simp; omega)
   simp only [if_pos (show ((p.length:Int) < (X.length:Int)) by rw [e1]; exact ZE),if_neg (show ¬ ((p.length:Int)≠(k:Int)) by omega),Qj,w,ih,Bool.false_eq_true,if_false]
   simp [remL,he]
  ·have ih:=rcat_before (k:=k) (X:=X) (Y:=Y) hR hX s t (p++[d]) (q++[e]) (by rw [← QE]; exact e1) (by rw [← QE]; exact e2) (by simp [h1]) (by simpa using h2) (by simp; omega)
   obtain ⟨j,hj⟩:∃ j,k - p.length=j+1:=⟨k - p.length - 1,by omega⟩
   rw [show k - (p++[d]).length=j by simp; omega] at ih
   simp only [if_pos (show ((p.length:Int) < (X.length:Int)) by rw [e1]; exact ZE),if_pos (show ((p.length:Int)≠(k:Int)) by omega),i1,i2,Qj,w,ih]
   rw [hj,remL_cons,remL_cons]
   by_cases hde:d=e <;> simp [hde,Qj]
 | [],_::_,_,_,_,_,_,h2,_=>by cases h2
 | _::_,[],_,_,_,_,_,h2,_=>by cases h2
theorem rCat_tail {p0:Int} {a b:List Int} {R k:Nat} (X Y:List Int) (hR:max (max (a.length:Int) (b.length:Int)) 1=(R:Int)) (hX:X.length=R) (hY:Y.length=R) (hk:k < R) (hR16:R≤16) (dX:Dims X) (dY:Dims Y) :
  (Zg (a,b,(k:Int),X,Y,0)>>=fun (out:Unit ⊕ Unit) =>
   match out with
   | .inl _=>some ((⟨([]:(List Int)),([]:(List Int)),([]:(List Int)),([]:(List Int)),0,0,([]:(List Int))⟩:Qt),(5:Int))
   | .inr (_) =>
    idx X (k:Int)>>=fun v614 =>
    idx Y (k:Int)>>=fun v615 =>
    Jp (X,(k:Int),(W (v614+v615)))>>=fun (v616:(List Int)) =>
    YN v616>>=fun (v617:Int) =>
    if v617≠0 then
     some ((⟨([]:(List Int)),([]:(List Int)),([]:(List Int)),([]:(List Int)),0,0,([]:(List Int))⟩:Qt),7)
    else
    some ((⟨X,Y,v616,([]:(List Int)),(k:Int),0,([]:(List Int))⟩:Qt),0))
  = some (if tailE X Y k=0 then ((⟨X,Y,repL X k (sumAt X Y k),[],k,0,[]⟩:Qt),0) else (rr zeroRule,tailE X Y k)):=by
 have e:=rcat_before (a:=a) (b:=b) (k:=k) (X:=X) (Y:=Y) (by rw [hX]; exact hR) (by omega) X Y [] [] rfl rfl rfl (by omega) (by simp)
 simp only [List.length_nil,Int.natCast_zero,Nat.sub_zero] at e
 rw [e]
 unfold tailE
 by_cases h:remL X k=remL Y k
 ·rw [if_pos h,if_neg (show ¬ (remL X k≠remL Y k) from fun g=>g h)]
  have i1:idx X (k:Int)=some (X.getD k 0):=idx_getD (by omega)
  have i2:idx Y (k:Int)=some (Y.getD k 0):=idx_getD (by omega)
  have b1:=getD_in (k:=k) dX (by omega)
  have b2:=getD_in (k:=k) dY (by omega)
  have w:W (X.getD k 0+Y.getD k 0)=sumAt X Y k:=by unfold sumAt; rw [W_ok (by omega) (by omega)]
  simp only [Qj,i1,i2,w,rput_ok X k _ (show k < X.length by omega) (by omega)]
  have hl:(repL X k (sumAt X Y k)).length≤1000:=by rw [rep_len (by omega)]; omega
  simp only [Check_ok _ (Sm_le hl),Qj]
  by_cases hc:checkR (repL X k (sumAt X Y k))=0
  ·simp only [hc,ne_eq,not_true_eq_false,if_false,if_true]
  ·simp only [hc,ne_eq,not_false_eq_true,if_true,show ¬ ((7:Int)=0) by decide,if_false]; rfl
 ·rw [if_neg h,if_pos (show remL X k≠remL Y k from h)]
  rfl
theorem rCat_ok {p0:Int} {a b:List Int} (hp:-1≤p0) (la:a.length≤16) (lb:b.length≤16) (da:Dims a) (db:Dims b):Xn (p0,a,b)=some (rr (catR p0 a b).1,(catR p0 a b).2):=by
 unfold catR
 obtain ⟨R,hRdef⟩:∃ R,R=max (max a.length b.length) 1:=⟨_,rfl⟩
 have hR:(max (max (a.length:Int) (b.length:Int)) 1)=(R:Int):=by omega
 have hR16:R≤16:=by omega
 have wR:W ((R:Int) - 1)=(R:Int) - 1:=W_ok (by omega) (by omega)
 simp only [← hRdef]
 unfold Xn
 simp only [hR,wR,ite_som,Qj]
 by_cases hbig:p0≥(R:Int)
 ·rw [if_pos hbig,if_pos hbig]; rfl
 obtain ⟨k,hk⟩:∃ k:Nat,(k:Int)=if p0=-1 then (R:Int) - 1 else p0:=by
  by_cases h:p0=-1
  ·exact ⟨R - 1,by rw [if_pos h]; omega⟩
  ·exact ⟨p0.toNat,by rw [if_neg h]; omega⟩
 have hkR:k < R:=by by_cases h:p0=-1 <;> simp [h] at hk <;> omega
 have hax:(if p0 < 0 then (R:Int) - 1 else p0)=(k:Int):=by
  rw [hk]
  by_cases h:p0=-1
  ·rw [if_pos (by omega),if_pos h]
  ·rw [if_neg (by omega),if_neg h]
 rw [if_neg hbig,if_neg hbig,← hk,Int.toNat_natCast]
 simp only [hax]
 have hlow:(if (b.length:Int) < (a.length:Int) then (b.length:Int) else (a.length:Int))=((min a.length b.length:Nat):Int):=by split <;> omega
 simp only [hlow]
 by_cases hbad:(a.length≠R∧a.length+1≠R∧a.length≠0)∨(b.length≠R∧b.length+1≠R∧b.length≠0)
 ·rw [if_pos hbad]
  have h1:((min a.length b.length:Nat):Int) < (R:Int) - 1:=by omega
  have h2:((min a.length b.length:Nat):Int) > 0:=by omega
  simp only [if_pos h1,decide_eq_true h2,if_true]
  rfl
 rw [if_neg hbad]
 have hf:(if ((min a.length b.length:Nat):Int) < (R:Int) - 1 then decide (((min a.length b.length:Nat):Int) > 0) else false)=false:=by
  split
  ·rw [decide_eq_false]; omega
  ·rfl
 simp only [hf,Bool.false_eq_true,if_false]
 have key:∀ X Y:List Int,X=widR a b R k→Y=widR b a R k→X.length=R→Y.length=R→Dims X→Dims Y →
   some (if tailE X Y k=0 then ((⟨X,Y,repL X k (sumAt X Y k),[],k,0,[]⟩:Qt),(0:Int)) else (rr zeroRule,tailE X Y k)) =
   some (rr (if tailE (widR a b R k) (widR b a R k) k=0 then ((⟨widR a b R k,widR b a R k,repL (widR a b R k) k (sumAt (widR a b R k) (widR b a R k) k),[],k,0,[]⟩:Qn),(0:Int)) else (zeroRule,tailE (widR a b R k) (widR b a R k) k)).1,
    (if tailE (widR a b R k) (widR b a R k) k=0 then ((⟨widR a b R k,widR b a R k,repL (widR a b R k) k (sumAt (widR a b R k) (widR b a R k) k),[],k,0,[]⟩:Qn),(0:Int)) else (zeroRule,tailE (widR a b R k) (widR b a R k) k)).2):=by
  intro X Y e1 e2 _ _ _ _
  subst e1; subst e2
  split <;> rfl
 have lX:(widR a b R k).length=R:=widR_len hkR (by omega)
 have lY:(widR b a R k).length=R:=widR_len hkR (by omega)
 have dX:=widR_dims (R:=R) (k:=k) da db
 have dY:=widR_dims (R:=R) (k:=k) db da
 rw [← key _ _ rfl rfl lX lY dX dY,← rCat_tail (p0:=p0) (widR a b R k) (widR b a R k) hR lX lY hkR hR16 dX dY]
 simp only [ite_som]
 by_cases ha:a.length=R
 ·have e1:¬ ((a.length:Int)=(R:Int) - 1):=by omega
  have w1:widR a b R k=a:=by unfold widR; rw [if_pos ha]
  simp only [e1,if_false,Qj,w1,if_neg (show ¬ ((a.length:Int) < (R:Int)) by omega)]
  by_cases hb:b.length=R
  ·have w2:widR b a R k=b:=by unfold widR; rw [if_pos hb]
   simp only [if_neg (show ¬ ((b.length:Int)=(R:Int) - 1) by omega),Qj,w2,if_neg (show ¬ ((b.length:Int) < (R:Int)) by omega)]
   try rfl
  ·by_cases hb1:b.length+1=R
   ·have w2:widR b a R k=insL b k 1:=by unfold widR; rw [if_neg hb,if_pos hb1]
    have hl:(insL b k 1).length=R:=by rw [insL_len]; omega
    simp only [if_pos (show ((b.length:Int)=(R:Int) - 1) by omega),rIns_ok b k 1 (by omega) (by omega),Qj,w2,if_neg (show ¬ (((insL b k 1).length:Int) < (R:Int)) by omega)]
    try rfl
   ·have w2:widR b a R k=repL a k 1:=by unfold widR; rw [if_neg hb,if_neg hb1]
    simp only [if_neg (show ¬ ((b.length:Int)=(R:Int) - 1) by omega),Qj,w2,if_pos (show ((b.length:Int) < (R:Int)) by omega),rput_ok a k 1 (by omega) (by omega)]
    try rfl
 ·by_cases ha1:a.length+1=R
  ·have w1:widR a b R k=insL a k 1:=by unfold widR; rw [if_neg ha,if_pos ha1]
   have hl:(insL a k 1).length=R:=by rw [insL_len]; omega
   simp only [if_pos (show ((a.length:Int)=(R:Int) - 1) by omega),rIns_ok a k 1 (by omega) (by omega),Qj,w1,if_neg (show ¬ (((insL a k 1).length:Int) < (R:Int)) by omega)]
   by_cases hb:b.length=R
   ·have w2:widR b a R k=b:=by unfold widR; rw [if_pos hb]
    simp only [if_neg (show ¬ ((b.length:Int)=(R:Int) - 1) by omega),Qj,w2,if_neg (show ¬ ((b.length:Int) < (R:Int)) by omega)]
    try rfl
   ·have hb1:b.length+1=R:=by omega
    have w2:widR b a R k=insL b k 1:=by unfold widR; rw [if_neg hb,if_pos hb1]
    have hl2:(insL b k 1).length=R:=by rw [insL_len]; omega
    simp only [if_pos (show ((b.length:Int)=(R:Int) - 1) by omega),rIns_ok b k 1 (by omega) (by omega),Qj,w2,if_neg (show ¬ (((insL b k 1).length:Int) < (R:Int)) by omega)]
    try rfl
  ·have hb:b.length=R:=by omega
   have w1:widR a b R k=repL b k 1:=by unfold widR; rw [if_neg ha,if_neg ha1]
   have w2:widR b a R k=b:=by unfold widR; rw [if_pos hb]
   simp only [if_neg (show ¬ ((a.length:Int)=(R:Int) - 1) by omega),if_neg (show ¬ ((b.length:Int)=(R:Int) - 1) by omega),Qj,w1,w2,if_pos (show ((a.length:Int) < (R:Int)) by omega),if_neg (show ¬ ((b.length:Int) < (R:Int)) by omega),rput_ok b k 1 (by omega) (by omega)]
   try rfl
theorem rdim_L1 (sc:Bool):∀ (s p:List Int),(p++s).length≤1000→ZF (⟨p++s,sc⟩,(p.length:Int))=some (if negB s then .inl () else .inr ())
 | [],p,hs=>by rw [ZF]; simp only [ZZ,if_false]; simp [negB]
 | x::s,p,hs=>by
  have ih:=rdim_L1 sc s (p++[x]) (by rw [← QE]; exact hs)
  rw [← QE] at ih
  rw [ZF]
  simp only [ZE,if_true,Q2,Qj,mid_W (Sm_le hs),ih,negB_cons]
  by_cases h:x < 0 <;> simp [h]
theorem rdim_L2 (sc:Bool):∀ (s p:List Int),(p++s).length≤1000→p.length≤16 →
  (((p++s).length > 16∨bigB s=true)→∃ x,Zr (⟨p++s,sc⟩,p,(p.length:Int))=some (.inl x)) ∧
  (¬ ((p++s).length > 16∨bigB s=true)→Zr (⟨p++s,sc⟩,p,(p.length:Int))=some (.inr (p++s)))
 | [],p,hs,hp=>by
  refine ⟨fun h=>?_,fun _=>?_⟩
  ·rcases h with h|h
   ·simp at h; omega
   ·simp [bigB] at h
  ·rw [Zr]; simp only [ZZ,if_false]; simp only [List.append_nil]
 | x::s,p,hs,hp=>by
  have hl:(p++x::s).length≤1000:=hs
  rw [Zr]
  simp only [ZE,if_true,Q2,Qj,ite_som]
  by_cases h1:(p.length:Int)≥16
  ·simp only [h1,if_true]
   exact ⟨fun _=>⟨_,rfl⟩,fun h=>absurd (Or.inl (by simp; omega)) h⟩
  by_cases h2:x > 65536
  ·simp only [h1,if_false,h2,decide_true,if_true]
   exact ⟨fun _=>⟨_,rfl⟩,fun h=>absurd (Or.inr (by rw [bigB_cons]; simp [h2])) h⟩
  have ih:=rdim_L2 sc s (p++[x]) (by rw [← QE]; exact hs) (by simp; omega)
  rw [← QE] at ih
  simp only [h1,if_false,h2,decide_false,Bool.false_eq_true,app1 (show p.length≤100000 by omega),Qj,mid_W (Sm_le hs),bigB_cons,Bool.false_or]
  exact ih
theorem rDims_ok (l:List Int) (sc:Bool) (hl:l.length≤1000):Xv ⟨l,sc⟩=some (if checkR l=0 then (l,0) else ([],checkR l)):=by
 have e1:=rdim_L1 sc l [] (by simpa using hl)
 obtain ⟨e2,e3⟩:=rdim_L2 sc l [] (by simpa using hl) (by simp)
 simp only [List.nil_append,List.length_nil,Int.natCast_zero] at e1 e2 e3
 unfold Xv
 simp only [e1]
 cases hn:negB l
 ·simp only [Bool.false_eq_true,if_false,Qj]
  by_cases hb:l.length > 16∨bigB l=true
  ·obtain ⟨x,e⟩:=e2 hb
   have hc:checkR l=7:=by
    unfold checkR; rw [hn,if_neg (by decide),if_pos]
    rcases hb with h|h
    ·exact .inl h
    ·exact .inr (.inl h)
   simp only [e,Qj,hc,show ¬ ((7:Int)=0) by decide,if_false]
  ·simp only [e3 hb,Qj,Check_ok l (Sm_le hl)]
   by_cases hc:checkR l=0
   ·simp only [hc,ne_eq,not_true_eq_false,if_false,if_true]
   ·simp only [hc,ne_eq,not_false_eq_true,if_true,if_false]
 ·have hc:checkR l=6:=by unfold checkR; rw [hn,if_pos rfl]
  simp only [if_true,Qj,hc,show ¬ ((6:Int)=0) by decide,if_false]
theorem rResh_ok (l a:List Int) (hl:l.length≤1000):XH (l,a)=some (rr (reshR l a).1,(reshR l a).2):=by
 unfold XH reshR
 simp only [rDims_ok l false hl,Qj]
 by_cases hc:checkR l=0
 ·simp only [hc,if_true,ne_eq,not_true_eq_false,if_false]; rfl
 ·simp only [hc,if_false,ne_eq,not_false_eq_true,if_true]; rfl
theorem rperm_L1 (sc:Bool) (n:Nat):∀ (s p:List Int) (m:Int),n=(p++s).length→n≤1000 →
  (s.all (inR n)=false→∃ x,Zl ((n:Int),⟨p++s,sc⟩,p,m,(p.length:Int))=some (.inl x)) ∧
  (s.all (inR n)=true→Zl ((n:Int),⟨p++s,sc⟩,p,m,(p.length:Int))=some (.inr (p++s,maxF s m)))
 | [],p,m,hn,h1=>by
  refine ⟨fun h=>by simp at h,fun _=>?_⟩
  rw [Zl,hn]; simp only [ZZ,if_false]; simp only [List.append_nil]; rfl
 | x::s,p,m,hn,h1=>by
  have hs:(p++x::s).length≤1000:=by omega
  have hp:p.length≤1000:=by simp at hs; omega
  have ih:=rperm_L1 sc n s (p++[x]) (if m < x then x else m) (by rw [← QE]; exact hn) h1
  rw [← QE] at ih
  have i2:idx (p++[x]) (p.length:Int)=some x:=Q2
  have hlt:((p.length:Int) < (n:Int)):=by rw [hn]; exact ZE
  rw [Zl]
  simp only [hlt,if_true,Q2,Qj,ite_som]
  have hin:inR n x=(decide (0≤x) && decide (x < (n:Int))):=rfl
  by_cases c1:x < 0
  ·simp only [c1,if_true,List.all_cons,hin,show ¬ (0≤x) by omega,decide_false,Bool.false_and]
   exact ⟨fun _=>⟨_,rfl⟩,fun h=>by cases h⟩
  by_cases c2:x≥(n:Int)
  ·simp only [c1,if_false,c2,decide_true,if_true,List.all_cons,hin,show ¬ (x < (n:Int)) by omega,decide_false,Bool.and_false,Bool.false_and]
   exact ⟨fun _=>⟨_,rfl⟩,fun h=>by cases h⟩
  simp only [c1,if_false,c2,decide_false,Bool.false_eq_true,app1 (show p.length≤100000 by omega),Qj,i2,mid_W (Sm_le hs),List.all_cons,hin,show 0≤x by omega,show x < (n:Int) by omega,decide_true,Bool.true_and]
  exact ih
theorem rperm_L3 (n:Nat) (k most:Int) (sp:QR):∀ (s p:List Int) (f:Bool),n=(p++s).length→n≤1000→Zm ((n:Int),p++s,k,most,sp,f,(p.length:Int))=some (f || s.any (· == k))
 | [],p,f,hn,h1=>by rw [Zm,hn]; simp only [ZZ,if_false]; simp
 | x::s,p,f,hn,h1=>by
  have hs:(p++x::s).length≤1000:=by omega
  have ih:=fun g=>rperm_L3 n k most sp s (p++[x]) g (by rw [← QE]; exact hn) h1
  simp only [← QE] at ih
  have hlt:((p.length:Int) < (n:Int)):=by rw [hn]; exact ZE
  rw [Zm]
  simp only [hlt,if_true,Q2,Qj,mid_W (Sm_le hs),ih]
  cases f <;> simp
open Classical in
theorem rperm_L2 (n:Nat) (v:List Int) (most:Int) (sp:QR) (hv:v.length=n) (hn:n≤1000) (hm:most < 1000):∀ (d k:Nat),most+1≤(k:Int)+(d:Int)→k≤2000 →
  Zx (most,(n:Int),v,sp,(k:Int))=some (if (∀ j:Nat,k≤j→(j:Int)≤most→(j:Int)∈v) then .inr () else .inl ())
 | 0,k,h,hk=>by
  rw [Zx,if_neg (by omega),if_pos (fun j h1 h2=>by omega)]
 | d+1,k,h,hk=>by
  rw [Zx]
  by_cases hc:(k:Int)≤most
  ·have e:=rperm_L3 n k most sp v [] false (by simpa using hv.symm) hn
   simp only [List.nil_append,List.length_nil,Int.natCast_zero,Bool.false_or] at e
   have ih:=rperm_L2 n v most sp hv hn hm d (k+1) (by omega) (by omega)
   have w:W ((k:Int)+1)=((k+1:Nat):Int):=W_succ (by omega)
   simp only [if_pos hc,e,Qj,w,ih]
   by_cases hin:(k:Int)∈v
   ·have hany:v.any (· == (k:Int))=true:=List.any_eq_true.2 ⟨_,hin,by simp⟩
    rw [if_neg (by rw [hany]; decide)]
    congr 1
    have hiff:(∀ j:Nat,k+1≤j→(j:Int)≤most→(j:Int)∈v)↔(∀ j:Nat,k≤j→(j:Int)≤most→(j:Int)∈v):=by
     constructor
     ·intro g j h1 h2
      by_cases e:j=k
      ·subst e; exact hin
      ·exact g j (by omega) h2
     ·intro g j h1 h2; exact g j (by omega) h2
    by_cases hg:(∀ j:Nat,k+1≤j→(j:Int)≤most→(j:Int)∈v)
    ·rw [if_pos hg,if_pos (hiff.1 hg)]
    ·rw [if_neg hg,if_neg (fun g=>hg (hiff.2 g))]
   ·have hany:v.any (· == (k:Int))=false:=by
     rw [List.any_eq_false]; intro y hy; simp; intro e; exact hin (e ▸ hy)
    rw [if_pos hany,if_neg (fun g=>hin (g k (Nat.le_refl _) hc))]
  ·rw [if_neg hc,if_pos (fun j h1 h2=>by omega)]
theorem set_count {v:List Int} {M:Nat} (h0:∀ x∈v,0≤x∧x≤(M:Int)):((setOf v).length=M+1)↔∀ j:Nat,j≤M→(j:Int)∈v:=by
 have hn:=setOf_nodup v
 have hsub:∀ x∈setOf v,x∈rng (M+1):=fun x hx=>mem_rng.2 (by have:=h0 x ((mem_setOf v x).1 hx); omega)
 constructor
 ·intro h j hj
  have hp:=perm_rng (v:=setOf v) hn (fun x hx=>by have:=h0 x ((mem_setOf v x).1 hx); omega)
  exact (mem_setOf v _).1 (hp.mem_iff.2 (mem_rng.2 (by omega)))
 ·intro h
  have h1:=List.Nodup.length_le_of_subset hn hsub
  have h2:=List.Nodup.length_le_of_subset (rng_nodup (M+1)) (l₂:=setOf v) (fun x hx=>by
   have hx:=mem_rng.1 hx
   have:=h x.toNat (by omega)
   rw [show ((x.toNat:Nat):Int)=x by omega] at this
   exact (mem_setOf v x).2 this)
  simp [rng] at h1 h2
  omega
theorem maxF_neg:∀ (l:List Int),l≠[]→(∀ x∈l,0≤x)→maxF l (-1)=maxL l
 | x::s,_,h=>by
  have hx:=h x (List.mem_cons_self ..)
  show maxF s (if (-1:Int) < x then x else -1)=maxF s x
  rw [if_pos (by omega)]
theorem permE_onto {v:List Int} {n:Nat} (h1:v.length=n) (h2:∀ x∈v,0≤x∧x < (n:Int)):(n > 0∧((setOf v).length:Int)≠maxL v+1)↔¬ (∀ j:Nat,0≤j→(j:Int)≤maxF v (-1)→(j:Int)∈v):=by
 by_cases h0:v=[]
 ·subst h0
  constructor
  ·rintro ⟨h,_⟩; simp at h1; omega
  ·intro h; exact absurd (fun j _ hj=>by simp [maxF] at hj; omega) h
 ·have hm:=maxF_neg v h0 fun x hx=>(h2 x hx).1
  obtain ⟨g1,g2⟩:=maxL_ge h0
  have hM:=h2 _ g2
  obtain ⟨M,hMe⟩:=Int.eq_ofNat_of_zero_le hM.1
  have hn:n > 0:=by have:=List.length_pos_iff.2 h0; omega
  have hc:=set_count (v:=v) (M:=M) fun x hx=>⟨(h2 x hx).1,by rw [← hMe]; exact g1 x hx⟩
  rw [hm,hMe]
  constructor
  ·rintro ⟨_,hne⟩ g
   exact hne (by have:=hc.2 (fun j hj=>g j (Nat.zero_le _) (by omega)); omega)
  ·intro h
   refine ⟨hn,fun e=>h fun j _ hj=>hc.1 (by omega) j (by omega)⟩
theorem rPerm_ok (v:List Int) (sc:Bool) (n:Nat) (hn:n≤100):Y9 (⟨v,sc⟩,(n:Int))=some (if permE v n=0 then (v,0) else ([],permE v n)):=by
 unfold Y9 permE
 by_cases c1:v.length=n
 ·obtain ⟨e1,e2⟩:=rperm_L1 sc n v [] (-1) (by simpa using c1.symm) (by omega)
  simp only [List.nil_append,List.length_nil,Int.natCast_zero] at e1 e2
  simp only [if_neg (show ¬ ((v.length:Int)≠(n:Int)) by omega),if_neg (show ¬ (v.length≠n) by omega)]
  cases c2:v.all (inR n)
  ·obtain ⟨x,e⟩:=e1 c2
   simp only [e,Qj,if_true,show ¬ ((6:Int)=0) by decide,if_false]
  ·have hin:∀ x∈v,0≤x∧x < (n:Int):=fun x hx=>by have:=List.all_eq_true.1 c2 x hx; simpa [inR] using this
   have hlt:maxF v (-1) < 1000:=by
    rcases (maxF_ge v (-1)).2.2 with h|h
    ·omega
    ·have:=hin _ h; omega
   have e3:=rperm_L2 n v (maxF v (-1)) ⟨v,sc⟩ c1 (by omega) hlt 1001 0 (by omega) (by omega)
   simp only [Int.natCast_zero] at e3
   have hiff:=permE_onto c1 hin
   simp only [e2 c2,Qj,e3,Bool.true_eq_false,if_false]
   by_cases hg:(∀ j:Nat,0≤j→(j:Int)≤maxF v (-1)→(j:Int)∈v)
   ·rw [if_pos hg,if_neg (fun h=>hiff.1 h hg)]
    simp
   ·rw [if_neg hg,if_pos (hiff.2 hg)]
    simp
 ·simp only [if_pos (show ((v.length:Int)≠(n:Int)) by omega),if_pos (show v.length≠n from c1),show ¬ ((5:Int)=0) by decide,if_false]
def gmin (i:Int):Int→List Int→List Int→Int
 | acc,j::v,x::a=>gmin i (if j=i then minI acc x else acc) v a
 | acc,_,_=>acc
theorem permF_at (i:Nat):∀ (v a l:List Int),(∀ x∈v,0≤x)→(permF l v a).getD i 65536=gmin i (l.getD i 65536) v a
 | [],_,l,_=>by unfold permF gmin; rfl
 | _::_,[],l,_=>by unfold permF gmin; rfl
 | j::v,x::a,l,h=>by
  have hj:=h j (List.mem_cons_self ..)
  rw [permF,permF_at i v a _ (fun y hy=>h y (List.mem_cons_of_mem _ hy)),stepP_get,gmin]
  congr 1
  by_cases e:i=j.toNat
  ·rw [if_pos e,if_pos (show j=(i:Int) by omega),e]
  ·rw [if_neg e,if_neg (show ¬ j=(i:Int) by omega)]
theorem gmin_le_acc (i:Int):∀ (v a:List Int) (acc:Int),gmin i acc v a≤acc
 | [],_,acc=>by unfold gmin; exact Int.le_refl _
 | _::_,[],acc=>by unfold gmin; exact Int.le_refl _
 | j::v,x::a,acc=>by
  have ih:=gmin_le_acc i v a (if j=i then minI acc x else acc)
  rw [gmin]
  refine Int.le_trans ih ?_
  unfold minI
  split
  ·split <;> omega
  ·exact Int.le_refl _
theorem gmin_nonneg (i:Int):∀ (v a:List Int) (acc:Int),(∀ x∈a,0≤x)→0≤acc→0≤gmin i acc v a
 | [],_,acc,_,h=>by unfold gmin; exact h
 | _::_,[],acc,_,h=>by unfold gmin; exact h
 | j::v,x::a,acc,ha,h=>by
  have hx:=ha x (List.mem_cons_self ..)
  rw [gmin]
  refine gmin_nonneg i v a _ (fun y hy=>ha y (List.mem_cons_of_mem _ hy)) ?_
  unfold minI
  split
  ·split <;> omega
  ·exact h
def lmin (j:Int):Int→List Int→List Int→Int
 | acc,x::s,y::t=>lmin j (if x=j∧(acc < 0∨y < acc) then y else acc) s t
 | acc,_,_=>acc
theorem lmin_pos (j:Int):∀ (s t:List Int) (acc:Int),(∀ y∈t,0≤y)→0≤acc→lmin j acc s t=gmin j acc s t
 | [],_,acc,_,_=>by unfold lmin gmin; rfl
 | _::_,[],acc,_,_=>by unfold lmin gmin; rfl
 | x::s,y::t,acc,ht,h=>by
  have hy:=ht y (List.mem_cons_self ..)
  have e:(if x=j∧(acc < 0∨y < acc) then y else acc)=(if x=j then minI acc y else acc):=by
   unfold minI
   by_cases h1:x=j
   ·by_cases h2:y < acc
    ·rw [if_pos ⟨h1,.inr h2⟩,if_pos h1,if_pos h2]
    ·rw [if_neg (by omega),if_pos h1,if_neg h2]
   ·rw [if_neg (fun h=>h1 h.1),if_neg h1]
  rw [lmin,gmin,e]
  refine lmin_pos j s t _ (fun z hz=>ht z (List.mem_cons_of_mem _ hz)) ?_
  unfold minI
  split
  ·split <;> omega
  ·exact h
theorem lmin_neg (j:Int):∀ (s t:List Int),s.length=t.length→Dims t→lmin j (-1) s t=if j∈s then gmin j 65536 s t else -1
 | [],[],_,_=>by unfold lmin; rw [if_neg (by simp)]
 | x::s,y::t,h,ht=>by
  have hy:=ht y (List.mem_cons_self ..)
  have ht':Dims t:=fun z hz=>ht z (List.mem_cons_of_mem _ hz)
  rw [lmin,gmin]
  by_cases h1:x=j
  ·have e:minI 65536 y=y:=by unfold minI; split <;> omega
   rw [if_pos ⟨h1,.inl (by omega)⟩,if_pos (show j∈x::s by rw [h1]; exact List.mem_cons_self ..),if_pos h1,e,lmin_pos j s t y (fun z hz=>(ht' z hz).1) hy.1]
  ·rw [if_neg (fun h=>h1 h.1),if_neg h1,lmin_neg j s t (by simpa using h) ht']
   have:j∈x::s↔j∈s:=by rw [List.mem_cons]; exact ⟨fun h=>h.resolve_left fun e=>h1 e.symm,.inr⟩
   by_cases h2:j∈s
   ·rw [if_pos h2,if_pos (this.2 h2)]
   ·rw [if_neg h2,if_neg (fun h=>h2 (this.1 h))]
 | [],_::_,h,_=>by cases h
 | _::_,[],h,_=>by cases h
theorem rpm_L2 (j:Int) (A:List Int):∀ (s t p q:List Int) (least:Int),s.length=t.length→p.length=q.length→(q++t).length≤1000 →
  ZH (q++t,p++s,j,A,least,(q.length:Int))=some (lmin j least s t)
 | [],[],p,q,least,_,_,_=>by rw [ZH]; simp only [ZZ,if_false]; rfl
 | x::s,y::t,p,q,least,h1,h2,hs=>by
  have ih:=fun l=>rpm_L2 j A s t (p++[x]) (q++[y]) l (by simpa using h1) (by simp [h2]) (by rw [← QE]; exact hs)
  simp only [← QE] at ih
  have i2:idx (p++x::s) (q.length:Int)=some x:=by rw [← h2]; exact Q2
  rw [ZH,lmin]
  simp only [ZE,if_true,Q2,i2,Qj,ite_som,mid_W (Sm_le hs),ih]
  by_cases c1:x=j
  ·by_cases c2:least < 0
   ·simp [c1,c2]
   ·by_cases c3:y < least <;> simp [c1,c2,c3]
  ·simp [c1]
 | [],_::_,_,_,_,h,_,_=>by cases h
 | _::_,[],_,_,_,h,_,_=>by cases h
def rl (v a:List Int):Nat→Nat→List Int
 | 0,_=>[]
 | d+1,j=>(if (j:Int)∈v then [gmin j 65536 v a] else [])++rl v a d (j+1)
theorem rpm_L1 (v a:List Int) (hva:v.length=a.length) (ha:a.length≤16) (hd:Dims a):∀ (d j:Nat) (A:List Int),j+d=a.length→A.length≤j→ZG (a,v,A,(j:Int))=some (A++rl v a d j)
 | 0,j,A,h,_=>by
  rw [ZG,if_neg (by omega)]; simp [rl]
 | d+1,j,A,h,hA=>by
  have e:=rpm_L2 (j:Int) A v a [] [] (-1) hva rfl (by simp; omega)
  simp only [List.nil_append,List.length_nil,Int.natCast_zero] at e
  have w:W ((j:Int)+1)=((j+1:Nat):Int):=W_succ (by omega)
  rw [ZG,if_pos (by omega)]
  simp only [e,Qj,lmin_neg _ v a hva hd,rl]
  by_cases hj:(j:Int)∈v
  ·have h0:=gmin_nonneg (j:Int) v a 65536 (fun x hx=>(hd x hx).1) (by omega)
   simp only [if_pos hj,if_pos (show gmin (j:Int) 65536 v a≥0 from h0),app1 (show A.length≤100000 by omega),Qj,w]
   rw [rpm_L1 v a hva ha hd d (j+1) _ (by omega) (by simp; omega)]
   simp
  ·simp only [if_neg hj,show ¬ ((-1:Int)≥0) by decide,if_false,w]
   rw [rpm_L1 v a hva ha hd d (j+1) A (by omega) (by omega)]
   simp
theorem permF_length:∀ (v a l:List Int) (m:Int),v.length=a.length→(∀ x∈v,0≤x)→(l.length:Int)=m+1→((permF l v a).length:Int)=maxF v m+1
 | [],_,l,m,_,_,h=>by unfold permF; exact h
 | _::_,[],_,_,h,_,_=>by cases h
 | j::v,x::a,l,m,h,h0,hl=>by
  have hj:=h0 j (List.mem_cons_self ..)
  rw [permF]
  refine permF_length v a _ (if m < j then j else m) (by simpa using h) (fun y hy=>h0 y (List.mem_cons_of_mem _ hy)) ?_
  rw [stepP_len]
  split <;> omega
theorem perm_onto {v a:List Int} (hp:permE v a.length=0):v.length=a.length∧(∀ x∈v,0≤x∧x < (a.length:Int))∧(∀ j:Nat,(j:Int)∈v↔j < (permL v a).length):=by
 obtain ⟨h1,h2,h3⟩:=permE_zero hp
 have hl:=permF_length v a [] (-1) h1 (fun x hx=>(h2 x hx).1) (by simp)
 have hon:=permE_onto h1 h2
 have hall:∀ j:Nat,0≤j→(j:Int)≤maxF v (-1)→(j:Int)∈v:=by
  rcases Classical.em (∀ j:Nat,0≤j→(j:Int)≤maxF v (-1)→(j:Int)∈v) with h|h
  ·exact h
  ·obtain ⟨g1,g2⟩:=hon.2 h
   exact absurd (h3 g1) g2
 refine ⟨h1,h2,fun j=>⟨fun hj=>?_,fun hj=>hall j (Nat.zero_le _) ?_⟩⟩
 ·have:=(maxF_ge v (-1)).2.1 _ hj
  show j < (permF [] v a).length
  omega
 ·have:j < (permF [] v a).length:=hj
  omega
theorem permL_at {v a:List Int} (hp:permE v a.length=0) {j:Nat} (hj:j < (permL v a).length):(permL v a)[j]=gmin j 65536 v a:=by
 have h:=permF_at j v a [] (fun x hx=>((perm_onto hp).2.1 x hx).1)
 have e:(permL v a).getD j 65536=(permL v a)[j]:=by rw [List.getD_eq_getElem?_getD,List.getElem?_eq_getElem hj]; rfl
 rw [← e]
 exact h
theorem rl_eq {v a:List Int} (hp:permE v a.length=0):∀ (d j:Nat),j+d=a.length→(permL v a).length≤a.length→rl v a d j=(permL v a).drop j
 | 0,j,h,hl=>by rw [rl,List.drop_of_length_le (by omega)]
 | d+1,j,h,hl=>by
  rw [rl,rl_eq hp d (j+1) (by omega) hl]
  have hon:=(perm_onto hp).2.2 j
  by_cases hj:j < (permL v a).length
  ·rw [if_pos (hon.2 hj),List.drop_eq_getElem_cons hj,permL_at hp hj]; rfl
  ·rw [if_neg (fun h=>hj (hon.1 h)),List.drop_of_length_le (by omega),List.drop_of_length_le (by omega)]; rfl
theorem permL_len {v a:List Int} (hp:permE v a.length=0):(permL v a).length≤a.length:=by
 obtain ⟨h1,h2,h3⟩:=perm_onto hp
 refine Nat.le_of_not_lt fun h=>?_
 have:=h2 _ ((h3 a.length).2 h)
 omega
theorem rpermuted_ok {v a:List Int} (hp:permE v a.length=0) (ha:checkR a=0):Xo (v,a)=some ⟨[],a,permL v a,[],-1,0,v⟩:=by
 obtain ⟨c1,c2,_⟩:=checkR_zero.1 ha
 have e:=rpm_L1 v a (perm_onto hp).1 c2 c1 a.length 0 [] (by omega) (by simp)
 simp only [Int.natCast_zero,List.nil_append] at e
 unfold Xo
 simp only [e,Qj,rl_eq hp a.length 0 (by omega) (permL_len hp),List.drop_zero]
def pf (c:Int→Bool):List Int→List Int→Int
 | j::v,x::a=>(if c j then x else 1) * pf c v a
 | _,_=>1
theorem pf_pos (c:Int→Bool):∀ (v a:List Int),(∀ x∈a,1≤x)→1≤pf c v a
 | [],_,_=>by unfold pf; omega
 | _::_,[],_=>by unfold pf; omega
 | j::v,x::a,h=>by
  have ih:=pf_pos c v a (fun y hy=>h y (List.mem_cons_of_mem _ hy))
  have hx:=h x (List.mem_cons_self ..)
  have h1:(1:Int)≤(if c j then x else 1):=by split <;> omega
  rw [pf]
  have:=Int.mul_le_mul h1 ih (by omega) (by omega)
  omega
theorem pf_le (c:Int→Bool):∀ (v a:List Int),(∀ x∈a,1≤x)→pf c v a≤prodI a
 | [],a,h=>by unfold pf; exact prodI_pos h
 | _::_,[],_=>by unfold pf; rw [prodI_nil]; omega
 | j::v,x::a,h=>by
  have h':∀ y∈a,1≤y:=fun y hy=>h y (List.mem_cons_of_mem _ hy)
  have ih:=pf_le c v a h'
  have hx:=h x (List.mem_cons_self ..)
  have h1:(if c j then x else 1)≤x:=by split <;> omega
  rw [pf,prodI_cons]
  exact Int.mul_le_mul h1 ih (by have:=pf_pos c v a h'; omega) (by omega)
theorem pf_split (m:Nat):∀ (v a:List Int),pf (fun y=>decide (y < ((m+1:Nat):Int))) v a=pf (fun y=>decide (y < (m:Int))) v a * pf (fun y=>decide (y=(m:Int))) v a
 | [],_=>by simp [pf]
 | _::_,[]=>by simp [pf]
 | j::v,x::a=>by
  rw [pf,pf,pf,pf_split m v a]
  rcases Int.lt_trichotomy j (m:Int) with h|h|h
  ·simp only [show j < ((m+1:Nat):Int) by omega,h,show ¬ j=(m:Int) by omega,decide_true,decide_false,if_true,Bool.false_eq_true,if_false,Int.one_mul,Int.mul_assoc]
  ·simp only [show j < ((m+1:Nat):Int) by omega,h,show ¬ (m:Int) < (m:Int) by omega,decide_true,decide_false,if_true,Bool.false_eq_true,if_false,Int.one_mul,show (m:Int) < ((m+1:Nat):Int) by omega]
   exact Int.mul_left_comm _ _ _
  ·simp only [show ¬ j < ((m+1:Nat):Int) by omega,show ¬ j < (m:Int) by omega,show ¬ j=(m:Int) by omega,decide_false,Bool.false_eq_true,if_false,Int.one_mul]
theorem gmin_pf (m:Int):∀ (v a:List Int) (acc:Int),v.length=a.length→(∀ x∈a,1≤x)→m∈v→gmin m acc v a≤pf (fun y=>decide (y=m)) v a
 | [],_,_,_,_,h=>by cases h
 | _::_,[],_,h,_,_=>by cases h
 | j::v,x::a,acc,hl,ha,h=>by
  have ha':∀ y∈a,1≤y:=fun y hy=>ha y (List.mem_cons_of_mem _ hy)
  have hx:=ha x (List.mem_cons_self ..)
  have hp:=pf_pos (fun y=>decide (y=m)) v a ha'
  rw [gmin,pf]
  by_cases e:j=m
  ·simp only [e,decide_true,if_true]
   have h1:=gmin_le_acc m v a (minI acc x)
   have h2:minI acc x≤x:=by unfold minI; split <;> omega
   have h3:=Int.mul_le_mul (Int.le_refl x) hp (by omega) (by omega)
   rw [Int.mul_one] at h3
   omega
  ·have hm:m∈v:=by
    rcases List.mem_cons.1 h with h|h
    ·exact absurd h.symm e
    ·exact h
   simp only [e,decide_false,Bool.false_eq_true,if_false,Int.one_mul]
   exact gmin_pf m v a acc (by simpa using hl) ha' hm
theorem gmin_zero (m:Int):∀ (v a:List Int) (acc:Int) (k:Nat) (hk:k < a.length) (hv:k < v.length),v[k]=m→gmin m acc v a≤a[k]
 | [],_,_,k,_,hv,_=>by simp at hv
 | _::_,[],_,k,hk,_,_=>by simp at hk
 | j::v,x::a,acc,0,hk,hv,e=>by
  have e:j=m:=e
  rw [gmin,if_pos e]
  have h1:=gmin_le_acc m v a (minI acc x)
  have h2:minI acc x≤x:=by unfold minI; split <;> omega
  show gmin m (minI acc x) v a≤x
  omega
 | j::v,x::a,acc,k+1,hk,hv,e=>by
  rw [gmin]
  exact gmin_zero m v a _ k (by simpa using hk) (by simpa using hv) (by simpa using e)
theorem perm_prod {v a:List Int} (hp:permE v a.length=0) (h1:∀ x∈a,1≤x):∀ m:Nat,m≤(permL v a).length→prodI ((permL v a).take m)≤pf (fun y=>decide (y < (m:Int))) v a
 | 0,_=>by rw [List.take_zero,prodI_nil]; exact pf_pos _ v a h1
 | m+1,hm=>by
  obtain ⟨o1,o2,o3⟩:=perm_onto hp
  have hlt:m < (permL v a).length:=by omega
  have ih:=perm_prod hp h1 m (by omega)
  have hg:=gmin_pf (m:Int) v a 65536 o1 h1 ((o3 m).2 hlt)
  have g0:=gmin_nonneg (m:Int) v a 65536 (fun x hx=>by have:=h1 x hx; omega) (by omega)
  have p0:=pf_pos (fun y=>decide (y < (m:Int))) v a h1
  rw [List.take_succ_eq_append_getElem hlt,prodI_append,prodI_cons,prodI_nil,Int.mul_one,permL_at hp hlt,pf_split]
  exact Int.mul_le_mul ih hg g0 (by omega)
theorem perm_check {v a:List Int} (hp:permE v a.length=0) (ha:checkR a=0):checkR (permL v a)=0:=by
 obtain ⟨c1,c2,c3⟩:=checkR_zero.1 ha
 obtain ⟨o1,o2,o3⟩:=perm_onto hp
 have hl:=permL_len hp
 refine checkR_zero.2 ⟨fun d hd=>?_,by omega,?_⟩
 ·obtain ⟨j,hj,rfl⟩:=List.getElem_of_mem hd
  rw [permL_at hp hj]
  exact ⟨gmin_nonneg _ v a _ (fun x hx=>(c1 x hx).1) (by omega),gmin_le_acc _ v a _⟩
 ·by_cases h0:(0:Int)∈a
  ·obtain ⟨k,hk,e⟩:=List.getElem_of_mem h0
   have hkv:k < v.length:=by omega
   have hj:=o2 _ (List.getElem_mem hkv)
   obtain ⟨j,hje⟩:=Int.eq_ofNat_of_zero_le hj.1
   have hlt:j < (permL v a).length:=(o3 j).1 (by rw [← hje]; exact List.getElem_mem hkv)
   have hz:=gmin_zero (j:Int) v a 65536 k hk hkv hje
   have hn:=gmin_nonneg (j:Int) v a 65536 (fun x hx=>(c1 x hx).1) (by omega)
   have hm:(0:Int)∈permL v a:=by
    have:(permL v a)[j]=0:=by rw [permL_at hp hlt]; omega
    rw [← this]; exact List.getElem_mem hlt
   rw [prodI_zero hm]; omega
  ·have h1:∀ x∈a,1≤x:=fun x hx=>by
    have:=c1 x hx
    have hne:x≠0:=fun e=>h0 (e ▸ hx)
    omega
   have hq:=perm_prod hp h1 (permL v a).length (Nat.le_refl _)
   rw [List.take_length] at hq
   have:=pf_le (fun y=>decide (y < ((permL v a).length:Int))) v a h1
   omega
theorem rTrans_ok (v a:List Int) (ha:checkR a=0):YY (v,a)=some (rr (transR v a).1,(transR v a).2):=by
 have hl:=(checkR_zero.1 ha).2.1
 unfold YY transR transE
 simp only [rPerm_ok v false a.length (by omega),Qj]
 by_cases hp:permE v a.length=0
 ·simp only [hp,if_true,ne_eq,not_true_eq_false,if_false,rpermuted_ok hp ha,perm_check hp ha,Qj]; rfl
 ·simp only [hp,if_false,ne_eq,not_false_eq_true,if_true]; rfl
def revR (ax:Int) (a:List Int):Qn × Int :=
 if ax=-1 then (⟨[],a,a,[],(a.length:Int) - 1,0,[]⟩,0) else if ax≥(a.length:Int) then (zeroRule,4) else (⟨[],a,a,[],ax,0,[]⟩,0)
theorem axisOf_ok (ax:Int) (a:List Int) (hl:a.length≤16):JF (ax,a)=some (if ax=-1 then ((a.length:Int) - 1,0) else if ax≥(a.length:Int) then (0,4) else (ax,0)):=by
 unfold JF
 have w:W ((a.length:Int) - 1)=(a.length:Int) - 1:=W_ok (by omega) (by omega)
 simp only [w]
 split
 ·rfl
 ·split <;> rfl
theorem Reverse_ok (ax:Int) {a:List Int} (ha:checkR a=0):Qae (ax,a)=some (revR ax a):=by
 have hl:=(checkR_zero.1 ha).2.1
 have hm:∀ x,XL (a,x,0)=some (.inr (a,a)):=fun x=>by
  unfold XL
  simp only [shapeCheck_ok a (Sm_le (by omega)),Qj,ha,ne_eq,not_true_eq_false,if_false,Clone_ok a (by omega)]
  rfl
 unfold Qae revR
 simp only [axisOf_ok ax a hl,Qj]
 by_cases h1:ax=-1
 ·subst h1
  simp only [if_true,ne_eq,not_true_eq_false,if_false,YO,Qj,hm]
 by_cases h2:ax≥(a.length:Int)
 ·simp only [h1,h2,if_true,if_false,ne_eq,failed_ok,Qj]; rfl
 ·simp only [h1,h2,if_false,ne_eq,not_true_eq_false,YO,Qj,hm]
theorem rReverse_ok {ax:Int} (hax:-1≤ax) {a:List Int} (hl:a.length≤16):Y6 (ax,a)=some (rr (revR ax a).1,(revR ax a).2):=by
 unfold Y6 revR
 have w:W ((a.length:Int) - 1)=(a.length:Int) - 1:=W_ok (by omega) (by omega)
 simp only [w]
 by_cases h1:ax=-1
 ·subst h1
  have h2:¬ ((-1:Int)≥(a.length:Int)):=by omega
  simp only [h2,if_false,show (-1:Int) < 0 from by decide,if_true,Qj]; rfl
 by_cases h2:ax≥(a.length:Int)
 ·simp only [h1,h2,if_true,if_false]; rfl
 ·have h3:¬ ax < 0:=by omega
  simp only [h1,h2,h3,if_false,Qj]; rfl
theorem revR_axis {ax:Int} (hax:-1≤ax) {a:List Int}:-1≤(revR ax a).1.axis∧((revR ax a).2=0→(revR ax a).1.axis < (a.length:Int)):=by
 unfold revR
 split
 ·exact ⟨by show -1≤(a.length:Int) - 1; omega,fun _=>by show (a.length:Int) - 1 < _; omega⟩
 ·split
  ·exact ⟨by show -1≤(0:Int); omega,fun h=>by cases h⟩
  ·exact ⟨hax,fun _=>by show ax < _; omega⟩
theorem okR_rev {ax:Int} {a:List Int} (ha:checkR a=0):okR (revR ax a).1:=by
 unfold revR
 split
 ·exact ⟨check_nil,ha,ha⟩
 ·split
  ·exact okR_zero
  ·exact ⟨check_nil,ha,ha⟩
theorem tmod_emod (x d:Int):x.tmod d % d=x % d:=by
 have h:=Int.mul_tdiv_add_tmod x d
 generalize x.tmod d=r at h
 rw [← h,Int.add_comm,Int.add_mul_emod_self_left]
def modI (x d:Int):Int:=if d≤0 then 0 else x % d
theorem sMod_ok (x d:Int) (hd:d≤65536):Qbo (x,d)=some (modI x d):=by
 unfold Qbo modI
 by_cases h:d≤0
 ·simp only [h,if_true]
 ·have hp:0 < d:=by omega
  simp only [h,if_false,remM,if_neg (show ¬ d=0 by omega),Qj]
  have h1:=Int.tmod_lt_of_pos x hp
  have h2:-d < x.tmod d:=by
   have:=Int.lt_tmod_of_pos x hp
   omega
  have e:x.tmod d % d=x % d:=tmod_emod x d
  by_cases h3:x.tmod d < 0
  ·rw [if_pos h3,W_ok (by omega) (by omega),← e,← Int.add_emod_right,Int.emod_eq_of_lt (by omega) (by omega)]
  ·rw [if_neg h3,← e,Int.emod_eq_of_lt (by omega) h1]
theorem rmod_ok {x d:Int} (hp:0 < d) (hd:d≤65536):(remM x d>>=fun v=>remM (W (v+d)) d>>=fun w=>some w)=some (modI x d):=by
 unfold modI
 have h1:=Int.tmod_lt_of_pos x hp
 have h2:-d < x.tmod d:=Int.lt_tmod_of_pos x hp
 have e:x.tmod d % d=x % d:=tmod_emod x d
 simp only [remM,if_neg (show ¬ d=0 by omega),Qj,if_neg (show ¬ d≤0 by omega)]
 rw [W_ok (by omega) (by omega),Int.tmod_eq_emod_of_nonneg (by omega),Int.add_emod_right,e]
def rotR (v:List Int) (ax:Int) (a:List Int):Qn × Int :=
 if v.length≠1 then (zeroRule,5) else if (revR ax a).2≠0 then (zeroRule,(revR ax a).2) else
 (⟨[],a,a,[],(revR ax a).1.axis,if (revR ax a).1.axis < 0 then 0 else modI (v.getD 0 0) (a.getD (revR ax a).1.axis.toNat 0),[]⟩,0)
theorem Rotate_ok (v:List Int) (sc:Bool) {ax:Int} (hax:-1≤ax) {a:List Int} (hv:v.length≤1000) (ha:checkR a=0):QaQ (⟨v,sc⟩,ax,a)=some (rotR v ax a):=by
 obtain ⟨hd,hl,_⟩:=checkR_zero.1 ha
 have hm1:Y1 (a,v,sc)=some (.inr (a,a)):=by
  unfold Y1
  simp only [shapeCheck_ok a (Sm_le (by omega)),Qj,ha,ne_eq,not_true_eq_false,if_false,Clone_ok a (by omega)]
 have hm2:∀ x y,Y0 (a,v,sc,x,y)=some (.inr (a,a)):=fun x y=>by
  unfold Y0
  simp only [shapeCheck_ok a (Sm_le (by omega)),Qj,ha,ne_eq,not_true_eq_false,if_false,Clone_ok a (by omega)]
  rfl
 unfold QaQ rotR Qc0 Jk
 dsimp only
 by_cases h1:v.length=1
 case neg =>
  have h1':(v.length:Int)≠1:=by omega
  simp only [h1',h1,ne_eq,not_false_eq_true,if_true,Qj,show ¬ (5:Int)=0 from by decide,failed_ok]
 obtain ⟨x,rfl⟩:∃ x,v=[x]:=List.length_eq_one_iff.1 h1
 have e1:(([x]:List Int).length:Int)=1:=rfl
 have e2:idx [x] 0=some x:=rfl
 have ea:=revR_axis hax (a:=a)
 simp only [e1,ne_eq,not_true_eq_false,if_false,Clone64_ok [x] (by simp),Qj,e2,axisOf_ok ax a hl,List.length_singleton]
 have key:∀ k:Int,-1≤k→k < (a.length:Int)→(if k < 0 then
   (Y1 (a,[x],sc)>>=fun out=>match out with
    | .inl v9=>some ((⟨[],[],[],[],0,0,[]⟩:Qn),v9)
    | .inr (v10,v11)=>some ((⟨[],v10,v11,[],-1,0,[]⟩:Qn),0))
   else idx a k>>=fun v12=>Qbo (x,v12)>>=fun v13=>YO (k,v13)>>=fun p=>match p with
    | (v14,v15)=>Y0 (a,[x],sc,v14,v15)>>=fun out=>match out with
     | .inl v16=>some ((⟨[],[],[],[],0,0,[]⟩:Qn),v16)
     | .inr (v17,v18)=>some ((⟨[],v17,v18,[],v14,v15,[]⟩:Qn),0)) =
   some (⟨[],a,a,[],k,if k < 0 then 0 else modI ([x].getD 0 0) (a.getD k.toNat 0),[]⟩,0):=fun k k1 k2=>by
  by_cases hk:k < 0
  ·have:k=-1:=by omega
   subst this
   simp only [hk,if_true,hm1,Qj]
  ·obtain ⟨j,rfl⟩:=Int.eq_ofNat_of_zero_le (show 0≤k by omega)
   have hj:j < a.length:=by omega
   have hdj:=hd a[j] (List.getElem_mem hj)
   simp only [hk,if_false,idx_ok hj,Qj,sMod_ok x a[j] hdj.2,YO,hm2,Int.toNat_natCast,getD_el hj]
   rfl
 unfold revR at ea ⊢
 by_cases h2:ax=-1
 ·simp only [h2,if_true] at ea ⊢
  simp only [ne_eq,not_true_eq_false,if_false]
  exact key _ ea.1 (ea.2 trivial)
 by_cases h3:ax≥(a.length:Int)
 ·simp only [h2,h3,if_true,if_false,ne_eq,failed_ok,Qj]; rfl
 ·simp only [h2,h3,if_false] at ea ⊢
  simp only [ne_eq,not_true_eq_false,if_false]
  exact key _ ea.1 (ea.2 trivial)
theorem rRotate_ok (v:List Int) {ax:Int} (hax:-1≤ax) {a:List Int} (ha:checkR a=0):Jh (v,ax,a)=some (rr (rotR v ax a).1,(rotR v ax a).2):=by
 obtain ⟨hd,hl,_⟩:=checkR_zero.1 ha
 unfold Jh rotR
 dsimp only
 by_cases h1:v.length=1
 case neg =>
  have h1':(v.length:Int)≠1:=by omega
  simp only [h1',h1,ne_eq,not_false_eq_true,if_true]; rfl
 obtain ⟨x,rfl⟩:∃ x,v=[x]:=List.length_eq_one_iff.1 h1
 have e1:(([x]:List Int).length:Int)=1:=rfl
 have e2:idx [x] 0=some x:=rfl
 have ea:=revR_axis hax (a:=a)
 simp only [e1,ne_eq,not_true_eq_false,if_false,rReverse_ok hax hl,Qj,List.length_singleton,show ((1:Nat):Int)=1 from rfl]
 have hsh:(revR ax a).2=0→(revR ax a).1=⟨[],a,a,[],(revR ax a).1.axis,0,[]⟩:=by
  unfold revR
  split
  ·exact fun _=>rfl
  ·split
   ·exact fun h=>by cases h
   ·exact fun _=>rfl
 have hz:(revR ax a).2≠0→(revR ax a).1=zeroRule:=by
  unfold revR
  split
  ·exact fun h=>absurd rfl h
  ·split
   ·exact fun _=>rfl
   ·exact fun h=>absurd rfl h
 generalize hq:revR ax a=q at ea hsh hz ⊢
 obtain ⟨r,e⟩:=q
 simp only at ea hsh hz ⊢
 by_cases he:e=0
 ·subst he
  have hr:=hsh rfl
  have hk:=ea.2 rfl
  have h3:(rr r).axis=r.axis:=rfl
  simp only [if_true,not_true_eq_false,if_false,h3]
  by_cases h0:r.axis < 0
  ·have hng:¬ r.axis≥0:=by omega
   simp only [decide_eq_false hng,Qj,Bool.false_eq_true,if_false,h0,if_true]
   rw [hr]; rfl
  ·obtain ⟨j,hj⟩:=Int.eq_ofNat_of_zero_le (show 0≤r.axis by omega)
   have hja:j < a.length:=by omega
   have hdj:=hd a[j] (List.getElem_mem hja)
   have hge:r.axis≥0:=by omega
   simp only [decide_eq_true hge,Qj,if_true,h0,if_false]
   rw [hj]
   simp only [idx_ok hja,Qj,Int.toNat_natCast,getD_el hja]
   by_cases hp:a[j] > 0
   ·simp only [decide_eq_true hp,if_true,e2,Qj]
    have:=rmod_ok (x:=x) (show 0 < a[j] by omega) hdj.2
    rw [this,Qj,hr,hj]; rfl
   ·have hm:modI x a[j]=0:=if_pos (by omega)
    simp only [decide_eq_false hp,Bool.false_eq_true,if_false,Qj]
    rw [hr,hj]
    show some (_,_)=some (rr ⟨[],a,a,[],_,modI x a[j],[]⟩,0)
    rw [hm]; rfl
 ·rw [hz he]
  simp only [he,not_false_eq_true,if_true,if_false,Qj,Bool.false_eq_true]
  try rfl
theorem okR_rot {v:List Int} {ax:Int} {a:List Int} (ha:checkR a=0):okR (rotR v ax a).1:=by
 unfold rotR
 split
 ·exact okR_zero
 ·split
  ·exact okR_zero
  ·exact ⟨check_nil,ha,ha⟩
def ravR (a:List Int):Qn:=⟨[],a,[cellsR a],[],-1,0,[]⟩
theorem cells_check {a:List Int} (ha:checkR a=0):checkR [cellsR a]=0:=by
 obtain ⟨h1,h2,h3⟩:=checkR_zero.1 ha
 have hc:cellsR a=prodI a:=if_pos ha
 have h0:0≤prodI a:=prodI_nonneg fun x hx=>(h1 x hx).1
 rw [hc]
 refine checkR_zero.2 ⟨fun x hx=>?_,by simp,?_⟩
 ·simp only [List.mem_singleton] at hx; subst hx; exact ⟨h0,h3⟩
 ·show prodI [prodI a]≤_; simp [prodI] at h3 ⊢; exact h3
theorem shapeCells_ok (l:List Int) (hs:Sm l.length):JG l=some (cellsR l):=by
 unfold JG cellsR
 simp only [shapeCheck_ok l hs,Qj]
 by_cases h:checkR l=0
 ·simp only [h,ne_eq,not_true_eq_false,if_false,if_true,sProduct_ok l hs,Qj]
  obtain ⟨h1,h2,h3⟩:=checkR_zero.1 h
  have hn:negB l=false:=by
   cases e:negB l with
   | false=>rfl
   | true=>unfold checkR at h; rw [e] at h; cases h
  have hb:bigB l=false:=by
   cases e:bigB l with
   | false=>rfl
   | true=>unfold checkR at h; rw [hn,e] at h; simp at h
  unfold prodR
  rw [hn,hb]
  simp only [Bool.false_eq_true,if_false,show ¬ prodI l > 65536 by omega]
 ·simp only [h,ne_eq,not_false_eq_true,if_true,if_false]
theorem Ravel_ok {a:List Int} (ha:checkR a=0):Qbh a=some (ravR a,0):=by
 have hl:=(checkR_zero.1 ha).2.1
 unfold Qbh JW
 simp only [shapeCells_ok a (Sm_le (show a.length≤1000 by omega)),Qj,shapeCheck_ok [cellsR a] (Sm_le (show ([cellsR a]:List Int).length≤1000 by simp)),cells_check ha,ne_eq,not_true_eq_false,if_false,Clone_ok a (by omega),Clone_ok [cellsR a] (by simp)]
 rfl
theorem rRavel_ok {a:List Int} (hl:a.length≤1000):JE a=some (rr (ravR a)):=by
 unfold JE
 simp only [Cells_ok a (Sm_le hl),Qj]; rfl
def dn:Nat→List Int
 | 0=>[]
 | n+1=>(n:Int)::dn n
theorem dn_len:∀ n,(dn n).length=n
 | 0=>rfl
 | n+1=>by rw [dn,List.length_cons,dn_len n]
theorem dn_mem:∀ (n:Nat) (x:Int),x∈dn n↔0≤x∧x < (n:Int)
 | 0,x=>by
  simp only [dn,List.not_mem_nil,false_iff]; omega
 | n+1,x=>by rw [dn,List.mem_cons,dn_mem n x]; omega
theorem dn_perm (n:Nat):permE (dn n) n=0:=by
 unfold permE
 rw [if_neg (by simp [dn_len]),if_neg (by
  have:(dn n).all (inR n)=true:=List.all_eq_true.2 fun x hx=>by have:=(dn_mem n x).1 hx; simp [inR]; omega
  rw [this]; simp),if_neg]
 have hle:∀ x∈dn n,0≤x∧x < (n:Int):=fun x hx=>(dn_mem n x).1 hx
 rw [permE_onto (dn_len n) hle]
 intro h
 refine h fun j _ hj=>?_
 rw [dn_mem]
 refine ⟨by omega,?_⟩
 have hb:maxF (dn n) (-1) < (n:Int):=by
  rcases (maxF_ge (dn n) (-1)).2.2 with e|e
  ·rw [e]; omega
  ·exact (hle _ e).2
 omega
def flipR (a:List Int):Qn:=⟨[],a,permL (dn a.length) a,[],-1,0,dn a.length⟩
theorem flip_L1 (a:List Int) (hl:a.length≤16):∀ (m j:Nat) (acc:List Int),j+m=a.length→acc.length=j→YV (a,acc,(j:Int))=some (acc++dn m)
 | 0,j,acc,h,h2=>by
  rw [YV]
  have:¬ ((j:Int) < (a.length:Int)):=by omega
  simp only [this,if_false,dn,List.append_nil]
 | m+1,j,acc,h,h2=>by
  rw [YV]
  have h1:((j:Int) < (a.length:Int)):=by omega
  have w:W ((j:Int)+1)=((j+1:Nat):Int):=W_succ (by omega)
  have w2:W (W ((a.length:Int) - 1) - (j:Int))=(m:Int):=by rw [W_ok (n:=(a.length:Int) - 1) (by omega) (by omega),W_ok (by omega) (by omega)]; omega
  simp only [h1,if_true,w2,app1 (show acc.length≤100000 by omega),Qj,w,flip_L1 a hl m (j+1) (acc++[(m:Int)]) (by omega) (by simp; omega),dn,List.append_assoc,List.singleton_append]
theorem dn_in (n:Nat):∀ x∈dn n,0≤x∧x < (n:Int):=fun x hx=>(dn_mem n x).1 hx
theorem Flip_ok {a:List Int} (ha:checkR a=0):QbE a=some (flipR a,0):=by
 have hl:=(checkR_zero.1 ha).2.1
 have e:=flip_L1 a hl a.length 0 [] (by omega) rfl
 simp only [Int.natCast_zero,List.nil_append] at e
 unfold QbE
 simp only [e,Qj,permuted_ok (dn a.length) a hl (dn_len _) (dn_in _),perm_check (dn_perm a.length) ha,if_true]
 rfl
theorem rflip_L1 (a:List Int):∀ (m:Nat) (acc:List Int),acc.length+m≤1000→YG (a,acc,(m:Int) - 1)=some (acc++dn m)
 | 0,acc,h=>by
  rw [YG]
  have:¬ (((0:Nat):Int) - 1≥0):=by omega
  simp only [this,if_false,dn,List.append_nil]
 | m+1,acc,h=>by
  rw [YG]
  have h1:(((m+1:Nat):Int) - 1≥0):=by omega
  have w:W (((m+1:Nat):Int) - 1 - 1)=(m:Int) - 1:=by rw [W_ok (by omega) (by omega)]; omega
  have w2:((m+1:Nat):Int) - 1=(m:Int):=by omega
  have e:=rflip_L1 a m (acc++[(m:Int)]) (by simp; omega)
  rw [w2] at w h1 ⊢
  simp only [h1,if_true,w,app1 (show acc.length≤100000 by omega),Qj,dn,e,List.append_assoc,List.singleton_append]
theorem rFlip_ok {a:List Int} (ha:checkR a=0):Qar a=some (rr (flipR a)):=by
 have hl:=(checkR_zero.1 ha).2.1
 have w:W ((a.length:Int) - 1)=(a.length:Int) - 1:=W_ok (by omega) (by omega)
 have e:=rflip_L1 a a.length [] (by simp; omega)
 unfold Qar
 simp only [w,e,Qj,List.nil_append,rpermuted_ok (dn_perm a.length) ha]
 rfl
theorem okR_flip {a:List Int} (ha:checkR a=0):okR (flipR a):=⟨check_nil,ha,perm_check (dn_perm a.length) ha⟩
mutual
def szT:Qf→Nat
 | ⟨_,_,_,_,_,kids⟩=>1+szTs kids
def szTs:List Qf→Nat
 | []=>0
 | k::ks=>szT k+szTs ks
end
mutual
def numT:Qf→Nat
 | ⟨_,_,_,_,nums,kids⟩=>nums.length+numTs kids
def numTs:List Qf→Nat
 | []=>0
 | k::ks=>numT k+numTs ks
end
mutual
def depT:Qf→Nat
 | ⟨_,_,_,_,_,kids⟩=>depTs kids+1
def depTs:List Qf→Nat
 | []=>0
 | k::ks=>max (depT k) (depTs ks)
end
theorem szT_pos:∀ t:Qf,1≤szT t
 | ⟨_,_,_,_,_,kids⟩=>by rw [szT]; omega
theorem szTs_len:∀ l:List Qf,l.length≤szTs l
 | []=>Nat.zero_le _
 | k::ks=>by have:=szTs_len ks; have:=szT_pos k; rw [szTs]; simp only [List.length_cons]; omega
theorem szTs_app:∀ a b:List Qf,szTs (a++b)=szTs a+szTs b
 | [],b=>by simp [szTs]
 | k::ks,b=>by rw [List.cons_append,szTs,szTs,szTs_app ks b]; omega
mutual
theorem depT_le:∀ t:Qf,depT t≤szT t
 | ⟨_,_,_,_,_,kids⟩=>by have:=depTs_le kids; rw [depT,szT]; omega
theorem depTs_le:∀ l:List Qf,depTs l≤szTs l
 | []=>Nat.le_refl _
 | k::ks=>by have:=depT_le k; have:=depTs_le ks; rw [depTs,szTs]; omega
end
mutual
theorem tleft_ok:∀ (t:Qf) (n:Int),0≤n→n≤600→Jt (t,n)=some (max (n - (szT t:Int)) (-1))
 | ⟨k,f,a,nm,nu,ks⟩,n,h1,h2=>by
  rw [Jt]
  have w:W (n - 1)=n - 1:=W_ok (by omega) (by omega)
  have e:=tleft_loop ks [] (n - 1) k f a nm nu (by omega) (by simp; omega)
  simp only [List.nil_append,List.length_nil,Int.natCast_zero] at e
  rw [w,e,Qj,szT]
  congr 1; omega
theorem tleft_loop:∀ (s p:List Qf) (n:Int) (k f a:Int) (nm:ByteArray) (nu:List Int),-1≤n→(p.length:Int)+n≤600 →
  Yg (⟨k,f,a,nm,nu,p++s⟩,n,(p.length:Int))=some (max (n - (szTs s:Int)) (-1))
 | [],p,n,k,f,a,nm,nu,h1,h2=>by
  rw [Yg]
  simp only [ZZ,if_false,Qj,Bool.false_eq_true,szTs]
  congr 1; omega
 | x::s,p,n,k,f,a,nm,nu,h1,h2=>by
  rw [Yg]
  simp only [ZE,if_true,Qj]
  by_cases hn:n≥0
  ·rw [decide_eq_true hn]
   have e:=tleft_ok x n hn (by omega)
   have e':=tleft_loop s (p++[x]) (max (n - (szT x:Int)) (-1)) k f a nm nu (by omega) (by have:=szT_pos x; simp; omega)
   rw [← QE] at e'
   have w:W ((p.length:Int)+1)=((p++[x]).length:Int):=by rw [W_ok (by omega) (by omega)]; simp
   simp only [if_true,Q2,Qj,e,w,e',szTs]
   congr 1; omega
  ·rw [decide_eq_false hn]
   simp only [Bool.false_eq_true,if_false,szTs]
   congr 1; omega
end
mutual
theorem tdep_ok:∀ (t:Qf),szT t≤600→Xi t=some (depT t:Int)
 | ⟨k,f,a,nm,nu,ks⟩,h=>by
  rw [Xi]
  rw [szT] at h
  have e:=tdep_loop ks [] 0 k f a nm nu (by have:=szTs_len ks; simp; omega) (by omega) (by omega)
  simp only [List.nil_append,List.length_nil,Int.natCast_zero] at e
  have:=depTs_le ks
  simp only [e,Qj,depT]
  rw [W_ok (by omega) (by omega)]
  congr 1
  first|done|omega
theorem tdep_loop:∀ (s p:List Qf) (m:Nat) (k f a:Int) (nm:ByteArray) (nu:List Int),(p++s).length≤600→szTs s≤600→m≤600 →
  ZU (⟨k,f,a,nm,nu,p++s⟩,(m:Int),(p.length:Int))=some ((max m (depTs s):Nat):Int)
 | [],p,m,k,f,a,nm,nu,h1,h2,h3=>by
  rw [ZU]
  simp only [ZZ,if_false,depTs,Nat.max_zero]
 | x::s,p,m,k,f,a,nm,nu,h1,h2,h3=>by
  rw [ZU]
  rw [szTs] at h2
  have e:=tdep_ok x (by omega)
  have hd:=depT_le x
  have e':=tdep_loop s (p++[x]) (max m (depT x)) k f a nm nu (by simpa using h1) (by omega) (by omega)
  rw [← QE] at e'
  have w:W ((p.length:Int)+1)=((p++[x]).length:Int):=mid_W (Sm_of h1)
  have hx:(if (m:Int) < (depT x:Int) then (depT x:Int) else (m:Int))=((max m (depT x):Nat):Int):=by split <;> omega
  simp only [ZE,if_true,Q2,Qj,e,w,hx,e',depTs]
  congr 1; omega
end
mutual
theorem tnum_ok:∀ (t:Qf),szT t≤600→numT t≤1000000000000000000→Y5 t=some (numT t:Int)
 | ⟨k,f,a,nm,nu,ks⟩,h,h2=>by
  rw [Y5]
  rw [szT] at h
  rw [numT] at h2
  have e:=tnum_loop ks [] nu.length k f a nm nu (by have:=szTs_len ks; simp; omega) (by omega) (by omega)
  simp only [List.nil_append,List.length_nil,Int.natCast_zero] at e
  simp only [e,Qj,numT]
theorem tnum_loop:∀ (s p:List Qf) (m:Nat) (k f a:Int) (nm:ByteArray) (nu:List Int),(p++s).length≤600→szTs s≤600→m+numTs s≤1000000000000000000 →
  ZB (⟨k,f,a,nm,nu,p++s⟩,(m:Int),(p.length:Int))=some ((m+numTs s:Nat):Int)
 | [],p,m,k,f,a,nm,nu,h1,h2,h3=>by
  rw [ZB]
  simp only [ZZ,if_false,numTs,Nat.add_zero]
 | x::s,p,m,k,f,a,nm,nu,h1,h2,h3=>by
  rw [ZB]
  rw [szTs] at h2
  rw [numTs] at h3
  have e:=tnum_ok x (by omega) (by omega)
  have e':=tnum_loop s (p++[x]) (m+numT x) k f a nm nu (by simpa using h1) (by omega) (by omega)
  rw [← QE] at e'
  have w:W ((p.length:Int)+1)=((p++[x]).length:Int):=mid_W (Sm_of h1)
  have hx:W ((m:Int)+(numT x:Int))=((m+numT x:Nat):Int):=by rw [W_ok (by omega) (by omega)]; omega
  simp only [ZE,if_true,Q2,Qj,e,w,hx,e',numTs,Nat.add_assoc]
end
def fewT (t:Qf):Prop:=szT t≤60∧depT t≤150∧numT t≤600
theorem tFew_ok (t:Qf) (hb:numT t≤szT t * 140737488351232):∃ b,QbD (t,60)=some b∧(b=true↔fewT t):=by
 unfold QbD
 simp only [tleft_ok t 60 (by omega) (by omega),Qj]
 by_cases h:szT t≤60
 ·have h0:max ((60:Int) - (szT t:Int)) (-1)≥0:=by omega
  have hn:numT t≤1000000000000000000:=Nat.le_trans hb (Nat.le_trans (Nat.mul_le_mul_right _ h) (by decide))
  have w:W (10 * 60)=600:=by decide
  simp only [h0,if_true,tdep_ok t (by omega),tnum_ok t (by omega) hn,Qj,w]
  by_cases hd:(depT t:Int)≤150
  ·rw [decide_eq_true hd]
   simp only [if_true]
   refine ⟨_,rfl,?_⟩
   unfold fewT
   simp only [decide_eq_true_eq]
   omega
  ·rw [decide_eq_false hd]
   simp only [Bool.false_eq_true,if_false]
   exact ⟨_,rfl,fun h=>(by cases h),fun h=>by unfold fewT at h; omega⟩
 ·have h0:¬ max ((60:Int) - (szT t:Int)) (-1)≥0:=by omega
  simp only [h0,if_false,Qj,Bool.false_eq_true]
  exact ⟨_,rfl,fun h=>(by cases h),fun h'=>by unfold fewT at h'; omega⟩
theorem letter_tot (v:Int):∃ b,Jg v=some b:=by
 unfold Jg
 simp only [ite_som,Qj]
 exact ⟨_,rfl⟩
theorem digit_tot (v:Int):∃ b,QaN v=some b:=by
 unfold QaN
 simp only [ite_som,Qj]
 exact ⟨_,rfl⟩
theorem sidx_ok {b:ByteArray} {i:Nat} (h:i < b.size):∃ v,sidx b (i:Int)=some v:=by
 unfold sidx
 rw [if_pos (by omega)]
 have h2:((i:Int)).toNat < b.data.size:=by have:b.data.size=b.size:=rfl; omega
 rw [Array.getElem?_eq_getElem h2]
 exact ⟨_,rfl⟩
theorem end_tot (s:ByteArray) (hs:s.size≤1000000000000000000):∀ m i:Nat,i+m=s.size→∃ r,YT (s,(i:Int))=some r
 | 0,i,h=>by
  rw [YT]
  have:¬ ((i:Int) < (s.size:Int)):=by omega
  simp only [this,if_false,Qj,Bool.false_eq_true]
  exact ⟨_,rfl⟩
 | m+1,i,h=>by
  rw [YT]
  have h1:((i:Int) < (s.size:Int)):=by omega
  obtain ⟨v,e⟩:=sidx_ok (b:=s) (i:=i) (by omega)
  obtain ⟨b,eb⟩:=letter_tot v
  obtain ⟨c,ec⟩:=digit_tot v
  obtain ⟨r,er⟩:=end_tot s hs m (i+1) (by omega)
  have w:W ((i:Int)+1)=((i+1:Nat):Int):=W_succ (by omega)
  simp only [h1,if_true,e,eb,ec,Qj,w,er,ite_som]
  split
  ·exact ⟨_,rfl⟩
  ·exact ⟨_,rfl⟩
theorem name_tot (s:ByteArray) (hs:s.size≤1000000000000000000):∃ b,Qap s=some b:=by
 unfold Qap
 simp only []
 by_cases h:(s.size:Int) > 0
 ·obtain ⟨v,e⟩:=sidx_ok (b:=s) (i:=0) (by omega)
  simp only [Int.natCast_zero] at e
  obtain ⟨b,eb⟩:=letter_tot v
  obtain ⟨r,er⟩:=end_tot s hs s.size 0 (by omega)
  simp only [Int.natCast_zero] at er
  simp only [h,if_true,e,eb,Qj]
  cases b
  ·simp only [Bool.false_eq_true,if_false]; exact ⟨_,rfl⟩
  ·simp only [if_true,Qcp,er,Qj]; exact ⟨_,rfl⟩
 ·simp only [h,if_false,Qj,Bool.false_eq_true]; exact ⟨_,rfl⟩
def noT:Qf:=⟨0,0,0,ByteArray.empty,[],[]⟩
def axF (a:Int):Prop:=0≤a∧a≤15
def formF (t:Qf):Prop :=
 (t.kind=1∧t.fn=0∧t.axis=-1∧t.name=ByteArray.empty∧t.kids.length=0) ∨
 (t.kind=2∧t.fn=0∧t.axis=-1∧Qap t.name=some true∧t.nums.length=0∧t.kids.length=0) ∨
 (t.kind=3∧t.name=ByteArray.empty∧t.nums.length=0∧t.kids.length=1∧((t.fn=3∧(t.axis=-1∨axF t.axis))∨((t.fn=4∨t.fn=6)∧t.axis=-1))) ∨
 (t.kind=4∧t.name=ByteArray.empty∧t.nums.length=0∧t.kids.length=2∧1≤t.fn∧t.fn≤6∧(t.axis=-1∨(axF t.axis∧(t.fn=3∨t.fn=6)))∧(t.fn=6∨(t.kids.getD 0 noT).kind=1∨(t.kids.getD 0 noT).kind=2))
set_option maxHeartbeats 4000000 in
theorem tnode_ok (t:Qf) (hs:t.name.size≤1000000000000000000):∃ b,Qbg t=some b∧(b=true↔formF t):=by
 obtain ⟨k,f,a,nm,nu,ks⟩:=t
 obtain ⟨nb,en⟩:=name_tot nm hs
 unfold Qbg
 simp only [ite_som,Qj]
 by_cases h1:k=1
 ·subst h1
  simp only [if_true,ite_som,Qj]
  refine ⟨_,rfl,?_⟩
  simp only [formF,axF]
  by_cases c1:f=0 <;> by_cases c2:a=-1 <;> by_cases c3:nm=ByteArray.empty <;> simp [c1,c2,c3] <;> omega
 ·by_cases h2:k=2
  ·subst h2
   simp only [if_neg h1,if_true,ite_som,Qj,en]
   refine ⟨_,rfl,?_⟩
   simp only [formF,axF,en]
   cases nb <;> by_cases c1:f=0 <;> by_cases c2:a=-1 <;> by_cases c3:nu=[] <;> simp [c1,c2,c3]
  ·by_cases h3:k=3
   ·subst h3
    simp only [if_neg h1,if_neg h2,if_true,ite_som,Qj]
    refine ⟨_,rfl,?_⟩
    simp only [formF,axF]
    by_cases c1:nm=ByteArray.empty <;> by_cases c2:nu=[] <;> by_cases c3:ks.length=1 <;> by_cases c4:f=3 <;> by_cases c5:a=-1 <;> simp [c1,c2,c3,c4,c5] <;> (try omega)
   ·by_cases h4:k=4
    ·subst h4
     simp only [if_neg h1,if_neg h2,if_neg h3,if_true,ite_som,Qj]
     match ks with
     | [x,y] =>
      have i0:idx [x,y] 0=some x:=rfl
      simp only [i0,ite_som,Qj]
      refine ⟨_,rfl,?_⟩
      simp only [formF,axF]
      by_cases c1:nm=ByteArray.empty <;> by_cases c2:nu=[] <;> by_cases c3:f=6 <;> by_cases c4:f=3 <;> by_cases c5:a=-1 <;> simp [c1,c2,c3,c4,c5] <;> (try omega)
     | [] =>
      simp [formF]
     | [x]=>
      simp [formF]
     | x::y::z::r =>
      simp [formF]
      intro _ _ h
      omega
    ·simp only [if_neg h1,if_neg h2,if_neg h3,if_neg h4]
     exact ⟨_,rfl,fun h=>(by cases h),fun h=>by simp only [formF] at h; omega⟩
mutual
def good:Qf→Prop
 | ⟨k,f,a,nm,nu,ks⟩=>formF ⟨k,f,a,nm,nu,ks⟩∧goods ks
def goods:List Qf→Prop
 | []=>True
 | k::ks=>good k∧goods ks
end
def nmOk (n:Nat):Prop:=n≤1000000000000000000
mutual
def namesOk:Qf→Prop
 | ⟨_,_,_,nm,_,ks⟩=>nmOk nm.size∧namesOks ks
def namesOks:List Qf→Prop
 | []=>True
 | k::ks=>namesOk k∧namesOks ks
end
mutual
theorem tnodes_ok:∀ (t:Qf),szT t≤600→namesOk t→∃ b,XW t=some b∧(b=true↔good t)
 | ⟨k,f,a,nm,nu,ks⟩,h,hn=>by
  rw [szT] at h
  rw [namesOk] at hn
  obtain ⟨b,e,hb⟩:=tnode_ok ⟨k,f,a,nm,nu,ks⟩ hn.1
  have hl:=szTs_len ks
  obtain ⟨r,e2,hr⟩:=tnodes_loop ks [] k f a nm nu (by simp; omega) (by omega) hn.2
  simp only [List.nil_append,List.length_nil,Int.natCast_zero] at e2
  rw [XW]
  simp only [e,Qj,good,← hb,← hr]
  cases b with
  | false=>exact ⟨_,rfl,fun h=>(by cases h),fun h=>(by cases h.1)⟩
  | true =>
   simp only [Bool.true_eq_false,if_false,e2,Qj,true_and]
   cases r with
   | inl u=>exact ⟨_,rfl,fun h=>(by cases h),fun h=>(by cases h)⟩
   | inr u=>exact ⟨_,rfl,fun _=>rfl,fun _=>rfl⟩
theorem tnodes_loop:∀ (s p:List Qf) (k f a:Int) (nm:ByteArray) (nu:List Int),(p++s).length≤600→szTs s≤600→namesOks s →
  ∃ r,ZW (⟨k,f,a,nm,nu,p++s⟩,(p.length:Int))=some r∧(r=.inr ()↔goods s)
 | [],p,k,f,a,nm,nu,h1,h2,h3=>by
  rw [ZW]
  simp only [ZZ,if_false,goods]
  exact ⟨_,rfl,fun _=>trivial,fun _=>rfl⟩
 | x::s,p,k,f,a,nm,nu,h1,h2,h3=>by
  rw [ZW]
  rw [szTs] at h2
  rw [namesOks] at h3
  obtain ⟨b,e,hb⟩:=tnodes_ok x (by omega) h3.1
  obtain ⟨r,e',hr⟩:=tnodes_loop s (p++[x]) k f a nm nu (by simpa using h1) (by omega) h3.2
  rw [← QE] at e'
  have w:W ((p.length:Int)+1)=((p++[x]).length:Int):=mid_W (Sm_of h1)
  simp only [ZE,if_true,Q2,Qj,e,w,goods,← hb,← hr]
  cases b with
  | false=>exact ⟨_,rfl,fun h=>(by cases h),fun h=>(by cases h.1)⟩
  | true=>exact ⟨r,e',fun h=>⟨rfl,h⟩,fun h=>h.2⟩
end
theorem etaT (t:Qf):(⟨t.kind,t.fn,t.axis,t.name,t.nums,t.kids⟩:Qf)=t:=by cases t; rfl
theorem tRight_ok (t:Qf) (h:szT t≤300) (hn:namesOk t):∃ b,QaO t=some b∧(b=true↔depT t≤100∧good t):=by
 obtain ⟨b,e,hb⟩:=tnodes_ok t (by omega) hn
 unfold QaO
 simp only [tdep_ok t (by omega),Qj]
 by_cases hd:(depT t:Int)≤100
 ·simp only [hd,if_true,etaT,e,Qj]
  exact ⟨_,rfl,by rw [hb]; exact ⟨fun h=>⟨by omega,h⟩,fun h=>h.2⟩⟩
 ·simp only [hd,if_false]
  exact ⟨_,rfl,fun h=>(by cases h),fun h=>(by omega)⟩
theorem tSmall_ok (t:Qf) (hb:numT t≤szT t * 140737488351232) (hn:namesOk t):∃ b,QaP (t,60)=some b∧(b=true↔fewT t∧depT t≤100∧good t):=by
 obtain ⟨b,e,h⟩:=tFew_ok t hb
 unfold QaP
 simp only [e,Qj]
 cases b with
 | false=>
  simp only [Bool.false_eq_true,if_false]
  exact ⟨_,rfl,fun h=>(by cases h),fun h'=>h.2 h'.1⟩
 | true =>
  obtain ⟨c,e2,h2⟩:=tRight_ok t (by have:=(h.1 rfl).1; omega) hn
  simp only [if_true,etaT,e2,Qj]
  exact ⟨_,rfl,by rw [h2]; exact ⟨fun h'=>⟨h.1 rfl,h'⟩,fun h'=>h'.2⟩⟩
theorem szT_f (t:Qf):szT t=1+szTs t.kids:=by cases t; rw [szT]
theorem numT_f (t:Qf):numT t=t.nums.length+numTs t.kids:=by cases t; rw [numT]
theorem good_f {t:Qf}:good t↔formF t∧goods t.kids:=by cases t; rw [good]
theorem kids1 {t:Qf} (h:t.kids.length=1):∃ k,t.kids=[k]:=by
 match e:t.kids,h with
 | [k],_=>exact ⟨k,rfl⟩
theorem kids2 {t:Qf} (h:t.kids.length=2):∃ l k,t.kids=[l,k]:=by
 match e:t.kids,h with
 | [l,k],_=>exact ⟨l,k,rfl⟩
theorem goods1 {k:Qf}:goods [k]↔good k:=by rw [goods,goods]; simp
theorem goods2 {l k:Qf}:goods [l,k]↔good l∧good k:=by rw [goods,goods,goods]; simp
theorem sz1 (k:Qf):szTs [k]=szT k∧numTs [k]=numT k∧depTs [k]=depT k:=by simp [szTs,numTs,depTs]
theorem sz2 (l k:Qf):szTs [l,k]=szT l+szT k∧numTs [l,k]=numT l+numT k∧depTs [l,k]=max (depT l) (depT k):=by simp [szTs,numTs,depTs]
theorem nq12:¬ (1:Int)=2:=by decide
theorem nq20:¬ (2:Int)=0:=by decide
theorem nq21:¬ (2:Int)=1:=by decide
theorem nq31:¬ (3:Int)=1:=by decide
theorem nq32:¬ (3:Int)=2:=by decide
theorem nq34:¬ (3:Int)=4:=by decide
theorem nq41:¬ (4:Int)=1:=by decide
theorem nq42:¬ (4:Int)=2:=by decide
theorem nq43:¬ (4:Int)=3:=by decide
theorem nq51:¬ (5:Int)=1:=by decide
theorem nq52:¬ (5:Int)=2:=by decide
theorem nq53:¬ (5:Int)=3:=by decide
theorem nq54:¬ (5:Int)=4:=by decide
theorem nq61:¬ (6:Int)=1:=by decide
theorem nq63:¬ (6:Int)=3:=by decide
theorem nq64:¬ (6:Int)=4:=by decide
theorem nq65:¬ (6:Int)=5:=by decide
theorem app_le2 {α:Type} {b:Nat} {l es:List α} (h:l.length+es.length≤100000000) (hb:b≤1000):app b l es=some (l++es):=app_ok (by
 have:(l.length+es.length) * b≤100000000 * 1000:=Nat.mul_le_mul h hb
 unfold room; omega)
mutual
def bk:Qi→Qh
 | ⟨k,s,b,st,a,am,p,ks⟩=>⟨k,s,b,st,a,am,p,bks ks⟩
def bks:List Qi→List Qh
 | []=>[]
 | k::ks=>bk k::bks ks
end
theorem bk_f (c:Qi):bk c=⟨c.kind,c.shape,c.buffer,c.starts,c.axis,c.amount,c.perm,bks c.kids⟩:=by cases c; rw [bk]
theorem bk_shape (c:Qi):(bk c).shape=c.shape:=by rw [bk_f]
theorem etaC (c:Qi):(⟨c.kind,c.shape,c.buffer,c.starts,c.axis,c.amount,c.perm,c.kids⟩:Qi)=c:=by cases c; rfl
theorem etaR (c:Qh):(⟨c.kind,c.shape,c.buffer,c.starts,c.axis,c.amount,c.perm,c.kids⟩:Qh)=c:=by cases c; rfl
theorem etaK (c:Qi):(⟨(bk c).kind,c.shape,(bk c).buffer,(bk c).starts,(bk c).axis,(bk c).amount,(bk c).perm,(bk c).kids⟩:Qh)=bk c:=by rw [bk_f]
def bkS (s:Ql):Qq:=⟨s.name,s.value⟩
def zeroC:Qh:=⟨0,[],0,[],0,0,[],[]⟩
def reshC (s:List Int) (c:Qi):Qi:=⟨6,s,0,[],0,0,[],[c]⟩
def seenC (c:Qi) (s:List Int):Qi:=if c.shape=s then c else reshC s c
def winC (r:Qn) (c:Qi):Qi:=⟨2,r.shape,0,r.starts,0,0,[],[seenC c r.right]⟩
def turnC (k:Int) (r:Qn) (c:Qi):Qi:=if r.axis=-1 then c else ⟨k,r.shape,0,[],r.axis,r.amount,[],[c]⟩
def transC (r:Qn) (c:Qi):Qi:=⟨5,r.shape,0,[],0,0,r.perm,[c]⟩
theorem reshaped_ok (c:Qi) (s:List Int):Y4 (c,s)=some (reshC s c):=by unfold Y4 reshC; dsimp only; rw [etaC]
theorem seen_okC (c:Qi) (s:List Int) (hs:s.length≤1000):Qab (c,s)=some (seenC c s):=by
 unfold Qab seenC
 simp only [sEqual_ok' c.shape s (Sm_le hs),Qj,reshaped_ok]
 by_cases h:c.shape=s <;> simp [h]
theorem around_ok (x y:Qh):ZR (x,y)=some ⟨x.kind,x.shape,x.buffer,x.starts,x.axis,x.amount,x.perm,[y]⟩:=by unfold ZR; dsimp only; rw [etaR]
theorem rseen_okC (c:Qi) (s:List Int) (hc:c.shape.length≤1000):Zs (bk c,s)=some (bk (seenC c s)):=by
 unfold Zs seenC
 simp only [bk_shape,Equal_ok c.shape s (Sm_le hc),Qj,around_ok]
 by_cases h:c.shape=s
 ·simp only [h,decide_true,if_true]; rw [bk_f c,h]
 ·simp only [h,decide_false,Bool.false_eq_true,if_false]; rw [bk_f (reshC s c)]; rfl
theorem rseen_same (c:Qi) (hc:c.shape.length≤1000):Zs (bk c,c.shape)=some (bk c):=by rw [rseen_okC c c.shape hc,seenC,if_pos rfl]
theorem window_okC (r:Qn) (c:Qi) (hr:r.right.length≤1000):JD (r,c)=some (winC r c):=by
 unfold JD winC
 simp only [seen_okC c r.right hr,Qj,etaC]
theorem turned_ok (k:Int) (r:Qn) (c:Qi):JC (k,r,c)=some (turnC k r c):=by
 unfold JC turnC
 dsimp only
 split
 ·rfl
 ·rw [etaC]
theorem transposed_ok (r:Qn) (c:Qi):YX (r,c)=some (transC r c):=by unfold YX transC; dsimp only; rw [etaC]
def monR (t:Qf) (c:Qi):Qi × Int :=
 if t.fn=3 then (turnC 3 (revR t.axis c.shape).1 c,(revR t.axis c.shape).2) else if t.fn=4 then (transC (flipR c.shape) c,0) else (reshC [cellsR c.shape] c,0)
theorem monad_okC (t:Qf) (c:Qi) (hc:checkR c.shape=0):Qbf (t,c)=some (monR t c):=by
 unfold Qbf monR
 simp only [Reverse_ok t.axis hc,Flip_ok hc,Ravel_ok hc,Qj,turned_ok,transposed_ok,etaC,reshaped_ok]
 split
 ·rfl
 ·split <;> rfl
def meaR (t:Qf) (c:Qi) (v:List Int):Qi × Int :=
 if t.fn=1 then (winC (takeR v c.shape).1 c,(takeR v c.shape).2) else if t.fn=2 then (winC (dropR v c.shape).1 c,(dropR v c.shape).2)
 else if t.fn=3 then (turnC 4 (rotR v t.axis c.shape).1 c,(rotR v t.axis c.shape).2) else if t.fn=4 then (transC (transR v c.shape).1 c,(transR v c.shape).2)
 else (reshC (reshR v c.shape).1.shape c,(reshR v c.shape).2)
theorem okR_len {r:Qn} (h:okR r):r.left.length≤16∧r.right.length≤16∧r.shape.length≤16:=⟨(checkR_zero.1 h.1).2.1,(checkR_zero.1 h.2.1).2.1,(checkR_zero.1 h.2.2).2.1⟩
theorem monR_right {t:Qf} {c:Qi} (hc:checkR c.shape=0):checkR (monR t c).1.shape=0:=by
 unfold monR
 split
 ·unfold turnC
  split
  ·exact hc
  ·exact (okR_rev hc).2.2
 ·split
  ·exact (okR_flip hc).2.2
  ·exact cells_check hc
theorem meaR_right {t:Qf} {c:Qi} {v:List Int} (hc:checkR c.shape=0):checkR (meaR t c v).1.shape=0:=by
 unfold meaR
 split
 ·exact (okR_take hc).2.2
 split
 ·exact (okR_drop hc).2.2
 split
 ·unfold turnC
  split
  ·exact hc
  ·exact (okR_rot hc).2.2
 split
 ·exact (okR_trans hc).2.2
 ·exact (okR_resh hc).2.2
def oneOK (o:Option (Qh × Int)) (r:Qi × Int):Prop:=(r.2=0→o=some (bk r.1,0))∧(r.2≠0→∃ x,o=some (x,r.2))
theorem bk_turn {k:Int} {s:List Int} {ax am:Int} {c:Qi}:bk (⟨k,s,0,[],ax,am,[],[c]⟩:Qi)=⟨k,s,0,[],ax,am,[],[bk c]⟩:=by simp only [bk,bks]
theorem one_tail {c:Qi} {s sh st p:List Int} {k ax am e:Int} {y:Qi} (hc:c.shape.length≤1000)
  (hy:e=0→bk y=⟨k,sh,0,st,ax,am,p,[bk (seenC c s)]⟩) :
  oneOK (if e≠0 then some (zeroC,e) else Zs (bk c,s)>>=fun v=>ZR ((⟨k,sh,0,st,ax,am,p,[]⟩:Qh),v)>>=fun w=>some (w,0)) (y,e):=by
 refine ⟨fun h=>?_,fun h=>⟨zeroC,if_pos h⟩⟩
 simp only at h
 rw [if_neg (fun h2=>h2 h),rseen_okC c s hc,Qj,around_ok,Qj,hy h]
theorem rone3 {l:List QD} {t:Qf} {c:Qi} (h3:t.kind=3) (hf:t.fn=3∨t.fn=4∨t.fn=6) (hax:-1≤t.axis) (hc:checkR c.shape=0):oneOK (YU (l,t,bk c)) (monR t c):=by
 have hl:=(checkR_zero.1 hc).2.1
 have hl':c.shape.length≤1000:=by omega
 unfold YU monR
 rcases hf with hf|hf|hf
 ·have ea:=revR_axis hax (a:=c.shape)
  have hright:(revR t.axis c.shape).2=0→(rr (revR t.axis c.shape).1).right=c.shape:=by
   unfold revR
   split
   ·exact fun _=>rfl
   ·split
    ·exact fun h=>by cases h
    ·exact fun _=>rfl
  simp only [h3,hf,nq34,nq31,show ((3:Int) == 2)=false from rfl,if_true,if_false,Qj,Bool.false_eq_true,bk_shape,rReverse_ok hax hl,etaK]
  generalize revR t.axis c.shape=q at ea hright
  obtain ⟨r,e⟩:=q
  have hra:(rr r).axis=r.axis:=rfl
  simp only [hra] at hright ea ⊢
  by_cases he:e=0
  ·subst he
   have hr:=hright rfl
   simp only [if_true,Qj,turnC]
   by_cases hx:r.axis=-1
   ·simp only [hx,show decide ((-1:Int) < 0)=true from rfl,if_true]
    exact ⟨fun _=>rfl,fun h=>absurd rfl h⟩
   ·have:¬ r.axis < 0:=by omega
    simp only [hx,decide_eq_false this,Bool.false_eq_true,if_false,ne_eq,not_true_eq_false]
    rw [hr,rseen_same c hl',Qj,around_ok,Qj]
    exact ⟨fun _=>by rw [bk_turn]; rfl,fun h=>absurd rfl h⟩
  ·simp only [he,if_false,Qj,Bool.false_eq_true,ne_eq,not_false_eq_true,if_true]
   exact ⟨fun h=>absurd h he,fun _=>⟨_,rfl⟩⟩
 ·simp only [h3,hf,nq34,nq41,nq43,show ((4:Int) == 2)=false from rfl,if_true,if_false,Qj,Bool.false_eq_true,bk_shape,rFlip_ok hc,etaK,ne_eq,not_true_eq_false,around_ok]
  have hr:(rr (flipR c.shape)).right=c.shape:=rfl
  rw [hr,rseen_same c hl',Qj]
  exact ⟨fun _=>by rw [transC]; simp only [bk,bks]; rfl,fun h=>absurd rfl h⟩
 ·simp only [h3,hf,nq34,nq61,nq63,nq64,nq65,show ((6:Int) == 2)=false from rfl,if_true,if_false,Qj,Bool.false_eq_true,bk_shape,rRavel_ok hl',etaK,ne_eq,not_true_eq_false,around_ok]
  have hr:(rr (ravR c.shape)).right=c.shape:=rfl
  rw [hr,rseen_same c hl',Qj]
  exact ⟨fun _=>by rw [reshC]; simp only [bk,bks]; rfl,fun h=>absurd rfl h⟩
theorem seenC_same (c:Qi):seenC c c.shape=c:=if_pos rfl
set_option maxHeartbeats 1000000 in
theorem rone4 {l:List QD} {t a k:Qf} {c:Qi} (h4:t.kind=4) (hk:t.kids=[a,k]) (ha1:a.kind=1) (hv:a.nums.length≤1000) (hf:1≤t.fn∧t.fn≤5) (hax:-1≤t.axis) (hc:checkR c.shape=0):oneOK (YU (l,t,bk c)) (meaR t c a.nums):=by
 have hl:=(checkR_zero.1 hc).2.1
 have hl':c.shape.length≤1000:=by omega
 have e0:idx t.kids 0=some a:=by rw [hk]; rfl
 have eR:Ju (l,a)=some (⟨a.nums,((a.nums.length:Int) == 1)⟩,0):=by unfold Ju; simp only [ha1,if_true]
 unfold YU meaR
 have hf':t.fn=1∨t.fn=2∨t.fn=3∨t.fn=4∨t.fn=5:=by omega
 simp only [h4,if_true,e0,Qj,eR,ne_eq,not_true_eq_false,if_false,bk_shape,etaK]
 rcases hf' with hf|hf|hf|hf|hf
 ·simp only [hf,if_true,show ((1:Int) == 1)=true from rfl,Qj,rTake_ok a.nums c.shape hv hc]
  exact one_tail hl' fun _=>by simp only [winC,bk,bks]; rfl
 ·simp only [hf,nq21,if_false,if_true,show ((2:Int) == 2)=true from rfl,Qj,rDrop_ok a.nums c.shape hv hc]
  exact one_tail hl' fun _=>by simp only [winC,bk,bks]; rfl
 ·have hright:(rotR a.nums t.axis c.shape).2=0→(rr (rotR a.nums t.axis c.shape).1).right=c.shape∧-1≤(rotR a.nums t.axis c.shape).1.axis:=by
   have:=revR_axis hax (a:=c.shape)
   unfold rotR
   split
   ·exact fun h=>by cases h
   ·split
    ·rename_i h; exact fun h2=>absurd h2 h
    ·exact fun _=>⟨rfl,this.1⟩
  simp only [hf,nq31,nq32,nq43,if_false,if_true,show ((3:Int) == 2)=false from rfl,Bool.false_eq_true,Qj,rRotate_ok a.nums hax hc]
  generalize rotR a.nums t.axis c.shape=q at hright
  obtain ⟨r,e⟩:=q
  have hra:(rr r).axis=r.axis:=rfl
  simp only [hra] at hright ⊢
  by_cases he:e=0
  ·subst he
   obtain ⟨hr,ea⟩:=hright rfl
   simp only [if_true,Qj,turnC]
   by_cases hx:r.axis=-1
   ·simp only [hx,show decide ((-1:Int) < 0)=true from rfl,if_true]
    exact ⟨fun _=>rfl,fun h=>absurd rfl h⟩
   ·have:¬ r.axis < 0:=by omega
    simp only [hx,decide_eq_false this,Bool.false_eq_true,if_false,not_true_eq_false]
    rw [hr,rseen_same c hl',Qj,around_ok,Qj]
    exact ⟨fun _=>by rw [bk_turn]; rfl,fun h=>absurd rfl h⟩
  ·simp only [he,if_false,Qj,Bool.false_eq_true,not_false_eq_true,if_true]
   exact ⟨fun h=>absurd h he,fun _=>⟨_,rfl⟩⟩
 ·simp only [hf,nq41,nq42,nq43,if_false,if_true,show ((4:Int) == 2)=false from rfl,Bool.false_eq_true,Qj,rTrans_ok a.nums c.shape hc]
  refine one_tail hl' fun he=>?_
  have hr:(transR a.nums c.shape).1.right=c.shape:=by
   unfold transR at he ⊢
   split
   ·rfl
   ·rename_i h; rw [if_neg h] at he; exact absurd he h
  show bk (transC _ c)=⟨_,_,_,_,_,_,_,[bk (seenC c (transR a.nums c.shape).1.right)]⟩
  rw [hr,seenC_same,transC]; simp only [bk,bks]; rfl
 ·simp only [hf,nq51,nq52,nq53,nq54,if_false,if_true,show ((5:Int) == 2)=false from rfl,Bool.false_eq_true,Qj,rResh_ok a.nums c.shape hv]
  refine one_tail hl' fun he=>?_
  have hr:(reshR a.nums c.shape).1.right=c.shape:=by
   unfold reshR at he ⊢
   split
   ·rfl
   ·rename_i h; rw [if_neg h] at he; exact absurd he h
  show bk (reshC _ c)=⟨_,_,_,_,_,_,_,[bk (seenC c (reshR a.nums c.shape).1.right)]⟩
  rw [hr,seenC_same,reshC]; simp only [bk,bks]; rfl
theorem copied64 (l:List Int) (hl:l.length≤1000):YS l=some l:=by
 unfold YS
 have hcc:cpM (List.replicate l.length (0:Int)) l=l:=by unfold cpM; simp
 have hm:makeM 8 (l.length:Int) (0:Int)=some (List.replicate l.length 0):=by
  have hr:(1000:Nat) * 8≤room:=by decide +kernel
  have:((l.length:Int) * 8≤(room:Int)):=by omega
  simp [makeM,this]; omega
 have hg:l.length=(List.replicate l.length (0:Int)).length:=by simp
 simp only [hm,Qj,hcc]
 rw [Xb,if_pos hg]; rfl
def litA (v:List Int):QM:=⟨if v.length=1 then [] else [(v.length:Int)],v⟩
theorem litA_right {v:List Int} (hv:v.length≤1000):checkR (litA v).shape=0∧cellsR (litA v).shape=(v.length:Int):=by
 have h:checkR (litA v).shape=0:=by
  unfold litA
  split
  ·rfl
  ·refine checkR_zero.2 ⟨fun x hx=>?_,by simp,?_⟩
   ·simp only [List.mem_singleton] at hx; subst hx; omega
   ·show prodI [(v.length:Int)]≤_; simp [prodI]; omega
 refine ⟨h,?_⟩
 rw [cellsR,if_pos h]
 unfold litA
 split
 ·rename_i h1; rw [h1]; rfl
 ·simp [prodI]
theorem litA_check {v:List Int} (hv:v.length≤1000):JB (litA v)=some 0:=by
 obtain ⟨h1,h2⟩:=litA_right hv
 have hs:(litA v).shape.length≤1000:=by unfold litA; split <;> simp
 unfold JB
 simp only [shapeCheck_ok _ (Sm_le hs),shapeCells_ok _ (Sm_le hs),h1,h2,Qj,ne_eq,not_true_eq_false,if_false]
 rw [if_neg (by show ¬ ¬ ((v.length:Int)=_); simp)]
theorem idxf_L1 (sh da:List Int):∀ (s p:List Ql),(p++s).length≤1000→QI (p++s,ByteArray.empty,sh,da,(p.length:Int))=some (.inr ())
 | [],p,h=>by rw [QI]; simp only [ZZ,if_false]
 | x::s,p,h=>by
  have ih:=idxf_L1 sh da s (p++[x]) (by rw [← QE]; exact h)
  rw [← QE] at ih
  rw [QI]
  have e:∀ n a b l,Yn (n,a,b,ByteArray.empty,sh,da,l)=some false:=fun n a b l=>by unfold Yn; simp
  simp only [ZE,if_true,Q2,Qj,e,Bool.false_eq_true,if_false,mid_W (Sm_le h),ih]
theorem read_lit {ss:List Ql} (hs:ss.length≤1000) {v:List Int} (hv:v.length≤1000):Z9 (ByteArray.empty,(litA v).shape,v,ss)=some (ss++[⟨ByteArray.empty,litA v⟩],(litA v).shape,(ss.length:Int)):=by
 have e:=idxf_L1 (litA v).shape v ss [] hs
 simp only [List.nil_append,List.length_nil,Int.natCast_zero] at e
 have hsh:(litA v).shape.length≤1000:=by unfold litA; split <;> simp
 unfold Z9 Zb
 simp only [e,Qj,app_le2 (b:=64) (l:=ss) (es:=[(⟨ByteArray.empty,⟨(litA v).shape,v⟩⟩:Ql)]) (by simp; omega) (by omega),Clone_ok _ hsh]
 rfl
theorem atom_lit {ss:List Ql} (hs:ss.length≤1000) {v:List Int} (hv:v.length≤1000) (fn ax:Int) (nm:ByteArray) (ks:List Qf) :
  ZJ (1,fn,ax,nm,v,ks,ss)=some (ss++[⟨ByteArray.empty,litA v⟩],1,(litA v).shape,(ss.length:Int),0):=by
 unfold ZJ Qbe Qbd
 simp only [if_true,copied64 v hv,Qj]
 have tail:∀ sh da,sh=(litA v).shape→da=v→(JB (⟨sh,da⟩:QM)>>=fun (v6:Int)=>if v6≠0 then some (ss,(0:Int),([]:List Int),(0:Int),v6) else
   Z9 (ByteArray.empty,sh,da,ss)>>=fun x=>some (x.1,(1:Int),x.2.1,x.2.2,(0:Int)))=some (ss++[⟨ByteArray.empty,litA v⟩],1,(litA v).shape,(ss.length:Int),0):=fun sh da h1 h2=>by
  subst h1; subst h2
  have:(⟨(litA da).shape,da⟩:QM)=litA da:=rfl
  rw [this,litA_check hv,Qj,if_neg (by simp),read_lit hs hv,Qj]
 by_cases h1:v.length=1
 ·obtain ⟨x,rfl⟩:=List.length_eq_one_iff.1 h1
  have e1:(([x]:List Int).length:Int)=1:=rfl
  have e2:idx [x] 0=some x:=rfl
  simp only [e1,e2,if_true,Qj]
  exact tail [] [x] rfl rfl
 ·have e1:¬ (v.length:Int)=1:=by omega
  simp only [e1,if_false,Qj]
  exact tail _ _ (by unfold litA; rw [if_neg h1]) rfl
theorem rread_L1 (x:Qq) (hx:x.name=ByteArray.empty):∀ (s p:List Qq) (k:Int),(p++s).length≤1000→Yt (p++s,x,k,(p.length:Int))=some k
 | [],p,k,h=>by rw [Yt]; simp only [ZZ,if_false]
 | y::s,p,k,h=>by
  have ih:=rread_L1 x hx s (p++[y]) k (by rw [← QE]; exact h)
  rw [← QE] at ih
  rw [Yt]
  simp only [ZE,if_true,hx,ne_eq,not_true_eq_false,if_false,Qj,Bool.false_eq_true,mid_W (Sm_le h),ih]
theorem rread_lit {rs:List Qq} (hs:rs.length≤1000) (a:QM):Qav (rs,⟨ByteArray.empty,a⟩)=some (⟨1,a.shape,(rs.length:Int),[],0,0,[],[]⟩,rs++[⟨ByteArray.empty,a⟩]):=by
 have e:=rread_L1 ⟨ByteArray.empty,a⟩ rfl rs [] (rs.length:Int) hs
 simp only [List.nil_append,List.length_nil,Int.natCast_zero] at e
 unfold Qav
 simp only [e,Qj,if_true,app_le2 (b:=64) (l:=[]) (es:=rs) (by simp; omega) (by omega),List.nil_append,app_le2 (b:=64) (l:=rs) (es:=[(⟨ByteArray.empty,a⟩:Qq)]) (by simp; omega) (by omega)]
theorem ratom_lit {l:List QD} {rs:List Qq} (hs:rs.length≤1000) {t:Qf} (h1:t.kind=1) (hn:t.name=ByteArray.empty) (hv:t.nums.length≤1000) :
  Qau (l,rs,t)=some (⟨1,(litA t.nums).shape,(rs.length:Int),[],0,0,[],[]⟩,rs++[⟨ByteArray.empty,litA t.nums⟩],0):=by
 unfold Qau
 have hb:¬ ((t.nums.length:Int) > 65536):=by omega
 simp only [h1,hn,nq12,if_false,hb]
 by_cases h:t.nums.length=1
 ·have h':(t.nums.length:Int)=1:=by omega
  simp only [h',ne_eq,not_true_eq_false,if_false,Qj]
  have e:(⟨[],t.nums⟩:QM)=litA t.nums:=by unfold litA; rw [if_pos h]
  rw [e,rread_lit hs,Qj]
 ·have h':¬ (t.nums.length:Int)=1:=by omega
  simp only [h',ne_eq,not_false_eq_true,if_true,Qj]
  have e:(⟨[(t.nums.length:Int)],t.nums⟩:QM)=litA t.nums:=by unfold litA; rw [if_neg h]
  rw [e,rread_lit hs,Qj]
mutual
def noN:Qf→Prop
 | ⟨k,_,_,_,_,ks⟩=>k≠2∧noNs ks
def noNs:List Qf→Prop
 | []=>True
 | k::ks=>noN k∧noNs ks
end
theorem noN_f (t:Qf):noN t↔t.kind≠2∧noNs t.kids:=by cases t; rw [noN]
def zeroCC:Qi:=⟨0,[],0,[],0,0,[],[]⟩
def simOK (t:Qf) (ss:List Ql):Prop:=∃ (ss':List Ql) (c:Qi) (e:Int),
 QL (t.kind,t.fn,t.axis,t.name,t.nums,t.kids,ss)=some (ss',c.kind,c.shape,c.buffer,c.starts,c.axis,c.amount,c.perm,c.kids,e) ∧
 (e=0→checkR c.shape=0∧ss'.length≤ss.length+szT t∧noN t∧Zi ([],ss.map bkS,t)=some (bk c,ss'.map bkS,0)) ∧
 (e≠0→∃ c' l',Zi ([],ss.map bkS,t)=some (c',l',e))
theorem read_ok (a:Qf) (ha:a.kind=1∨a.kind=2) (hv:a.nums.length≤1000):XN (a.kind,a.fn,a.axis,a.name,a.nums,a.kids)=some (if a.kind=1 then (a.nums,((a.nums.length:Int) == 1),0) else ([],false,2)):=by
 unfold XN
 rcases ha with h|h
 ·simp only [h,if_true,Clone64_ok _ hv,Qj]
 ·simp only [h,nq21,if_false]; rfl
theorem measured_ok {t a k:Qf} {c:Qi} {ss:List Ql} (hk:t.kids=[a,k]) (ha:a.kind=1∨a.kind=2) (hv:a.nums.length≤1000) (hf:1≤t.fn∧t.fn≤5) (hax:-1≤t.axis) (hc:checkR c.shape=0) :
  ZC (t.kind,t.fn,t.axis,t.name,t.nums,t.kids,c.kind,c.shape,c.buffer,c.starts,c.axis,c.amount,c.perm,c.kids,ss) =
   some (if a.kind=1 then ((meaR t c a.nums).1.kind,(meaR t c a.nums).1.shape,(meaR t c a.nums).1.buffer,(meaR t c a.nums).1.starts,(meaR t c a.nums).1.axis,(meaR t c a.nums).1.amount,(meaR t c a.nums).1.perm,(meaR t c a.nums).1.kids,(meaR t c a.nums).2)
    else (0,[],0,[],0,0,[],[],2)):=by
 have hl:=(checkR_zero.1 hc).2.1
 have e0:idx t.kids 0=some a:=by rw [hk]; rfl
 unfold ZC
 simp only [e0,Qj,read_ok a ha hv]
 by_cases h1:a.kind=1
 ·simp only [h1,if_true,ne_eq,not_true_eq_false,if_false,etaC]
  have hf':t.fn=1∨t.fn=2∨t.fn=3∨t.fn=4∨t.fn=5:=by omega
  unfold meaR
  rcases hf' with hf|hf|hf|hf|hf
  ·have hr:=(okR_len (okR_take (l:=a.nums) hc)).2.1
   simp only [hf,if_true,Take_ok a.nums _ c.shape hv hc,Qj,window_okC (takeR a.nums c.shape).1 c (by omega)]
  ·have hr:=(okR_len (okR_drop (l:=a.nums) hc)).2.1
   simp only [hf,nq21,if_false,if_true,Drop_ok a.nums _ c.shape hv hc,Qj,window_okC (dropR a.nums c.shape).1 c (by omega)]
  ·simp only [hf,nq31,nq32,if_false,if_true,Rotate_ok a.nums _ hax hv hc,Qj,turned_ok]
  ·simp only [hf,nq41,nq42,nq43,if_false,if_true,Transpose_ok a.nums _ c.shape hv hl,Qj,transposed_ok]
  ·simp only [hf,nq51,nq52,nq53,nq54,if_false,Reshape_ok a.nums _ c.shape hv (show _≤1000 by omega),Qj,reshaped_ok]
 ·simp only [h1,if_false,ne_eq,nq20,not_false_eq_true,if_true]
theorem catR_dims {t:Qf} (h:formF t):-1≤t.axis:=by
 rcases h with h|h|h|h
 ·omega
 ·omega
 ·obtain ⟨_,_,_,_,h⟩:=h; unfold axF at h; omega
 ·obtain ⟨_,_,_,_,_,_,h,_⟩:=h; unfold axF at h; omega
theorem get_nil (nm:ByteArray):Qa3 (([]:List QD),nm)=some (⟨[],[]⟩,false):=by
 have e:Xu (([]:List QD),nm,0)=some (.inr ()):=by rw [Xu]; rfl
 unfold Qa3
 simp only [e,Qj]
set_option maxHeartbeats 2000000 in
theorem expr_sim:∀ (n:Nat) (t:Qf),szT t≤n→good t→numT t≤1000→∀ ss:List Ql,ss.length+szT t≤900→simOK t ss
 | 0,t,h,_,_,_,_=>by have:=szT_pos t; omega
 | n+1,t,h,hg,hN,ss,hs=>by
  have hg':=good_f.1 hg
  obtain ⟨hF,hK⟩:=hg'
  have hax:=catR_dims hF
  have hsz:=szT_f t
  have hnum:=numT_f t
  have hz:=szT_pos t
  have hrl:(ss.map bkS).length≤1000:=by simp; omega
  rcases hF with hF|hF|hF|hF
  ·-- numbers
   obtain ⟨h1,_,_,h4,h5⟩:=hF
   refine ⟨ss++[⟨ByteArray.empty,litA t.nums⟩],⟨1,(litA t.nums).shape,(ss.length:Int),[],0,0,[],[]⟩,0,?_,fun _=>⟨(litA_right (by omega)).1,by simp; omega,?_,?_⟩,fun h=>absurd rfl h⟩
   ·rw [QL]
    simp only [h5,Int.natCast_zero,if_true,h1,atom_lit (show ss.length≤1000 by omega) (show t.nums.length≤1000 by omega),Qj]
   ·rw [noN_f,h1,List.length_eq_zero_iff.1 h5]; exact ⟨by decide,trivial⟩
   ·rw [Zi]
    simp only [h1,show (1:Int)≤2 from by decide,if_true,ratom_lit hrl h1 h4 (show t.nums.length≤1000 by omega),Qj,List.length_map,List.map_append,List.map_cons,List.map_nil,bk_f,bks]
    rfl
  ·-- a name
   obtain ⟨h1,_,_,_,_,h5⟩:=hF
   refine ⟨ss,zeroCC,2,?_,fun h=>absurd h (by decide),fun _=>⟨zeroC,[],?_⟩⟩
   ·rw [QL]
    have e:ZJ (2,t.fn,t.axis,t.name,t.nums,t.kids,ss)=some (ss,0,[],0,2):=by
     unfold ZJ
     simp only [nq21,if_false]; rfl
    simp only [h5,Int.natCast_zero,if_true,h1,e,Qj]
    rfl
   ·rw [Zi]
    have e:=get_nil t.name
    unfold Qau
    simp only [h1,show (2:Int)≤2 from by decide,if_true,e,Qj]
    rfl
  ·-- one operand
   obtain ⟨h3,_,_,h4,h5⟩:=hF
   obtain ⟨k,hk⟩:=kids1 h4
   have hfn:t.fn=3∨t.fn=4∨t.fn=6:=by omega
   rw [hk] at hK hsz hnum
   have s1:=sz1 k
   have zk:=szT_pos k
   obtain ⟨ss',c,e,e1,r1,r2⟩:=expr_sim n k (by omega) (goods1.1 hK) (by omega) ss (by omega)
   have ik:idx t.kids (W ((t.kids.length:Int) - 1))=some k:=by rw [hk]; rfl
   have hn0:¬ (t.kids.length:Int)=0:=by omega
   have hk2:¬ t.kind≤2:=by omega
   by_cases he:e=0
   ·subst he
    obtain ⟨q1,q2,q3,q4⟩:=r1 rfl
    have ho:=rone3 (l:=[]) h3 hfn hax q1
    have hprog:QL (t.kind,t.fn,t.axis,t.name,t.nums,t.kids,ss)=some (ss',(monR t c).1.kind,(monR t c).1.shape,(monR t c).1.buffer,(monR t c).1.starts,(monR t c).1.axis,(monR t c).1.amount,(monR t c).1.perm,(monR t c).1.kids,(monR t c).2):=by
     rw [QL]
     simp only [hn0,if_false,ik,Qj,e1,ne_eq,not_true_eq_false,etaT,etaC,monad_okC t c q1]
     simp only [h3,if_true]
    have href:Zi ([],ss.map bkS,t)=(YU ([],t,bk c)>>=fun p=>some (p.1,ss'.map bkS,p.2)):=by
     rw [Zi]
     simp only [hk2,if_false,ik,Qj,q4,ne_eq,not_true_eq_false,etaT,etaR,etaK]
     simp only [h3,if_true,Qj]
    refine ⟨ss',(monR t c).1,(monR t c).2,hprog,fun h0=>⟨monR_right q1,by omega,?_,?_⟩,fun h0=>?_⟩
    ·rw [noN_f,hk,h3]; exact ⟨by decide,q3,trivial⟩
    ·rw [href,ho.1 h0,Qj]
    ·obtain ⟨x,hx⟩:=ho.2 h0
     exact ⟨x,ss'.map bkS,by rw [href,hx,Qj]⟩
   ·obtain ⟨c',l',q4⟩:=r2 he
    refine ⟨ss',zeroCC,e,?_,fun h0=>absurd h0 he,fun _=>⟨zeroC,[],?_⟩⟩
    ·rw [QL]
     simp only [hn0,if_false,ik,Qj,e1,ne_eq,he,not_false_eq_true,if_true]
     rfl
    ·rw [Zi]
     simp only [hk2,if_false,ik,Qj,q4,ne_eq,he,not_false_eq_true,if_true]
     rfl
  ·-- two operands
   obtain ⟨h3,_,_,h4,f1,f2,_,f3⟩:=hF
   obtain ⟨a,k,hk⟩:=kids2 h4
   rw [hk] at hK hsz hnum f3
   have f3:t.fn=6∨a.kind=1∨a.kind=2:=f3
   have s2:=sz2 a k
   have zk:=szT_pos k
   have za:=szT_pos a
   have ga:=(goods2.1 hK).1
   have numa:=numT_f a
   obtain ⟨ss',c,e,e1,r1,r2⟩:=expr_sim n k (by omega) (goods2.1 hK).2 (by omega) ss (by omega)
   have ik:idx t.kids (W ((t.kids.length:Int) - 1))=some k:=by rw [hk]; rfl
   have i0:idx t.kids 0=some a:=by rw [hk]; rfl
   have hn0:¬ (t.kids.length:Int)=0:=by omega
   have hk2:¬ t.kind≤2:=by omega
   have h34:¬ t.kind=3:=by omega
   by_cases he:e=0
   case neg =>
    obtain ⟨c',l',q4⟩:=r2 he
    refine ⟨ss',zeroCC,e,?_,fun h0=>absurd h0 he,fun _=>⟨zeroC,[],?_⟩⟩
    ·rw [QL]
     simp only [hn0,if_false,ik,Qj,e1,ne_eq,he,not_false_eq_true,if_true]
     rfl
    ·rw [Zi]
     simp only [hk2,if_false,ik,Qj,q4,ne_eq,he,not_false_eq_true,if_true]
     rfl
   subst he
   obtain ⟨q1,q2,q3,q4⟩:=r1 rfl
   by_cases h6:t.fn=6
   ·obtain ⟨ss2,d,e2,g1,w1,w2⟩:=expr_sim n a (by omega) ga (by omega) ss' (by omega)
    have hrs:Zi ([],ss.map bkS,t)=(Zi ([],ss'.map bkS,a)>>=fun p=>if p.2.2≠0 then some (zeroC,[],p.2.2) else
      Xn (t.axis,p.1.shape,c.shape)>>=fun q=>if q.2≠0 then some (zeroC,[],q.2) else
      Zs (p.1,q.1.left)>>=fun v17=>Zs (bk c,q.1.right)>>=fun v18=>some (⟨7,q.1.shape,0,[],q.1.axis,0,[],[v17,v18]⟩,p.2.1,0)):=by
     rw [Zi]
     simp only [hk2,if_false,ik,Qj,q4,ne_eq,not_true_eq_false,h34,h6,etaR,i0,bk_shape,etaK]
     rfl
    have hps:QL (t.kind,t.fn,t.axis,t.name,t.nums,t.kids,ss)=(Zk (t.kind,t.fn,t.axis,t.name,t.nums,t.kids,c.kind,c.shape,c.buffer,c.starts,c.axis,c.amount,c.perm,c.kids,ss')>>=fun ((v19,v20,v21,v22,v23,v24):((List Ql) × Int × (List Int) × Int × (List Qi) × Int)) =>
      some (v19,v20,v21,(0:Int),([]:List Int),v22,(0:Int),([]:List Int),v23,v24)):=by
     rw [QL]
     simp only [hn0,if_false,ik,Qj,e1,ne_eq,not_true_eq_false,h34,Xs]
     simp only [h6,if_true]
    rw [Zk] at hps
    simp only [i0,Qj,g1] at hps
    by_cases he2:e2=0
    case neg =>
     obtain ⟨c',l',u4⟩:=w2 he2
     refine ⟨ss2,zeroCC,e2,?_,fun h0=>absurd h0 he2,fun _=>⟨zeroC,[],?_⟩⟩
     ·rw [hps]; simp only [ne_eq,he2,not_false_eq_true,if_true,Qj]; rfl
     ·rw [hrs,u4,Qj]; simp only [ne_eq,he2,not_false_eq_true,if_true]
    subst he2
    obtain ⟨u1,u2,u3,u4⟩:=w1 rfl
    obtain ⟨dd,ld,_⟩:=checkR_zero.1 u1
    obtain ⟨dc,lc,_⟩:=checkR_zero.1 q1
    have hok:=okR_cat hax u1 q1
    obtain ⟨l1,l2,l3⟩:=okR_len hok
    simp only [ne_eq,not_true_eq_false,if_false,Cat_ok hax ld lc dd dc,Qj,etaC,seen_okC d (catR t.axis d.shape c.shape).1.left (by omega),seen_okC c _ (show (catR t.axis d.shape c.shape).1.right.length≤1000 by omega)] at hps
    rw [u4,Qj] at hrs
    simp only [ne_eq,not_true_eq_false,if_false,bk_shape,rCat_ok hax ld lc dd dc,Qj] at hrs
    refine ⟨ss2,⟨7,(catR t.axis d.shape c.shape).1.shape,0,[],(catR t.axis d.shape c.shape).1.axis,0,[],[seenC d (catR t.axis d.shape c.shape).1.left,seenC c (catR t.axis d.shape c.shape).1.right]⟩,(catR t.axis d.shape c.shape).2,hps,fun h0=>⟨hok.2.2,by omega,?_,?_⟩,fun h0=>⟨zeroC,[],?_⟩⟩
    ·rw [noN_f,hk,h3]; exact ⟨by decide,u3,q3,trivial⟩
    ·rw [hrs,if_neg (fun h=>h h0)]
     show (Zs (bk d,(catR t.axis d.shape c.shape).1.left)>>=fun v17=>Zs (bk c,(catR t.axis d.shape c.shape).1.right)>>=fun v18=>_)=_
     rw [rseen_okC d _ (by omega),Qj,rseen_okC c _ (by omega),Qj]
     simp only [bk,bks]; rfl
    ·rw [hrs,if_pos h0]
   ·have ha:a.kind=1∨a.kind=2:=f3.resolve_left h6
    have hm:=measured_ok (ss:=ss') hk ha (show a.nums.length≤1000 by omega) ⟨f1,by omega⟩ hax q1
    have hprog:QL (t.kind,t.fn,t.axis,t.name,t.nums,t.kids,ss)=(ZC (t.kind,t.fn,t.axis,t.name,t.nums,t.kids,c.kind,c.shape,c.buffer,c.starts,c.axis,c.amount,c.perm,c.kids,ss')>>=fun ((v25,v26,v27,v28,v29,v30,v31,v32,v33):(Int × (List Int) × Int × (List Int) × Int × Int × (List Int) × (List Qi) × Int))=>some (ss',v25,v26,v27,v28,v29,v30,v31,v32,v33)):=by
     rw [QL]
     simp only [hn0,if_false,ik,Qj,e1,ne_eq,not_true_eq_false,h34,Xs]
     simp only [h6,if_false]
    have href:Zi ([],ss.map bkS,t)=(YU ([],t,bk c)>>=fun p=>some (p.1,ss'.map bkS,p.2)):=by
     rw [Zi]
     have hb:(t.fn != 6)=true:=by simp [h6]
     simp only [hk2,if_false,ik,Qj,q4,ne_eq,not_true_eq_false,etaT,etaR,etaK,h34,hb,if_true]
    rw [hm,Qj] at hprog
    by_cases ha1:a.kind=1
    ·rw [if_pos ha1] at hprog
     have ho:=rone4 (l:=[]) h3 hk ha1 (show a.nums.length≤1000 by omega) ⟨f1,by omega⟩ hax q1
     refine ⟨ss',(meaR t c a.nums).1,(meaR t c a.nums).2,hprog,fun h0=>⟨meaR_right q1,by omega,?_,?_⟩,fun h0=>?_⟩
     ·have gk:=(good_f.1 ga).1
      have hak:a.kids=[]:=by
       rcases gk with g|g|g|g
       ·exact List.length_eq_zero_iff.1 g.2.2.2.2
       ·omega
       ·omega
       ·omega
      rw [noN_f,hk,h3]; exact ⟨by decide,by rw [noN_f,hak,ha1]; exact ⟨by decide,trivial⟩,q3,trivial⟩
     ·rw [href,ho.1 h0,Qj]
     ·obtain ⟨x,hx⟩:=ho.2 h0
      exact ⟨x,ss'.map bkS,by rw [href,hx,Qj]⟩
    ·rw [if_neg ha1] at hprog
     have ha2:a.kind=2:=ha.resolve_left ha1
     refine ⟨ss',zeroCC,2,hprog,fun h0=>absurd h0 (by decide),fun _=>⟨zeroC,ss'.map bkS,?_⟩⟩
     have eG:=get_nil a.name
     have eR:Ju ([],a)=some (⟨[],false⟩,2):=by unfold Ju; simp only [ha2,nq21,if_false,eG,Qj,if_true]
     have eO:YU ([],t,bk c)=some (zeroC,2):=by
      unfold YU
      simp only [h3,if_true,i0,Qj,eR,ne_eq,nq20,not_false_eq_true]
      rfl
     rw [href,eO,Qj]
theorem noNs_mem:∀ {l:List Qf},noNs l→∀ x∈l,noN x
 | [],_,x,hx=>by cases hx
 | y::l,h,x,hx=>by
  rw [noNs] at h
  rcases List.mem_cons.1 hx with rfl|hx
  ·exact h.1
  ·exact noNs_mem h.2 x hx
theorem steps_ok:∀ (n:Nat) (t:Qf),szT t≤n→n≤600→∃ l,XV t=some l∧l.length=szT t∧(noN t→∀ x∈l,x.kind≠2)
 | 0,t,h,_=>by have:=szT_pos t; omega
 | n+1,t,h,hn=>by
  have hsz:=szT_f t
  have hlen:=szTs_len t.kids
  have loop:∀ (m:Nat) (acc:List Qf),m≤t.kids.length→acc.length+szTs (t.kids.take m)≤600→(noN t→∀ x∈acc,x.kind≠2) →
    ∃ out,ZV (t,acc,(m:Int) - 1)=some out∧out.length=acc.length+szTs (t.kids.take m)∧(noN t→∀ x∈out,x.kind≠2):=by
   intro m
   induction m with
   | zero =>
    intro acc _ _ hacc
    rw [ZV]
    have:¬ (((0:Nat):Int) - 1≥0):=by omega
    simp only [this,if_false]
    exact ⟨acc,rfl,by simp [szTs],hacc⟩
   | succ m ih =>
    intro acc hm ha hacc
    have hml:m < t.kids.length:=hm
    have htk:t.kids.take (m+1)=t.kids.take m++[t.kids[m]]:=List.take_succ_eq_append_getElem hml
    have hs1:szTs (t.kids.take (m+1))=szTs (t.kids.take m)+szT t.kids[m]:=by rw [htk,szTs_app]; simp [szTs]
    have hall:szTs (t.kids.take (m+1))≤szTs t.kids:=by
     have:=szTs_app (t.kids.take (m+1)) (t.kids.drop (m+1))
     rw [List.take_append_drop] at this; omega
    obtain ⟨l,e,hl,hk⟩:=steps_ok n t.kids[m] (by omega) (by omega)
    have h1:(((m+1:Nat):Int) - 1≥0):=by omega
    have h2:((m+1:Nat):Int) - 1=(m:Int):=by omega
    obtain ⟨out,eo,lo,ko⟩:=ih (acc++l) (by omega) (by simp; omega) (fun hN x hx=>by
     rcases List.mem_append.1 hx with hx|hx
     ·exact hacc hN x hx
     ·exact hk (noNs_mem ((noN_f t).1 hN).2 _ (List.getElem_mem hml)) x hx)
    rw [ZV]
    simp only [h1,if_true]
    rw [h2,W_ok (n:=(m:Int) - 1) (by omega) (by omega)]
    simp only [idx_ok hml,Qj,e,app_le2 (b:=88) (l:=acc) (es:=l) (by omega) (by omega),eo]
    exact ⟨out,rfl,by rw [lo,List.length_append]; omega,ko⟩
  obtain ⟨out,eo,lo,ko⟩:=loop t.kids.length [] (Nat.le_refl _) (by rw [List.take_length]; simp; omega) (fun _ x hx=>by cases hx)
  rw [List.take_length] at lo
  rw [XV]
  have w:W ((t.kids.length:Int) - 1)=(t.kids.length:Int) - 1:=W_ok (by omega) (by omega)
  simp only [w,eo,Qj,app_le2 (b:=88) (l:=out) (es:=[t]) (by simp; simp at lo; omega) (by omega)]
  refine ⟨_,rfl,by simp at lo ⊢; omega,fun hN x hx=>?_⟩
  rcases List.mem_append.1 hx with hx|hx
  ·exact ko hN x hx
  ·rw [List.mem_singleton.1 hx]; exact ((noN_f t).1 hN).1
theorem names_L1 (t:Qf):∀ (s p:List Qf),(p++s).length≤1000→(∀ x∈s,x.kind≠2)→Zw (p++s,t,[],(p.length:Int))=some []
 | [],p,h,_=>by rw [Zw]; simp only [ZZ,if_false]
 | x::s,p,h,hk=>by
  have ih:=names_L1 t s (p++[x]) (by rw [← QE]; exact h) (fun y hy=>hk y (List.mem_cons_of_mem _ hy))
  rw [← QE] at ih
  rw [Zw]
  simp only [ZE,if_true,Q2,Qj,hk x (List.mem_cons_self ..),if_false,Bool.false_eq_true,mid_W (Sm_le h),ih]
theorem names_none {t:Qf} (h:szT t≤600) (hN:noN t):XU t=some []:=by
 obtain ⟨l,e,hl,hk⟩:=steps_ok 600 t h (by omega)
 have:=names_L1 t l [] (by simp; omega) (hk hN)
 simp only [List.nil_append,List.length_nil,Int.natCast_zero] at this
 unfold XU
 simp only [e,Qj,this]
theorem in_L1 (nm:ByteArray):∀ (s p:List ByteArray),(p++s).length≤1000→∃ r,Xj (p++s,nm,(p.length:Int))=some r
 | [],p,h=>by rw [Xj]; simp only [ZZ,if_false]; exact ⟨_,rfl⟩
 | x::s,p,h=>by
  obtain ⟨r,ih⟩:=in_L1 nm s (p++[x]) (by rw [← QE]; exact h)
  rw [← QE] at ih
  rw [Xj]
  simp only [ZE,if_true,Q2,Qj,mid_W (Sm_le h),ih]
  split <;> exact ⟨_,rfl⟩
theorem in_tot (nm:ByteArray) (l:List ByteArray) (h:l.length≤1000):∃ b,Qb6 (nm,l)=some b:=by
 obtain ⟨r,e⟩:=in_L1 nm l [] h
 simp only [List.nil_append,List.length_nil,Int.natCast_zero] at e
 unfold Qb6
 simp only [e,Qj]
 cases r <;> exact ⟨_,rfl⟩
theorem names_L1t (t:Qf):∀ (s p:List Qf) (acc:List ByteArray),(p++s).length≤1000→acc.length≤p.length→∃ out,Zw (p++s,t,acc,(p.length:Int))=some out
 | [],p,acc,h,_=>by rw [Zw]; simp only [ZZ,if_false]; exact ⟨_,rfl⟩
 | x::s,p,acc,h,ha=>by
  have ih:=fun acc' (h':acc'.length≤p.length+1)=>names_L1t t s (p++[x]) acc' (by rw [← QE]; exact h) (by simpa using h')
  simp only [← QE] at ih
  have hp:p.length≤1000:=by simp at h; omega
  obtain ⟨b,eb⟩:=in_tot x.name acc (by omega)
  obtain ⟨o1,e1⟩:=ih acc (by omega)
  obtain ⟨o2,e2⟩:=ih (acc++[x.name]) (by simp; omega)
  rw [Zw]
  simp only [ZE,if_true,Q2,Qj,mid_W (Sm_le h),eb,e1,app_le2 (b:=16) (l:=acc) (es:=[x.name]) (by simp; omega) (by omega),e2]
  by_cases hk:x.kind=2
  ·simp only [hk,if_true,Qj]
   cases b
   ·simp only [Bool.not_false,if_true]; exact ⟨_,rfl⟩
   ·simp only [Bool.not_true,Bool.false_eq_true,if_false]; exact ⟨_,rfl⟩
  ·simp only [hk,if_false,Qj,Bool.false_eq_true]; exact ⟨_,rfl⟩
theorem names_tot {t:Qf} (h:szT t≤60):∃ l,XU t=some l:=by
 obtain ⟨l,e,hl,_⟩:=steps_ok 600 t (by omega) (by omega)
 obtain ⟨o,eo⟩:=names_L1t t l [] [] (by simp; omega) (by simp)
 simp only [List.nil_append,List.length_nil,Int.natCast_zero] at eo
 unfold XU
 simp only [e,Qj,eo]
 exact ⟨_,rfl⟩
theorem ElabUnbound_ok (t:Qf) (hb:numT t≤szT t * 140737488351232) (hn:namesOk t):Y8 t=some true:=by
 obtain ⟨b,eb,hb'⟩:=tSmall_ok t hb hn
 unfold Y8
 simp only [Qbv,Qj,Bool.true_eq_false,if_false,etaT,eb]
 cases b with
 | false=>simp
 | true =>
  obtain ⟨⟨f1,f2,f3⟩,_,hg⟩:=hb'.1 rfl
  simp only [Bool.not_true,Bool.false_eq_true,if_false]
  obtain ⟨ss',c,e,e1,r1,r2⟩:=expr_sim 60 t f1 hg (by omega) [] (by simp; omega)
  unfold JU QbW
  simp only [e1,Qj,etaT]
  by_cases he:e=0
  ·subst he
   obtain ⟨_,_,q3,q4⟩:=r1 rfl
   simp only [List.map_nil] at q4
   simp only [q4,Qj,ne_eq,not_true_eq_false,if_false,if_true,names_none (show szT t≤600 by omega) q3]
   rfl
  ·obtain ⟨c',l',q4⟩:=r2 he
   simp only [List.map_nil] at q4
   obtain ⟨nl,en⟩:=names_tot f1
   simp only [q4,Qj,ne_eq,he,not_false_eq_true,if_true,en]
   by_cases h0:(nl.length:Int)=0
   ·simp only [h0,if_true]
   ·simp only [h0,if_false]; simp [he]
set_option maxHeartbeats 2000000
theorem ua3:prog.underlying 3=some (TypeDesc.int IntKind.i64):=by kernel_rfl
theorem ua9:prog.underlying 9=some TypeDesc.string:=by kernel_rfl
theorem ua2:prog.underlying 2=some (TypeDesc.int IntKind.i64):=by kernel_rfl
theorem ua22:prog.underlying 22=some (TypeDesc.slice 2):=by kernel_rfl
theorem ua25 : prog.underlying 25 = some (TypeDesc.struct { toList := [{ name := "Kind", type := 3, offset := 0, embedded := false, tag := "", pkgPath := "", byteOffset := 0 }, { name := "Fn", type := 3, offset := 1, embedded := false, tag := "", pkgPath := "", byteOffset := 8 }, { name := "Axis", type := 3, offset := 2, embedded := false, tag := "", pkgPath := "", byteOffset := 16 }, { name := "Name", type := 9, offset := 3, embedded := false, tag := "", pkgPath := "", byteOffset := 24 }, { name := "Nums", type := 22, offset := 4, embedded := false, tag := "", pkgPath := "", byteOffset := 40 }, { name := "Kids", type := 23, offset := 5, embedded := false, tag := "", pkgPath := "", byteOffset := 64 }] }) := by kernel_rfl
theorem ua23:prog.underlying 23=some (TypeDesc.slice 25):=by kernel_rfl
theorem ua4:prog.underlying 4=some TypeDesc.bool:=by kernel_rfl
theorem exists_map {α β:Type} {f:β→α} {p:β→Prop}:∀ {L:List α},(∀ x∈L,∃ y,x=f y∧p y)→∃ l:List β,L=l.map f∧∀ y∈l,p y
 | [],_=>⟨[],rfl,fun y h=>by cases h⟩
 | x::L,h=>by
  obtain ⟨y,rfl,hy⟩:=h x (List.mem_cons_self ..)
  obtain ⟨l,rfl,hl⟩:=exists_map (fun x hx=>h x (List.mem_cons_of_mem _ hx))
  exact ⟨y::l,rfl,fun z hz=>by
   rcases List.mem_cons.1 hz with rfl|hz
   ·exact hy
   ·exact hl z hz⟩
variable {B:Nat} {n:Nat} {cs:List Dat}
theorem tc3 (h:TyC prog B n 3 cs):∃ m:Int,cs=[(Qa m)]∧((-9223372036854775808)≤m∧m≤9223372036854775807):=by
 cases n with
 | zero=>exact h.elim
 | succ n =>
  simp only [TyC,ua3] at h
  obtain ⟨m,rfl,hm⟩:=h
  refine ⟨m,rfl,?_⟩
  simpa [Lit.wf,IntKind.min,IntKind.max,IntKind.signed,IntKind.bits] using hm
theorem tc9 (h:TyC prog B n 9 cs):∃ m:ByteArray,cs=[strD m]∧m.size≤B:=by
 cases n with
 | zero=>exact h.elim
 | succ n =>
  simp only [TyC,ua9] at h
  obtain ⟨m,rfl,hm⟩:=h
  exact ⟨m,rfl,hm⟩
theorem tc2 (h:TyC prog B n 2 cs):∃ m:Int,cs=[(Qa m)]∧((-9223372036854775808)≤m∧m≤9223372036854775807):=by
 cases n with
 | zero=>exact h.elim
 | succ n =>
  simp only [TyC,ua2] at h
  obtain ⟨m,rfl,hm⟩:=h
  refine ⟨m,rfl,?_⟩
  simpa [Lit.wf,IntKind.min,IntKind.max,IntKind.signed,IntKind.bits] using hm
def ok22 (B:Nat) (x:(List Int)):Prop:=x.length≤B∧∀ m∈x,((-9223372036854775808)≤m∧m≤9223372036854775807)
theorem tc22 (h:TyC prog B n 22 cs):∃ l:(List Int),cs=[.lst ((List.map Qa) l)]∧ok22 B l:=by
 cases n with
 | zero=>exact h.elim
 | succ n =>
  simp only [TyC,ua22] at h
  obtain ⟨L,rfl,hl,hx⟩:=h
  obtain ⟨l,rfl,hm⟩:=exists_map (f:=fun m=>[(Qa m)]) (p:=fun m=>((-9223372036854775808)≤m∧m≤9223372036854775807)) (fun x hx'=>tc2 (hx x hx'))
  refine ⟨l,?_,by simpa using hl,hm⟩
  have e:(l.map (fun m=>[(Qa m)])).map (elemD prog 2)=l.map Qa:=by
   rw [List.map_map]; exact List.map_congr_left (fun m _=>by simp only [Function.comp_apply]; simp [elemD,aggB,ua2])
  rw [e]
mutual
def ok25 (B:Nat):Qf→Prop
 | ⟨kind,fn,axis,name,nums,kids⟩=>(((-9223372036854775808)≤kind∧kind≤9223372036854775807))∧(((-9223372036854775808)≤fn∧fn≤9223372036854775807))∧(((-9223372036854775808)≤axis∧axis≤9223372036854775807))∧((name.size≤B))∧((ok22 B nums))∧(kids.length≤B∧okl25 B kids)
def okl25 (B:Nat):List Qf→Prop
 | []=>True
 | k::ks=>ok25 B k∧okl25 B ks
end
theorem okl25_of:∀ {l:List Qf},(∀ y∈l,ok25 B y)→okl25 B l
 | [],_=>by rw [okl25]; trivial
 | y::l,h=>by rw [okl25]; exact ⟨h y (List.mem_cons_self ..),okl25_of fun z hz=>h z (List.mem_cons_of_mem _ hz)⟩
theorem ts25 (ih:∀ cs,TyC prog B n 23 cs→∃ l:List Qf,cs=[.lst (Qf.toDs l)]∧l.length≤B∧okl25 B l) (h:TyC prog B (n+1) 25 cs):∃ x:Qf,cs=[(Qa x.kind),(Qa x.fn),(Qa x.axis),(strD x.name),(.lst ((List.map Qa) x.nums)),(.lst (Qf.toDs x.kids))]∧ok25 B x:=by
 simp only [TyC,ua25,List.foldr] at h
 obtain ⟨_,_,rfl,h0,_,_,rfl,h1,_,_,rfl,h2,_,_,rfl,h3,_,_,rfl,h4,_,_,rfl,h5,rfl⟩:=h
 obtain ⟨m0,rfl,i0⟩:=tc3 h0
 obtain ⟨m1,rfl,i1⟩:=tc3 h1
 obtain ⟨m2,rfl,i2⟩:=tc3 h2
 obtain ⟨m3,rfl,i3⟩:=tc9 h3
 obtain ⟨m4,rfl,i4⟩:=tc22 h4
 obtain ⟨m5,rfl,i5⟩:=ih _ h5
 exact ⟨⟨m0,m1,m2,m3,m4,m5⟩,rfl,by rw [ok25]; exact ⟨i0,i1,i2,i3,i4,i5⟩⟩
theorem tl25 (ih:∀ cs,TyC prog B n 25 cs→∃ x:Qf,cs=[(Qa x.kind),(Qa x.fn),(Qa x.axis),(strD x.name),(.lst ((List.map Qa) x.nums)),(.lst (Qf.toDs x.kids))]∧ok25 B x) (h:TyC prog B (n+1) 23 cs):∃ l:List Qf,cs=[.lst (Qf.toDs l)]∧l.length≤B∧okl25 B l:=by
 simp only [TyC,ua23] at h
 obtain ⟨L,rfl,hl,hx⟩:=h
 obtain ⟨l,rfl,hm⟩:=exists_map (f:=fun (x:Qf)=>[(Qa x.kind),(Qa x.fn),(Qa x.axis),(strD x.name),(.lst ((List.map Qa) x.nums)),(.lst (Qf.toDs x.kids))]) (p:=fun x=>ok25 B x) (fun c hc=>ih c (hx c hc))
 refine ⟨l,?_,by simpa using hl,okl25_of hm⟩
 have e:(l.map (fun (x:Qf)=>[(Qa x.kind),(Qa x.fn),(Qa x.axis),(strD x.name),(.lst ((List.map Qa) x.nums)),(.lst (Qf.toDs x.kids))])).map (elemD prog 25)=Qf.toDs l:=by
  rw [Qf.toDs_eq,List.map_map]; exact List.map_congr_left (fun m _=>by rw [Qf.toD_eq]; simp only [Function.comp_apply]; simp [elemD,aggB,ua25]; rfl)
 rw [e]
theorem tr25:∀ n,(∀ cs,TyC prog B n 25 cs→∃ x:Qf,cs=[(Qa x.kind),(Qa x.fn),(Qa x.axis),(strD x.name),(.lst ((List.map Qa) x.nums)),(.lst (Qf.toDs x.kids))]∧ok25 B x)∧(∀ cs,TyC prog B n 23 cs→∃ l:List Qf,cs=[.lst (Qf.toDs l)]∧l.length≤B∧okl25 B l)
 | 0=>⟨fun _ h=>h.elim,fun _ h=>h.elim⟩
 | n+1=>⟨fun _ h=>ts25 (tr25 n).2 h,fun _ h=>tl25 (tr25 n).1 h⟩
theorem tc25 (h:TyC prog B n 25 cs):∃ x:Qf,cs=[(Qa x.kind),(Qa x.fn),(Qa x.axis),(strD x.name),(.lst ((List.map Qa) x.nums)),(.lst (Qf.toDs x.kids))]∧ok25 B x:=(tr25 n).1 cs h
theorem ty25 {d:Dat} (h:TyA prog B 25 d):∃ m:Qf,d=(Qf.ex m)∧(ok25 B m):=by
 obtain ⟨n,cs,h,hd⟩:=h
 obtain ⟨m,rfl,hm⟩:=tc25 h
 exact ⟨m,by rw [hd]; simp [elemD,aggB,ua25]; rfl,hm⟩
def argTs:List TypeId:=[3,9,2,22,25,23,4]
theorem argTs_closed:closedTs prog argTs=true:=by kernel_rfl
theorem laidOut:laidOutB prog=true:=by kernel_rfl
theorem summ:SummOK prog env:=fun f s h=>by cases h
theorem mixed:prog.follows .mixedOrders=true:=by kernel_rfl
theorem pure_of {f:FuncId} {dss:List Dat} {p:PV} (ho:p.out=true) (h:PC prog env f (dss.map .dat) [] p []):PureCall prog f dss p:=by
 obtain ⟨N,hN⟩:=h
 exact pure_sound summ mixed (hN N (Nat.le_refl _)) ho
mutual
theorem numT_le (B:Nat):∀ t:Qf,ok25 B t→numT t≤szT t * B
 | ⟨_,_,_,_,nums,kids⟩,h=>by
  rw [ok25] at h
  have:=numTs_le B kids h.2.2.2.2.2.2
  have:=h.2.2.2.2.1.1
  rw [numT,szT,Nat.add_mul,Nat.one_mul]; omega
theorem numTs_le (B:Nat):∀ l:List Qf,okl25 B l→numTs l≤szTs l * B
 | [],_=>Nat.zero_le _
 | k::ks,h=>by
  rw [okl25] at h
  have:=numT_le B k h.1
  have:=numTs_le B ks h.2
  rw [numTs,szTs,Nat.add_mul]; omega
end
mutual
theorem namesOk_of:∀ t:Qf,ok25 140737488351232 t→namesOk t
 | ⟨_,_,_,nm,_,ks⟩,h=>by
  rw [ok25] at h
  rw [namesOk]
  exact ⟨by have:=h.2.2.2.1; unfold nmOk; omega,namesOks_of ks h.2.2.2.2.2.2⟩
theorem namesOks_of:∀ l:List Qf,okl25 140737488351232 l→namesOks l
 | [],_=>by rw [namesOks]; trivial
 | k::ks,h=>by
  rw [okl25] at h
  rw [namesOks]
  exact ⟨namesOk_of k h.1,namesOks_of ks h.2⟩
end
theorem ElabUnbound_of (t:Qf) (h:ok25 140737488351232 t):Y8 t=some true:=ElabUnbound_ok t (numT_le _ t h) (namesOk_of t h)
end Go.Proofs.Tryz
