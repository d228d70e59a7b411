/-
 Models of functions, their walks, and plain laws.
-/
import Derived.Laws.RangeString
import Derived.Test.YtlddncgoekmflaaGreatKElabTextsB
namespace Go.Proofs.Tryz
open Go Go.Pm
set_option linter.unusedVariables false
set_option linter.unusedSimpArgs false
set_option maxRecDepth 2000
theorem guardT {h:Decidable True}:@Xc True h=some ():=if_pos trivial
theorem Clone64_ok (l:List Int) (hl:l.length≤1000):Yh l=some l:=by
 rw [Yh,app_ok (by simp [room]; omega)]; rfl
theorem room_ok (n:Nat) (h:n≤1000):Xc (0≤(n:Int)∧(n:Int) * (8:Int)≤(room:Int)∧(n:Int)≤9223372036854775807)=some ():=if_pos ⟨by omega,by simp [room]; omega,by omega⟩
def setOf (l:List Int):List Int:=l.foldl insK []
theorem setOf_snoc (l:List Int) (x:Int):setOf (l++[x])=insK (setOf l) x:=by simp [setOf]
theorem mem_insK {l:List Int} {x y:Int}:y∈insK l x↔y∈l∨y=x:=by
 unfold insK
 split
 ·rename_i h
  constructor
  ·exact .inl
  ·rintro (h'|rfl)
   ·exact h'
   ·exact h
 ·simp
theorem insK_nodup {l:List Int} {x:Int} (h:l.Nodup):(insK l x).Nodup:=by
 unfold insK
 split
 ·exact h
 ·rename_i hx
  rw [List.nodup_append]
  exact ⟨h,by simp,fun a ha b hb=>by rw [List.mem_singleton] at hb; subst hb; exact fun e=>hx (e ▸ ha)⟩
theorem snocInd {α:Type} {P:List α→Prop} (h0:P []) (h1:∀ l x,P l→P (l++[x])) (l:List α):P l:=by
 have:∀ m:List α,P m.reverse:=fun m=>by
  induction m with
  | nil=>exact h0
  | cons x m ih=>rw [List.reverse_cons]; exact h1 _ _ ih
 have:=this l.reverse
 rwa [List.reverse_reverse] at this
theorem mem_setOf (l:List Int):∀ y,y∈setOf l↔y∈l:=by
 induction l using snocInd with
 | h0=>intro y; simp [setOf]
 | h1 l x ih=>intro y; rw [setOf_snoc,mem_insK,ih]; simp
theorem setOf_nodup (l:List Int):(setOf l).Nodup:=by
 induction l using snocInd with
 | h0=>simp [setOf]
 | h1 l x ih=>rw [setOf_snoc]; exact insK_nodup ih
def inR (n:Nat) (v:Int):Bool:=decide (0≤v) && decide (v < (n:Int))
theorem conv_L1 (q1:List Int) (q2:Bool) (n:Nat):∀ (s p:List Int),(p++s).length≤1000→∃ o,QN (p++s,q1,q2,(n:Int),setOf p,p,(p.length:Int))=some o ∧
  (s.all (inR n)=true→o=.inr (setOf (p++s),p++s))∧(s.all (inR n)=false→∃ a m,o=.inl (a,6,m))
 | [],p,hs=>by
  rw [QN]; simp only [Z4,if_false]
  exact ⟨_,rfl,(fun _=>by simp),(fun h=>by simp at h)⟩
 | x::s,p,hs=>by
  rw [QN]
  have hlp:p.length≤100000:=by simp at hs; omega
  simp only [Zi,if_true,QR,Qd,Y3,mid_W (Sm_le hs)]
  by_cases h1:x < 0
  ·simp only [h1,if_true,Qd,ne_eq]
   rw [if_pos (by decide)]
   exact ⟨_,rfl,(fun h=>by simp [inR,show ¬ 0≤x by omega] at h),(fun _=>⟨_,_,rfl⟩)⟩
  ·by_cases h2:x≥(n:Int)
   ·simp only [h1,if_false,Qd,h2,decide_true,if_true,ne_eq]
    rw [if_pos (by decide)]
    exact ⟨_,rfl,(fun h=>by simp [inR,show ¬ x < (n:Int) by omega] at h),(fun _=>⟨_,_,rfl⟩)⟩
   ·obtain ⟨o,e,ho⟩:=conv_L1 q1 q2 n s (p++[x]) (by rw [← Qz]; exact hs)
    rw [← Qz,setOf_snoc] at e
    rw [← Qz] at ho
    have hx:inR n x=true:=by simp [inR]; omega
    have ha:(x::s).all (inR n)=s.all (inR n):=by simp [hx]
    rw [ha]
    simp only [h1,if_false,Qd,h2,decide_false,Bool.false_eq_true,ne_eq,not_true,app1 hlp,e]
    exact ⟨o,rfl,ho⟩
def maxF (l:List Int) (m:Int):Int:=l.foldl (fun a x=>if a < x then x else a) m
def maxL (l:List Int):Int:=match l with|[]=>0|x::s=>maxF s x
theorem max_L1:∀ (s p:List Int) (m:Int),(p++s).length≤1000→Zk (p++s,m,(p.length:Int))=some (maxF s m)
 | [],p,m,hs=>by
  rw [Zk]; simp only [Z4,if_false]; rfl
 | x::s,p,m,hs=>by
  rw [Zk]
  have ih:=max_L1 s (p++[x]) (if m < x then x else m) (by rw [← Qz]; exact hs)
  rw [← Qz] at ih
  simp only [Zi,if_true,QR,Qd,mid_W (Sm_le hs),ih]; rfl
theorem Max_ok {l:List Int} (hl:l.length≤1000) (h0:l≠[]):YN l=some (maxL l):=by
 cases l with
 | nil=>exact absurd rfl h0
 | cons x s =>
  have e:Zk (x::s,x,1)=some (maxF s x):=max_L1 s [x] x hl
  have hi:idx (x::s) 0=some x:=rfl
  simp only [YN,hi,Qd,e]
  rw [if_neg (by simp; omega)]; rfl
theorem maxF_ge:∀ (l:List Int) (m:Int),m≤maxF l m∧(∀ x∈l,x≤maxF l m)∧(maxF l m=m∨maxF l m∈l)
 | [],m=>⟨Int.le_refl _,by simp,.inl rfl⟩
 | y::l,m=>by
  obtain ⟨h1,h2,h3⟩:=maxF_ge l (if m < y then y else m)
  have e:maxF (y::l) m=maxF l (if m < y then y else m):=rfl
  rw [e]
  have hm:m≤(if m < y then y else m)∧y≤(if m < y then y else m)∧((if m < y then y else m)=m∨(if m < y then y else m)=y):=by split <;> omega
  refine ⟨by omega,fun x hx=>?_,?_⟩
  ·rcases List.mem_cons.1 hx with rfl|hx
   ·omega
   ·exact h2 x hx
  ·rcases h3 with h3|h3
   ·rcases hm.2.2 with h|h
    ·left; omega
    ·right; rw [h3,h]; exact List.mem_cons_self ..
   ·right; exact List.mem_cons_of_mem _ h3
theorem maxL_ge {l:List Int} (h0:l≠[]):(∀ x∈l,x≤maxL l)∧maxL l∈l:=by
 cases l with
 | nil=>exact absurd rfl h0
 | cons y l =>
  obtain ⟨h1,h2,h3⟩:=maxF_ge l y
  refine ⟨fun x hx=>?_,?_⟩
  ·rcases List.mem_cons.1 hx with rfl|hx
   ·exact h1
   ·exact h2 x hx
  ·show maxF l y∈y::l
   rcases h3 with h3|h3
   ·rw [h3]; exact List.mem_cons_self ..
   ·exact List.mem_cons_of_mem _ h3
def permE (v:List Int) (n:Nat):Int:=if v.length≠n then 5 else if v.all (inR n)=false then 6 else if n > 0∧((setOf v).length:Int)≠maxL v+1 then 6 else 0
theorem Permutation_ok (v:List Int) (sc:Bool) (n:Nat) (hv:v.length≤1000):XW (⟨v,sc⟩,(n:Int))=some (if permE v n=0 then (v,0) else ([],permE v n)):=by
 simp only [XW,JC,permE]
 by_cases h1:v.length=n
 ·subst h1
  obtain ⟨o,e,h2,h3⟩:=conv_L1 v sc v.length v [] (by simp; omega)
  have e':QN (v,v,sc,(v.length:Int),[],[],0)=some o:=e
  simp only [if_false,Clone64_ok v (by omega),Qd,ne_eq,not_true,Ya,room_ok _ (show v.length≤1000 by omega),e']
  cases ha:v.all (inR v.length) with
  | false =>
   obtain ⟨a,m,rfl⟩:=h3 ha
   simp [Qd]
  | true =>
   rw [h2 ha]
   simp only [List.nil_append,Bool.true_eq_false,if_false,Qd]
   by_cases h4:v.length > 0
   ·have hn:v≠[]:=by intro h; subst h; simp at h4
    have hm:0≤maxL v∧maxL v < v.length:=by
     have:=List.all_eq_true.1 ha _ (maxL_ge hn).2
     simpa [inR] using this
    have w:W (maxL v+1)=maxL v+1:=W_ok (by omega) (by omega)
    simp only [show (v.length:Int) > 0 by omega,if_true,Max_ok (show v.length≤1000 by omega) hn,Qd,w,h4,true_and]
    by_cases h5:((setOf v).length:Int)=maxL v+1 <;> simp [h5]
   ·simp only [h4,Qd,show ¬ (v.length:Int) > 0 by omega,if_false,false_and,if_true]; rfl
 ·have h1':(v.length:Int)≠(n:Int):=by omega
  simp only [h1',if_true,Qd,ne_eq,not_false_eq_true,h1]
  simp
def padTo (l:List Int) (j:Nat):List Int:=l++List.replicate (j+1 - l.length) 65536
def minI (a b:Int):Int:=if b < a then b else a
def stepP (l:List Int) (j:Nat) (x:Int):List Int:=(padTo l j).set j (minI ((padTo l j).getD j 0) x)
def permF:List Int→List Int→List Int→List Int
 | l,j::p,x::a=>permF (stepP l j.toNat x) p a
 | l,_,_=>l
def permL (p a:List Int):List Int:=permF [] p a
theorem padTo_len (l:List Int) (j:Nat):(padTo l j).length=max l.length (j+1):=by simp [padTo]; omega
theorem stepP_len (l:List Int) (j:Nat) (x:Int):(stepP l j x).length=max l.length (j+1):=by simp [stepP,padTo_len]
theorem pad_L2 (j:Nat) (hj:j < 100) (p1:List Int) (v204:Int) (p0:List Int):∀ (m:Nat) (l:List Int) (g:Nat),m=j+1 - l.length→l.length≤1000→∃ g',Yf ((j:Int),p1,v204,p0,g,l,l.length)=some (g',padTo l j,(padTo l j).length)
 | 0,l,g,hm,hl=>by
  have h:¬ (l.length:Int)≤(j:Int):=by omega
  rw [Yf]
  simp only [h,if_false]
  refine ⟨g,?_⟩
  have:padTo l j=l:=by unfold padTo; rw [← hm]; simp
  rw [this]
 | m+1,l,g,hm,hl=>by
  have h:(l.length:Int)≤(j:Int):=by omega
  obtain ⟨g',e⟩:=pad_L2 j hj p1 v204 p0 m (l++[65536]) (gb g ([65536]:List Int).isEmpty) (by simp; omega) (by simp; omega)
  rw [Yf]
  have hg:Xc (l.length=l.length)=some ():=if_pos rfl
  simp only [h,if_true,hg,Qd,app1 (show l.length≤100000 by omega),e]
  have hp:padTo (l++[65536]) j=padTo l j:=by
   unfold padTo
   rw [List.append_assoc,List.length_append,List.length_singleton,show j+1 - l.length=(j+1 - (l.length+1))+1 by omega,List.replicate_succ]; rfl
  rw [hp]
  exact ⟨g',rfl⟩
theorem perm_L1:∀ (s t p q l:List Int) (g:Nat),s.length=t.length→p.length=q.length→(p++s).length≤100→(∀ x∈s,0≤x∧x < 100)→l.length≤100 →
  ∃ g',ZS (p++s,q++t,g,l,l.length,(p.length:Int))=some (g',permF l s t,(permF l s t).length)
 | [],[],p,q,l,g,_,h2,h3,h4,h5=>by
  rw [ZS]; simp only [Z4,if_false]
  exact ⟨g,rfl⟩
 | j::s,x::t,p,q,l,g,h1,h2,h3,h4,h5=>by
  have hj:=h4 j (List.mem_cons_self ..)
  obtain ⟨k,rfl⟩:=Int.eq_ofNat_of_zero_le hj.1
  obtain ⟨g1,e1⟩:=pad_L2 k (by omega) (q++x::t) (p.length:Int) (p++(k:Int)::s) (k+1 - l.length) l g rfl (by omega)
  obtain ⟨g2,e2⟩:=perm_L1 s t (p++[(k:Int)]) (q++[x]) (stepP l k x) g1 (by simpa using h1) (by simp [h2]) (by rw [← Qz]; exact h3) (fun y hy=>h4 y (List.mem_cons_of_mem _ hy)) (by rw [stepP_len]; omega)
  rw [← Qz,← Qz] at e2
  have hk:k < (padTo l k).length:=by rw [padTo_len]; omega
  have hi:idx (q++x::t) (p.length:Int)=some x:=by rw [h2]; exact QR
  have hs:setM (padTo l k) (k:Int) (minI ((padTo l k).getD k 0) x)=some (stepP l k x):=by
   rw [setM,if_pos ⟨by omega,by simpa using hk⟩,Int.toNat_natCast]; rfl
  have hg:Xc ((padTo l k).length=(padTo l k).length)=some ():=if_pos rfl
  have hlen:(padTo l k).length=(stepP l k x).length:=by rw [padTo_len,stepP_len]
  rw [ZS]
  have hmin:(if x < (padTo l k).getD k 0 then x else (padTo l k).getD k 0)=minI ((padTo l k).getD k 0) x:=rfl
  simp only [Zi,if_true,QR,hi,Qd,e1,hg,idx_getD hk,hmin,hs,mid_W (Sm_le (show (p++(k:Int)::s).length≤1000 by omega))]
  rw [hlen,e2]
  exact ⟨g2,rfl⟩
 | [],_::_,_,_,_,_,h,_,_,_,_=>by cases h
 | _::_,[],_,_,_,_,h,_,_,_,_=>by cases h
theorem permF_len:∀ (s t l:List Int),(∀ x∈s,0≤x∧x < 100)→l.length≤100→(permF l s t).length≤100
 | [],_,l,_,h=>by unfold permF; exact h
 | _::_,[],l,_,h=>by unfold permF; exact h
 | j::s,x::t,l,hs,h=>by
  have hj:=hs j (List.mem_cons_self ..)
  rw [permF]
  exact permF_len s t _ (fun y hy=>hs y (List.mem_cons_of_mem _ hy)) (by rw [stepP_len]; omega)
def transE (v a:List Int):Int:=if permE v a.length=0 then checkR (permL v a) else permE v a.length
def transR (v a:List Int):Qt × Int:=if transE v a=0 then (⟨[],a,permL v a,[],-1,0,v⟩,0) else (zeroRule,transE v a)
theorem permE_zero {v:List Int} {n:Nat} (h:permE v n=0):v.length=n∧(∀ x∈v,0≤x∧x < (n:Int))∧(n > 0→((setOf v).length:Int)=maxL v+1):=by
 unfold permE at h
 by_cases h1:v.length=n
 ·rw [if_neg (by omega)] at h
  cases ha:v.all (inR n) with
  | false=>rw [if_pos ha] at h; cases h
  | true =>
   rw [if_neg (by rw [ha]; decide)] at h
   refine ⟨h1,fun x hx=>by have:=List.all_eq_true.1 ha x hx; simpa [inR] using this,fun hn=>?_⟩
   by_cases h5:((setOf v).length:Int)=maxL v+1
   ·exact h5
   ·rw [if_pos ⟨hn,h5⟩] at h; cases h
 ·rw [if_pos h1] at h; cases h
theorem permuted_ok (v a:List Int) (ha:a.length≤16) (hl:v.length=a.length) (hv:∀ x∈v,0≤x∧x < (a.length:Int)):X6 (v,a)=some (if checkR (permL v a)=0 then (⟨[],a,permL v a,[],-1,0,v⟩,0) else (zeroRule,checkR (permL v a))):=by
 have hv':∀ x∈v,0≤x∧x < 100:=fun x hx=>by have:=hv x hx; omega
 obtain ⟨g,e⟩:=perm_L1 v a [] [] [] 0 hl rfl (by simp; omega) hv' (by simp)
 have e':ZS (v,a,0,[],([]:List Int).length,0)=some (g,permL v a,(permL v a).length):=e
 have hL:(permL v a).length≤100:=permF_len v a [] hv' (by simp)
 have hg:Xc ((permL v a).length=(permL v a).length)=some ():=if_pos rfl
 simp only [X6,e',Qd,J7,hg,shapeCheck_ok _ (Sm_le (show (permL v a).length≤1000 by omega)),Clone_ok a (by omega),Clone_ok _ (show (permL v a).length≤1000 by omega),XA]
 by_cases h:checkR (permL v a)=0
 ·simp [h,guardT]
 ·simp [h,zeroRule,guardT]
theorem Transpose_ok (v:List Int) (sc:Bool) (a:List Int) (hv:v.length≤1000) (ha:a.length≤16):JA (⟨v,sc⟩,a)=some (transR v a):=by
 simp only [JA,Permutation_ok v sc a.length hv,Qd,transR,transE]
 by_cases h:permE v a.length=0
 ·obtain ⟨h1,h2,h3⟩:=permE_zero h
  simp only [h,if_true,ne_eq,not_true,if_false,permuted_ok v a ha h1 h2,Qd]
 ·simp [h,failed_ok,Qd]
theorem dimN_L1:∀ (s p:List Int),Sm (p++s).length→∃ r,QB (p++s,(p.length:Int))=some r∧(negB s=true→∃ j:Nat,r=.inl (j:Int))∧(negB s=false→r=.inr ())
 | [],p,hs=>by
  rw [QB]; simp only [Z4,if_false]; exact ⟨_,rfl,fun h=>(by cases h),fun _=>rfl⟩
 | x::s,p,hs=>by
  rw [QB]
  obtain ⟨r,h1,h2,h3⟩:=dimN_L1 s (p++[x]) (by rw [← Qz]; exact hs)
  rw [← Qz] at h1
  simp only [Zi,if_true,QR,Qd,mid_W hs,Js,negB_cons]
  by_cases hn:x < 0
  ·simp only [hn,decide_true,if_true]; exact ⟨_,rfl,fun _=>⟨_,rfl⟩,fun h=>by simp at h⟩
  ·simp only [hn,decide_false,Bool.false_eq_true,if_false,Bool.false_or]; exact ⟨r,h1,h2,h3⟩
theorem dimN_ok (l:List Int) (hs:Sm l.length):QU l=some (negB l):=by
 obtain ⟨r,h1,h2,h3⟩:=dimN_L1 l [] hs
 have e:QB (l,0)=some r:=h1
 simp only [QU,Zc,e,Qd]
 cases hn:negB l
 ·rw [h3 hn]; rfl
 ·obtain ⟨j,rfl⟩:=h2 hn; simp [Qd]
theorem dimC_L1 (sc:Bool):∀ (s p:List Int),(p++s).length≤1000→negB s=false→∃ o,QM (p++s,sc,p,(p.length:Int))=some o ∧
  (bigB s=true→∃ m,o=.inl (7,m))∧(bigB s=false→o=.inr (p++s))
 | [],p,hs,_=>by
  rw [QM]; simp only [Z4,if_false]
  exact ⟨_,rfl,(fun h=>by simp [bigB] at h),(fun _=>by simp)⟩
 | x::s,p,hs,hn=>by
  rw [QM]
  have hlp:p.length≤100000:=by simp at hs; omega
  rw [negB_cons,Bool.or_eq_false_iff] at hn
  have hx:¬ x < 0:=by simpa using hn.1
  simp only [Zi,if_true,QR,Qd,mid_W (Sm_le hs),QaI,hx,if_false,bigB_cons]
  by_cases hb:x > 65536
  ·simp only [hb,if_true,Qd,ne_eq]
   rw [if_pos (by decide)]
   exact ⟨_,rfl,(fun _=>⟨_,rfl⟩),(fun h=>by simp at h)⟩
  ·obtain ⟨o,e,ho⟩:=dimC_L1 sc s (p++[x]) (by rw [← Qz]; exact hs) hn.2
   rw [← Qz] at e ho
   simp only [hb,if_false,Qd,ne_eq,not_true,app1 hlp,e,decide_false,Bool.false_or]
   exact ⟨o,rfl,ho⟩
theorem Dimensions_ok (l:List Int) (sc:Bool) (hl:l.length≤1000):Jf ⟨l,sc⟩=some (if checkR l=0 then (l,0) else ([],checkR l)):=by
 simp only [Jf,dimN_ok l (Sm_le hl),Qd]
 cases hn:negB l with
 | true =>
  have hc:checkR l=6:=by rw [checkR,hn]; rfl
  simp [hc]
 | false =>
  obtain ⟨o,e,h1,h2⟩:=dimC_L1 sc l [] hl hn
  have e':QM (l,sc,[],0)=some o:=e
  simp only [Bool.false_eq_true,if_false,Z9,room_ok _ hl,Qd,e']
  cases hb:bigB l with
  | true =>
   obtain ⟨m,rfl⟩:=h1 hb
   have hc:checkR l=7:=by rw [checkR,hn,hb]; simp
   simp [hc,Qd]
  | false =>
   rw [h2 hb]
   simp only [List.nil_append,Qd,shapeCheck_ok l (Sm_le hl)]
   by_cases hc:checkR l=0 <;> simp [hc]
def reshR (l a:List Int):Qt × Int:=if checkR l=0 then (⟨[],a,l,[],-1,0,[]⟩,0) else (zeroRule,checkR l)
theorem Reshape_ok (l:List Int) (sc:Bool) (a:List Int) (hl:l.length≤1000) (ha:a.length≤1000):Qas (⟨l,sc⟩,a)=some (reshR l a):=by
 simp only [Qas,Dimensions_ok l sc hl,Qd,reshR]
 by_cases h:checkR l=0
 ·simp [h,Qab,shapeCheck_ok l (Sm_le hl),Clone_ok l hl,Clone_ok a ha,Qd]
 ·simp [h,failed_ok,Qd]
theorem Cells_ok (l:List Int) (hs:Sm l.length):JZ l=some (cellsR l):=by
 simp only [JZ,Check_ok l hs,Qd,Product_ok l hs,cellsR]
 by_cases hc:checkR l=0
 ·have:(prodR l).1=prodI l:=by
   unfold checkR at hc
   unfold prodR
   by_cases hn:negB l=true
   ·simp [hn] at hc
   ·by_cases hb:bigB l=true
    ·simp [hn,hb] at hc
    ·by_cases hp:prodI l > 65536
     ·simp [hn,hb,hp] at hc
     ·simp [hn,hb,hp]
  simp [hc,this]
 ·simp [hc]
theorem check_nil:checkR []=0:=rfl
def okR (r:Qt):Prop:=checkR r.left=0∧checkR r.right=0∧checkR r.shape=0
theorem okR_zero:okR zeroRule:=⟨check_nil,check_nil,check_nil⟩
theorem okR_take {l a:List Int} (ha:checkR a=0):okR (takeR l a).1:=by
 unfold takeR
 split
 ·rename_i h
  unfold takeE at h
  by_cases h1:a=[]∧l.length > 16
  ·rw [if_pos h1] at h; cases h
  ·rw [if_neg h1] at h
   split at h
   ·cases h
   ·split at h
    ·cases h
    ·exact ⟨check_nil,seen_check ha h1,h⟩
 ·exact okR_zero
theorem okR_drop {l a:List Int} (ha:checkR a=0):okR (dropR l a).1:=by
 unfold dropR
 split
 ·rename_i h
  unfold dropE at h
  by_cases h1:a=[]∧l.length > 16
  ·rw [if_pos h1] at h; cases h
  ·rw [if_neg h1] at h
   have hc:=seen_check ha h1
   split at h
   ·cases h
   ·exact ⟨check_nil,hc,(below_drop l _ (by omega) (checkR_zero.1 hc).1).right hc⟩
 ·exact okR_zero
theorem okR_trans {v a:List Int} (ha:checkR a=0):okR (transR v a).1:=by
 unfold transR
 split
 ·rename_i h
  unfold transE at h
  split at h
  ·exact ⟨check_nil,ha,h⟩
  ·rename_i h2; exact absurd h h2
 ·exact okR_zero
theorem okR_resh {v a:List Int} (ha:checkR a=0):okR (reshR v a).1:=by
 unfold reshR
 split
 ·rename_i h; exact ⟨check_nil,ha,h⟩
 ·exact okR_zero
theorem getD_el {X:List Int} {k:Nat} (h:k < X.length):X.getD k 0=X[k]:=by simp [List.getD_eq_getElem?_getD,h]
theorem okR_cat {p0:Int} {a b:List Int} (hp:-1≤p0) (ha:checkR a=0) (hb:checkR b=0):okR (catR p0 a b).1:=by
 obtain ⟨da,la,_⟩:=checkR_zero.1 ha
 obtain ⟨db,lb,_⟩:=checkR_zero.1 hb
 unfold catR
 obtain ⟨R,hR⟩:∃ R,R=max (max a.length b.length) 1:=⟨_,rfl⟩
 simp only [← hR]
 split
 ·exact okR_zero
 ·rename_i hk
  obtain ⟨k,ek⟩:∃ k,k=(if p0=-1 then (R:Int) - 1 else p0).toNat:=⟨_,rfl⟩
  have hkR:k < R:=by rw [ek]; split <;> omega
  rw [← ek]
  split
  ·exact okR_zero
  ·rename_i hbad
   split
   ·rename_i ht
    have lX:(widR a b R k).length=R:=widR_len hkR (by omega)
    have lY:(widR b a R k).length=R:=widR_len hkR (by omega)
    have dX:Dims (widR a b R k):=widR_dims da db
    have dY:Dims (widR b a R k):=widR_dims db da
    generalize widR a b R k=X at *
    generalize widR b a R k=Y at *
    unfold tailE at ht
    by_cases c1:remL X k=remL Y k
    ·rw [if_neg (fun h=>h c1)] at ht
     by_cases c2:checkR (repL X k (sumAt X Y k))=0
     ·have gX:=getD_in dX (show k < X.length by omega)
      have gY:=getD_in dY (show k < Y.length by omega)
      have kX:k < X.length:=by omega
      have kY:k < Y.length:=by omega
      refine ⟨?_,?_,c2⟩
      ·have:=part_right (x:=X.getD k 0) (by omega) c2 gX.1 (by unfold sumAt; omega)
       rw [getD_el kX,rep_self kX] at this; exact this
      ·have:=part_right (x:=Y.getD k 0) (by omega) c2 gY.1 (by unfold sumAt; omega)
       rw [rep_other kX kY c1,getD_el kY,rep_self kY] at this; exact this
     ·rw [if_pos c2] at ht; cases ht
    ·rw [if_pos c1] at ht; cases ht
   ·exact okR_zero
theorem stepP_get (l:List Int) (j:Nat) (x:Int) (i:Nat):(stepP l j x).getD i 65536=if i=j then minI (l.getD j 65536) x else l.getD i 65536:=by
 have hp:∀ i,(padTo l j).getD i 65536=l.getD i 65536:=fun i=>by
  unfold padTo
  simp only [List.getD_eq_getElem?_getD]
  by_cases h:i < l.length
  ·rw [List.getElem?_append_left h]
  ·rw [List.getElem?_append_right (by omega),List.getElem?_eq_none (l:=l) (by omega)]
   by_cases h2:i - l.length < j+1 - l.length
   ·rw [List.getElem?_replicate]; simp [h2]
   ·rw [List.getElem?_eq_none (by simp; omega)]
 have hk:j < (padTo l j).length:=by rw [padTo_len]; omega
 have h0:(padTo l j).getD j 0=l.getD j 65536:=by
  rw [← hp j]; simp [List.getD_eq_getElem?_getD,hk]
 unfold stepP
 rw [h0,List.getD_eq_getElem?_getD,List.getElem?_set]
 by_cases h:i=j
 ·subst h; simp [hk]
 ·rw [if_neg (fun e=>h e.symm),if_neg h,← List.getD_eq_getElem?_getD,hp]
def rng (n:Nat):List Int:=(List.range n).map fun (k:Nat)=>(k:Int)
theorem rng_nodup (n:Nat):(rng n).Nodup:=List.Pairwise.map _ (fun a b h e=>h (by omega)) List.nodup_range
theorem mem_rng {n:Nat} {x:Int}:x∈rng n↔0≤x∧x < (n:Int):=by
 unfold rng
 rw [List.mem_map]
 constructor
 ·rintro ⟨k,hk,rfl⟩; have:=List.mem_range.1 hk; omega
 ·intro h; exact ⟨x.toNat,List.mem_range.2 (by omega),by omega⟩
theorem perm_rng {v:List Int} (h1:v.Nodup) (h2:∀ x∈v,0≤x∧x < (v.length:Int)):v.Perm (rng v.length):=by
 refine (List.perm_ext_iff_of_nodup h1 (rng_nodup _)).2 fun x=>⟨fun h=>mem_rng.2 (h2 x h),fun h=>?_⟩
 rcases Classical.em (x∈v) with hx|hx
 ·exact hx
 ·have hle:=List.Nodup.length_le_of_subset (l₁:=x::v) (l₂:=rng v.length) (List.nodup_cons.2 ⟨hx,h1⟩) (fun y hy=>by
   rcases List.mem_cons.1 hy with rfl|hy
   ·exact h
   ·exact mem_rng.2 (h2 y hy))
  simp [rng] at hle
  omega
theorem ite_som {c:Prop} [Decidable c] {α:Type} (a b:α):(if c then some a else some b)=some (if c then a else b):=by split <;> rfl
def rr (r:Qt):Qx:=⟨r.left,r.right,r.shape,r.starts,r.axis,r.amount,r.perm⟩
theorem rMag_ok (v:Int):X9 v=some (if bigM v then (0,7) else (absI v,0)):=by
 unfold X9 bigM absI
 dsimp only
 by_cases h1:v > 65536
 ·simp [h1,Qd]
 by_cases h2:v < -65536
 ·simp [h1,h2,Qd]
 simp only [h1,h2,if_false,decide_false,Bool.or_self,Qd,Bool.false_eq_true]
 by_cases h3:v < 0
 ·simp only [h3,if_true]
  rw [W_ok (by omega) (by omega),Int.zero_sub]
 ·simp only [h3,if_false]
theorem rseen_L1 (n:Nat) (hn:n≤1000):∀ (m j:Nat),j+m=n→Y7 ((n:Int),List.replicate j 1,(j:Int))=some (List.replicate n 1)
 | 0,j,h=>by
  rw [Y7]
  have:¬ ((j:Int) < (n:Int)):=by omega
  simp only [this,if_false]
  rw [show j=n by omega]
 | m+1,j,h=>by
  rw [Y7]
  have h1:((j:Int) < (n:Int)):=by omega
  have w:W ((j:Int)+1)=((j+1:Nat):Int):=W_succ (by omega)
  have e:=rseen_L1 n hn m (j+1) (by omega)
  simp only [h1,if_true,app1 (show (List.replicate j (1:Int)).length≤100000 by simp; omega),Qd,w]
  rw [← List.replicate_succ',e]
theorem rseen_ok (a:List Int) (n:Nat) (hn:n≤1000):QaG (a,(n:Int))=some (seenL a n):=by
 unfold QaG seenL
 dsimp only
 by_cases h:a=[]
 ·subst h
  have e:=rseen_L1 n hn n 0 (by omega)
  simp only [List.replicate_zero,Int.natCast_zero] at e
  rw [if_neg (by simp),if_pos rfl,e]; rfl
 ·rw [if_pos (by have:=List.length_pos_iff.2 h; omega),if_neg h]
theorem rtake_L1:∀ (s t p q A B:List Int),s.length=t.length→p.length=q.length→(p++s).length≤1000→A.length≤p.length→B.length≤p.length→Dims t →
  (s.any bigM=true→∃ x,YC (p++s,q++t,A,B,(p.length:Int))=some (.inl x)) ∧
  (s.any bigM=false→YC (p++s,q++t,A,B,(p.length:Int))=some (.inr (A++s.map absI,B++List.zipWith stI s t)))
 | [],[],p,q,A,B,_,_,_,_,_,_=>by
  refine ⟨fun h=>by simp at h,fun _=>?_⟩
  rw [YC]; simp only [Z4,if_false]; simp
 | x::s,d::t,p,q,A,B,h1,h2,hs,hA,hB,hd=>by
  have hl:(p++x::s).length≤1000:=hs
  have hl':p.length≤1000:=by simp at hl; omega
  have hdd:=hd d (List.mem_cons_self ..)
  have ih:=fun a b:Int=>rtake_L1 s t (p++[x]) (q++[d]) (A++[a]) (B++[b]) (by simpa using h1) (by simp [h2]) (by rw [← Qz]; exact hs) (by simp; omega) (by simp; omega) (fun z hz=>hd z (List.mem_cons_of_mem _ hz))
  simp only [← Qz] at ih
  rw [YC]
  have hxq:idx (q++d::t) (p.length:Int)=some d:=by rw [h2]; exact QR
  simp only [Zi,if_true,QR,hxq,Qd,rMag_ok,mid_W (Sm_le hs)]
  cases hb:bigM x
  ·have hbx:-65536≤x∧x≤65536:=by simp [bigM] at hb; omega
   have hW:W (d - absI x)=d - absI x:=by unfold absI; split <;> rw [W_ok (by omega) (by omega)]
   simp only [Bool.false_eq_true,if_false,ne_eq,not_true_eq_false,app1 (show A.length≤100000 by omega),app1 (show B.length≤100000 by omega),Qd,ite_som,hW,List.any_cons,hb,Bool.false_or,List.map_cons,List.zipWith_cons_cons]
   have hst:(if x < 0 then d - absI x else 0)=stI x d:=rfl
   simp only [hst]
   obtain ⟨i1,i2⟩:=ih (absI x) (stI x d)
   refine ⟨fun h=>i1 h,fun h=>?_⟩
   rw [i2 h]
   try simp
  ·simp only [if_true,ne_eq,show ¬ ((7:Int)=0) by decide,not_false_eq_true,List.any_cons,hb,Bool.true_or]
   exact ⟨fun _=>⟨_,rfl⟩,fun h=>by cases h⟩
theorem len_nil {a:List Int}:((a.length:Int)=0)↔a=[]:=by rw [← List.length_eq_zero_iff]; omega
theorem absI_nonneg (v:Int):0≤absI v:=by unfold absI; split <;> omega
theorem rTake_ok (v a:List Int) (hv:v.length≤1000) (ha:checkR a=0):QaF (v,a)=some (rr (takeR v a).1,(takeR v a).2):=by
 unfold QaF takeR takeE
 simp only [ite_som,Qd,rseen_ok a v.length hv,len_nil]
 by_cases c1:a=[]∧v.length > 16
 ·have c1':(if a=[] then decide ((v.length:Int) > 16) else false)=true:=by rw [if_pos c1.1]; simp; omega
  rw [if_pos c1',if_pos c1]; rfl
 have c1':¬ (if a=[] then decide ((v.length:Int) > 16) else false)=true:=by
  intro h
  split at h
  ·rename_i h0; exact c1 ⟨h0,by simp at h; omega⟩
  ·cases h
 rw [if_neg c1',if_neg c1]
 by_cases c2:v.length≠(seenL a v.length).length
 ·rw [if_pos (show ((v.length:Int)≠((seenL a v.length).length:Int)) by omega),if_pos c2]; rfl
 rw [if_neg (show ¬ ((v.length:Int)≠((seenL a v.length).length:Int)) by omega),if_neg c2]
 have hd:Dims (seenL a v.length):=(checkR_zero.1 (seen_check ha c1)).1
 obtain ⟨l1,l2⟩:=rtake_L1 v (seenL a v.length) [] [] [] [] (by omega) rfl (by simpa using hv) (by simp) (by simp) hd
 simp only [List.nil_append,List.length_nil,Int.natCast_zero] at l1 l2
 cases c3:v.any bigM
 ·rw [l2 c3]
  simp only [Qd,Check_ok (v.map absI) (Sm_le (by simpa using hv)),Bool.false_eq_true,if_false]
  by_cases c4:checkR (v.map absI)=0
  ·rw [if_neg (by simpa using c4),if_pos c4]; rfl
  ·rw [if_pos c4,if_neg c4]
   rcases check_dims (X:=v.map absI) (fun d hd=>by obtain ⟨z,_,rfl⟩:=List.mem_map.1 hd; exact absI_nonneg z) with h|h
   ·exact absurd h c4
   ·rw [h]; rfl
 ·obtain ⟨x,e⟩:=l1 c3
  obtain ⟨x1,x2⟩:=x
  rw [e]; rfl
theorem rdrop_end (v:List Int):∀ (t q A B:List Int),v.length≤q.length→(q++t).length≤1000→A.length≤q.length→B.length≤q.length→Dims t →
  ZY (q++t,v,A,B,(q.length:Int))=some (A++t,B++List.replicate t.length 0)
 | [],q,A,B,_,_,_,_,_=>by rw [ZY]; simp only [Z4,if_false]; simp
 | d::t,q,A,B,h,hs,hA,hB,hd=>by
  have hl:(q++d::t).length≤1000:=hs
  have hl':q.length≤1000:=by simp at hl; omega
  have hdd:=hd d (List.mem_cons_self ..)
  have ih:=rdrop_end v t (q++[d]) (A++[d]) (B++[0]) (by simp; omega) (by rw [← Qz]; exact hs) (by simp; omega) (by simp; omega) (fun z hz=>hd z (List.mem_cons_of_mem _ hz))
  rw [← Qz] at ih
  have w:W (d+0)=d:=by rw [W_ok (by omega) (by omega),Int.add_zero]
  rw [ZY]
  simp only [Zi,if_true,QR,Qd,mid_W (Sm_le hs),if_neg (show ¬ ((q.length:Int) < (v.length:Int)) by omega),Bool.false_eq_true,if_false,w,app1 (show A.length≤100000 by omega),app1 (show B.length≤100000 by omega),ih]
  simp [List.replicate_succ]
theorem rdrop_L1:∀ (s t p q A B:List Int),s.length≤t.length→p.length=q.length→(q++t).length≤1000→A.length≤q.length→B.length≤q.length→Dims t →
  ZY (q++t,p++s,A,B,(q.length:Int))=some (A++dropL s t,B++dropF s t)
 | [],t,p,q,A,B,_,h2,hs,hA,hB,hd=>by
  rw [rdrop_end _ t q A B (by simp; omega) hs hA hB hd]
  simp [dropL,dropF]
 | x::s,[],p,q,A,B,h1,_,_,_,_,_=>by simp at h1
 | x::s,d::t,p,q,A,B,h1,h2,hs,hA,hB,hd=>by
  have hl:(q++d::t).length≤1000:=hs
  have hl':q.length≤1000:=by simp at hl; omega
  have hdd:=hd d (List.mem_cons_self ..)
  have ih:=fun a b:Int=>rdrop_L1 s t (p++[x]) (q++[d]) (A++[a]) (B++[b]) (by simpa using h1) (by simp [h2]) (by rw [← Qz]; exact hs) (by simp; omega) (by simp; omega) (fun z hz=>hd z (List.mem_cons_of_mem _ hz))
  simp only [← Qz] at ih
  have hxi:idx (p++x::s) (q.length:Int)=some x:=by rw [← h2]; exact QR
  have hlt:((q.length:Int) < ((p++x::s).length:Int)):=by simp; omega
  have w0:W (0 - d)=-d:=by rw [W_ok (by omega) (by omega),Int.zero_sub]
  rw [ZY]
  simp only [Zi,hlt,if_true,QR,hxi,Qd,mid_W (Sm_le hs),w0,app1 (show A.length≤100000 by omega),app1 (show B.length≤100000 by omega)]
  by_cases hx:x > 0
  ·have e1:(if d < x then d else x)=dropS d x:=by
    have hx0:¬ x < 0:=by omega
    unfold dropS absI; simp only [hx0,if_false]
   have e2:W (d - dropS d x)=dropD d x:=by
    unfold dropD; rw [← e1]; unfold absI; rw [if_neg (show ¬ x < 0 by omega)]
    split <;> rw [W_ok (by omega) (by omega)]
   simp only [hx,decide_true,if_true,e1,e2,ih]
   simp [dropL,dropF]
  ·have e1:W (d+(if x < -d then -d else x))=dropD d x:=by
    unfold dropD absI
    by_cases h0:x < 0
    ·rw [if_pos h0]
     by_cases h4:x < -d
     ·rw [if_pos h4,if_pos (show -x > d by omega),W_ok (by omega) (by omega)]; omega
     ·rw [if_neg h4,if_neg (show ¬ -x > d by omega),W_ok (by omega) (by omega)]; omega
    ·rw [if_neg h0,if_neg (show ¬ x < -d by omega),if_neg (show ¬ x > d by omega),W_ok (by omega) (by omega)]; omega
   have e2:dropS d x=0:=by
    unfold dropS absI
    by_cases h0:x < 0
    ·rw [if_pos h0]
    ·rw [if_neg h0]; split <;> split <;> omega
   simp only [hx,decide_false,Bool.false_eq_true,if_false,e1,ih]
   simp [dropL,dropF,e2]
theorem rDrop_ok (v a:List Int) (hv:v.length≤1000) (ha:checkR a=0):QaD (v,a)=some (rr (dropR v a).1,(dropR v a).2):=by
 unfold QaD dropR dropE
 simp only [ite_som,Qd,rseen_ok a v.length hv,len_nil]
 by_cases c1:a=[]∧v.length > 16
 ·have c1':(if a=[] then decide ((v.length:Int) > 16) else false)=true:=by rw [if_pos c1.1]; simp; omega
  rw [if_pos c1',if_pos c1]; rfl
 have c1':¬ (if a=[] then decide ((v.length:Int) > 16) else false)=true:=by
  intro h
  split at h
  ·rename_i h0; exact c1 ⟨h0,by simp at h; omega⟩
  ·cases h
 rw [if_neg c1',if_neg c1]
 have hc:=checkR_zero.1 (seen_check ha c1)
 by_cases c2:v.length > (seenL a v.length).length
 ·rw [if_pos (show ((v.length:Int) > ((seenL a v.length).length:Int)) by omega),if_pos c2]; rfl
 rw [if_neg (show ¬ ((v.length:Int) > ((seenL a v.length).length:Int)) by omega),if_neg c2]
 have l2:=rdrop_L1 v (seenL a v.length) [] [] [] [] (by omega) rfl (by simp; omega) (by simp) (by simp) hc.1
 simp only [List.nil_append,List.length_nil,Int.natCast_zero] at l2
 rw [l2]; rfl
theorem insL_cons (d:Int) (t:List Int) (j:Nat) (n:Int):insL (d::t) (j+1) n=d::insL t j n:=by simp [insL]
theorem remL_cons (d:Int) (t:List Int) (j:Nat):remL (d::t) (j+1)=d::remL t j:=by simp [remL]
theorem rins_after (k:Nat) (n:Int):∀ (t p A:List Int),k < p.length→(p++t).length≤1000→A.length≤p.length+1→Zg (p++t,(k:Int),n,A,(p.length:Int))=some (A++t)
 | [],p,A,hk,hs,hA=>by
  have hl:p.length≤1000:=by simpa using hs
  rw [Zg]
  simp only [if_pos (show ((p.length:Int)≤((p++([]:List Int)).length:Int)) by simp),if_neg (show ¬ ((p.length:Int)=(k:Int)) by omega),Qd,Z4,if_false]
  rw [Zg,W_succ (by omega)]
  simp only [List.append_nil]
  rw [if_neg (show ¬ (((p.length+1:Nat):Int)≤(p.length:Int)) by omega)]
 | d::t,p,A,hk,hs,hA=>by
  have hl:p.length≤1000:=by simp at hs; omega
  have ih:=rins_after k n t (p++[d]) (A++[d]) (by simp; omega) (by rw [← Qz]; exact hs) (by simp; omega)
  rw [← Qz] at ih
  rw [Zg]
  simp only [if_pos (show ((p.length:Int)≤((p++d::t).length:Int)) by simp; omega),if_neg (show ¬ ((p.length:Int)=(k:Int)) by omega),Qd,Zi,if_true,QR,app1 (show A.length≤100000 by omega),mid_W (Sm_le hs),ih]
  simp
theorem rins_before (k:Nat) (n:Int):∀ (t p A:List Int),p.length≤k→k≤(p++t).length→(p++t).length≤1000→A.length≤p.length→Zg (p++t,(k:Int),n,A,(p.length:Int))=some (A++insL t (k - p.length) n)
 | [],p,A,hk,hk2,hs,hA=>by
  have hl:p.length≤1000:=by simpa using hs
  have he:k=p.length:=by simp at hk2; omega
  subst he
  rw [Zg]
  simp only [if_pos (show ((p.length:Int)≤((p++([]:List Int)).length:Int)) by simp),if_true,Qd,Z4,if_false,app1 (show A.length≤100000 by omega)]
  rw [Zg,W_succ (by omega)]
  simp only [List.append_nil]
  rw [if_neg (show ¬ (((p.length+1:Nat):Int)≤(p.length:Int)) by omega)]
  simp [insL]
 | d::t,p,A,hk,hk2,hs,hA=>by
  have hl:p.length≤1000:=by simp at hs; omega
  rw [Zg]
  simp only [if_pos (show ((p.length:Int)≤((p++d::t).length:Int)) by simp; omega),Zi,if_true,QR,Qd,mid_W (Sm_le hs)]
  by_cases he:k=p.length
  ·subst he
   have ih:=rins_after p.length n t (p++[d]) (A++[n]++[d]) (by simp) (by rw [← Qz]; exact hs) (by simp; omega)
   rw [← Qz] at ih
   simp only [if_true,app1 (show A.length≤100000 by omega),Qd,app1 (show (A++[n]).length≤100000 by simp; omega),ih]
   simp [insL]
  ·have ih:=rins_before k n t (p++[d]) (A++[d]) (by simp; omega) (by rw [← Qz]; exact hk2) (by rw [← Qz]; exact hs) (by simp; omega)
   rw [← Qz] at ih
   simp only [if_neg (show ¬ ((p.length:Int)=(k:Int)) by omega),Qd,app1 (show A.length≤100000 by omega),ih]
   obtain ⟨j,hj⟩:∃ j,k - p.length=j+1:=⟨k - p.length - 1,by omega⟩
   rw [hj,insL_cons,show k - (p++[d]).length=j by simp; omega]
   simp
theorem rIns_ok (s:List Int) (k:Nat) (n:Int) (hk:k≤s.length) (hs:s.length≤1000):XU (s,(k:Int),n)=some (insL s k n):=by
 have e:=rins_before k n s [] [] (by simp) (by simpa using hk) (by simpa using hs) (by simp)
 simp only [List.nil_append,List.length_nil,Int.natCast_zero,Nat.sub_zero] at e
 unfold XU
 simp only [e,Qd]
theorem rrem_after (k:Nat):∀ (t p A:List Int),k < p.length→(p++t).length≤1000→A.length≤p.length→Zs (p++t,(k:Int),A,(p.length:Int))=some (A++t)
 | [],p,A,hk,hs,hA=>by rw [Zs]; simp only [Z4,if_false]; rw [List.append_nil]
 | d::t,p,A,hk,hs,hA=>by
  have hl:p.length≤1000:=by simp at hs; omega
  have ih:=rrem_after k t (p++[d]) (A++[d]) (by simp; omega) (by rw [← Qz]; exact hs) (by simp; omega)
  rw [← Qz] at ih
  rw [Zs]
  simp only [Zi,if_true,if_pos (show ((p.length:Int)≠(k:Int)) by omega),QR,Qd,app1 (show A.length≤100000 by omega),mid_W (Sm_le hs),ih]
  simp
theorem rrem_before (k:Nat):∀ (t p A:List Int),p.length≤k→(p++t).length≤1000→A.length≤p.length→Zs (p++t,(k:Int),A,(p.length:Int))=some (A++remL t (k - p.length))
 | [],p,A,hk,hs,hA=>by rw [Zs]; simp only [Z4,if_false]; simp [remL]
 | d::t,p,A,hk,hs,hA=>by
  have hl:p.length≤1000:=by simp at hs; omega
  rw [Zs]
  by_cases he:k=p.length
  ·subst he
   have ih:=rrem_after p.length t (p++[d]) A (by simp) (by rw [← Qz]; exact hs) (by simp; omega)
   rw [← Qz] at ih
   simp only [Zi,if_true,ne_eq,not_true_eq_false,if_false,mid_W (Sm_le hs),ih]
   simp [remL]
  ·have ih:=rrem_before k t (p++[d]) (A++[d]) (by simp; omega) (by rw [← Qz]; exact hs) (by simp; omega)
   rw [← Qz] at ih
   simp only [Zi,if_true,if_pos (show ((p.length:Int)≠(k:Int)) by omega),QR,Qd,app1 (show A.length≤100000 by omega),mid_W (Sm_le hs),ih]
   obtain ⟨j,hj⟩:∃ j,k - p.length=j+1:=⟨k - p.length - 1,by omega⟩
   rw [hj,remL_cons,show k - (p++[d]).length=j by simp; omega]
   simp
theorem rRem_ok (s:List Int) (k:Nat) (hs:s.length≤1000):Qaq (s,(k:Int))=some (remL s k):=by
 have e:=rrem_before k s [] [] (by simp) (by simpa using hs) (by simp)
 simp only [List.nil_append,List.length_nil,Int.natCast_zero,Nat.sub_zero] at e
 unfold Qaq
 simp only [e,Qd]
theorem ins_rem {s:List Int} {k:Nat} (n:Int) (hk:k < s.length):insL (remL s k) k n=repL s k n:=by
 have hl:(s.take k).length=k:=by simp; omega
 unfold insL remL repL
 rw [List.take_append_of_le_length (by omega),List.drop_append_of_le_length (by omega),List.take_of_length_le (by omega),List.drop_of_length_le (by omega),List.nil_append]
theorem rput_ok (s:List Int) (k:Nat) (n:Int) (hk:k < s.length) (hs:s.length≤1000):JH (s,(k:Int),n)=some (repL s k n):=by
 unfold JH
 have:=remL_len hk
 simp only [rRem_ok s k hs,Qd,rIns_ok (remL s k) k n (by omega) (by omega),ins_rem n hk]
theorem rcat_after {a b:List Int} {k:Nat} {X Y:List Int} (hR:max (max (a.length:Int) (b.length:Int)) 1=(X.length:Int)) (hX:X.length≤1000):∀ (s t p q:List Int),X=p++s→Y=q++t→p.length=q.length→s.length=t.length→k < p.length→Zh (a,b,(k:Int),X,Y,(p.length:Int))=some (if s=t then .inr () else .inl ())
 | [],[],p,q,e1,e2,_,_,_=>by
  rw [Zh,hR]; simp only [if_neg (show ¬ ((p.length:Int) < (X.length:Int)) by rw [e1]; simp),if_true]
 | d::s,e::t,p,q,e1,e2,h1,h2,hk=>by
  have hl:p.length≤1000:=by rw [e1] at hX; simp at hX; omega
  have ih:=rcat_after (k:=k) (X:=X) (Y:=Y) hR hX s t (p++[d]) (q++[e]) (by rw [← Qz]; exact e1) (by rw [← Qz]; exact e2) (by simp [h1]) (by simpa using h2) (by simp; omega)
  have i1:idx X (p.length:Int)=some d:=by rw [e1]; exact QR
  have i2:idx Y (p.length:Int)=some e:=by rw [e2,h1]; exact QR
  have w:W ((p.length:Int)+1)=((p++[d]).length:Int):=by rw [W_succ (by omega)]; simp
  rw [Zh,hR]
  simp only [if_pos (show ((p.length:Int) < (X.length:Int)) by rw [e1]; exact Zi),if_pos (show ((p.length:Int)≠(k:Int)) by omega),i1,i2,Qd,w,ih]
  by_cases hde:d=e <;> simp [hde,Qd]
 | [],_::_,_,_,_,_,_,h2,_=>by cases h2
 | _::_,[],_,_,_,_,_,h2,_=>by cases h2
theorem rcat_before {a b:List Int} {k:Nat} {X Y:List Int} (hR:max (max (a.length:Int) (b.length:Int)) 1=(X.length:Int)) (hX:X.length≤1000):∀ (s t p q:List Int),X=p++s→Y=q++t→p.length=q.length→s.length=t.length→p.length≤k→Zh (a,b,(k:Int),X,Y,(p.length:Int))=some (if remL s (k - p.length)=remL t (k - p.length) then .inr () else .inl ())
 | [],[],p,q,e1,e2,_,_,_=>by
  rw [Zh,hR]; simp only [if_neg (show ¬ ((p.length:Int) < (X.length:Int)) by rw [e1]; simp),if_true]
 | d::s,e::t,p,q,e1,e2,h1,h2,hk=>by
  have hl:p.length≤1000:=by rw [e1] at hX; simp at hX; omega
  have i1:idx X (p.length:Int)=some d:=by rw [e1]; exact QR
  have i2:idx Y (p.length:Int)=some e:=by rw [e2,h1]; exact QR
  have w:W ((p.length:Int)+1)=((p++[d]).length:Int):=by rw [W_succ (by omega)]; simp
  rw [Zh,hR]
  by_cases he:k=p.length
  ·have ih:=rcat_after (k:=k) (X:=X) (Y:=Y) hR hX s t (p++[d]) (q++[e]) (by rw [← Qz]; exact e1) (by rw [← Qz]; exact e2) (by simp [h1]) (by simpa using h2) (by simp; omega)
   simp only [if_pos (show ((p.length:Int) < (X.length:Int)) by rw [e1]; exact Zi),if_neg (show ¬ ((p.length:Int)≠(k:Int)) by omega),Qd,w,ih,Bool.false_eq_true,if_false]
   simp [remL,he]
  ·have ih:=rcat_before (k:=k) (X:=X) (Y:=Y) hR hX s t (p++[d]) (q++[e]) (by rw [← Qz]; exact e1) (by rw [← Qz]; exact e2) (by simp [h1]) (by simpa using h2) (by simp; omega)
   obtain ⟨j,hj⟩:∃ j,k - p.length=j+1:=⟨k - p.length - 1,by omega⟩
   rw [show k - (p++[d]).length=j by simp; omega] at ih
   simp only [if_pos (show ((p.length:Int) < (X.length:Int)) by rw [e1]; exact Zi),if_pos (show ((p.length:Int)≠(k:Int)) by omega),i1,i2,Qd,w,ih]
   rw [hj,remL_cons,remL_cons]
   by_cases hde:d=e <;> simp [hde,Qd]
 | [],_::_,_,_,_,_,_,h2,_=>by cases h2
 | _::_,[],_,_,_,_,_,h2,_=>by cases h2
theorem rCat_tail {p0:Int} {a b:List Int} {R k:Nat} (X Y:List Int) (hR:max (max (a.length:Int) (b.length:Int)) 1=(R:Int)) (hX:X.length=R) (hY:Y.length=R) (hk:k < R) (hR16:R≤16) (dX:Dims X) (dY:Dims Y) :
  (Zh (a,b,(k:Int),X,Y,0)>>=fun (out:Unit ⊕ Unit) =>
   match out with
   | .inl _=>some ((⟨([]:(List Int)),([]:(List Int)),([]:(List Int)),([]:(List Int)),0,0,([]:(List Int))⟩:Qx),(5:Int))
   | .inr (_) =>
    idx X (k:Int)>>=fun v614 =>
    idx Y (k:Int)>>=fun v615 =>
    JH (X,(k:Int),(W (v614+v615)))>>=fun (v616:(List Int)) =>
    YR v616>>=fun (v617:Int) =>
    if v617≠0 then
     some ((⟨([]:(List Int)),([]:(List Int)),([]:(List Int)),([]:(List Int)),0,0,([]:(List Int))⟩:Qx),7)
    else
    some ((⟨X,Y,v616,([]:(List Int)),(k:Int),0,([]:(List Int))⟩:Qx),0))
  = some (if tailE X Y k=0 then ((⟨X,Y,repL X k (sumAt X Y k),[],k,0,[]⟩:Qx),0) else (rr zeroRule,tailE X Y k)):=by
 have e:=rcat_before (a:=a) (b:=b) (k:=k) (X:=X) (Y:=Y) (by rw [hX]; exact hR) (by omega) X Y [] [] rfl rfl rfl (by omega) (by simp)
 simp only [List.length_nil,Int.natCast_zero,Nat.sub_zero] at e
 rw [e]
 unfold tailE
 by_cases h:remL X k=remL Y k
 ·rw [if_pos h,if_neg (show ¬ (remL X k≠remL Y k) from fun g=>g h)]
  have i1:idx X (k:Int)=some (X.getD k 0):=idx_getD (by omega)
  have i2:idx Y (k:Int)=some (Y.getD k 0):=idx_getD (by omega)
  have b1:=getD_in (k:=k) dX (by omega)
  have b2:=getD_in (k:=k) dY (by omega)
  have w:W (X.getD k 0+Y.getD k 0)=sumAt X Y k:=by unfold sumAt; rw [W_ok (by omega) (by omega)]
  simp only [Qd,i1,i2,w,rput_ok X k _ (show k < X.length by omega) (by omega)]
  have hl:(repL X k (sumAt X Y k)).length≤1000:=by rw [rep_len (by omega)]; omega
  simp only [Check_ok _ (Sm_le hl),Qd]
  by_cases hc:checkR (repL X k (sumAt X Y k))=0
  ·simp only [hc,ne_eq,not_true_eq_false,if_false,if_true]
  ·simp only [hc,ne_eq,not_false_eq_true,if_true,show ¬ ((7:Int)=0) by decide,if_false]; rfl
 ·rw [if_neg h,if_pos (show remL X k≠remL Y k from h)]
  rfl
theorem rCat_ok {p0:Int} {a b:List Int} (hp:-1≤p0) (la:a.length≤16) (lb:b.length≤16) (da:Dims a) (db:Dims b):XO (p0,a,b)=some (rr (catR p0 a b).1,(catR p0 a b).2):=by
 unfold catR
 obtain ⟨R,hRdef⟩:∃ R,R=max (max a.length b.length) 1:=⟨_,rfl⟩
 have hR:(max (max (a.length:Int) (b.length:Int)) 1)=(R:Int):=by omega
 have hR16:R≤16:=by omega
 have wR:W ((R:Int) - 1)=(R:Int) - 1:=W_ok (by omega) (by omega)
 simp only [← hRdef]
 unfold XO
 simp only [hR,wR,ite_som,Qd]
 by_cases hbig:p0≥(R:Int)
 ·rw [if_pos hbig,if_pos hbig]; rfl
 obtain ⟨k,hk⟩:∃ k:Nat,(k:Int)=if p0=-1 then (R:Int) - 1 else p0:=by
  by_cases h:p0=-1
  ·exact ⟨R - 1,by rw [if_pos h]; omega⟩
  ·exact ⟨p0.toNat,by rw [if_neg h]; omega⟩
 have hkR:k < R:=by by_cases h:p0=-1 <;> simp [h] at hk <;> omega
 have hax:(if p0 < 0 then (R:Int) - 1 else p0)=(k:Int):=by
  rw [hk]
  by_cases h:p0=-1
  ·rw [if_pos (by omega),if_pos h]
  ·rw [if_neg (by omega),if_neg h]
 rw [if_neg hbig,if_neg hbig,← hk,Int.toNat_natCast]
 simp only [hax]
 have hlow:(if (b.length:Int) < (a.length:Int) then (b.length:Int) else (a.length:Int))=((min a.length b.length:Nat):Int):=by split <;> omega
 simp only [hlow]
 by_cases hbad:(a.length≠R∧a.length+1≠R∧a.length≠0)∨(b.length≠R∧b.length+1≠R∧b.length≠0)
 ·rw [if_pos hbad]
  have h1:((min a.length b.length:Nat):Int) < (R:Int) - 1:=by omega
  have h2:((min a.length b.length:Nat):Int) > 0:=by omega
  simp only [if_pos h1,decide_eq_true h2,if_true]
  rfl
 rw [if_neg hbad]
 have hf:(if ((min a.length b.length:Nat):Int) < (R:Int) - 1 then decide (((min a.length b.length:Nat):Int) > 0) else false)=false:=by
  split
  ·rw [decide_eq_false]; omega
  ·rfl
 simp only [hf,Bool.false_eq_true,if_false]
 have key:∀ X Y:List Int,X=widR a b R k→Y=widR b a R k→X.length=R→Y.length=R→Dims X→Dims Y →
   some (if tailE X Y k=0 then ((⟨X,Y,repL X k (sumAt X Y k),[],k,0,[]⟩:Qx),(0:Int)) else (rr zeroRule,tailE X Y k)) =
   some (rr (if tailE (widR a b R k) (widR b a R k) k=0 then ((⟨widR a b R k,widR b a R k,repL (widR a b R k) k (sumAt (widR a b R k) (widR b a R k) k),[],k,0,[]⟩:Qt),(0:Int)) else (zeroRule,tailE (widR a b R k) (widR b a R k) k)).1,
    (if tailE (widR a b R k) (widR b a R k) k=0 then ((⟨widR a b R k,widR b a R k,repL (widR a b R k) k (sumAt (widR a b R k) (widR b a R k) k),[],k,0,[]⟩:Qt),(0:Int)) else (zeroRule,tailE (widR a b R k) (widR b a R k) k)).2):=by
  intro X Y e1 e2 _ _ _ _
  subst e1; subst e2
  split <;> rfl
 have lX:(widR a b R k).length=R:=widR_len hkR (by omega)
 have lY:(widR b a R k).length=R:=widR_len hkR (by omega)
 have dX:=widR_dims (R:=R) (k:=k) da db
 have dY:=widR_dims (R:=R) (k:=k) db da
 rw [← key _ _ rfl rfl lX lY dX dY,← rCat_tail (p0:=p0) (widR a b R k) (widR b a R k) hR lX lY hkR hR16 dX dY]
 simp only [ite_som]
 by_cases ha:a.length=R
 ·have e1:¬ ((a.length:Int)=(R:Int) - 1):=by omega
  have w1:widR a b R k=a:=by unfold widR; rw [if_pos ha]
  simp only [e1,if_false,Qd,w1,if_neg (show ¬ ((a.length:Int) < (R:Int)) by omega)]
  by_cases hb:b.length=R
  ·have w2:widR b a R k=b:=by unfold widR; rw [if_pos hb]
   simp only [if_neg (show ¬ ((b.length:Int)=(R:Int) - 1) by omega),Qd,w2,if_neg (show ¬ ((b.length:Int) < (R:Int)) by omega)]
   try rfl
  ·by_cases hb1:b.length+1=R
   ·have w2:widR b a R k=insL b k 1:=by unfold widR; rw [if_neg hb,if_pos hb1]
    have hl:(insL b k 1).length=R:=by rw [insL_len]; omega
    simp only [if_pos (show ((b.length:Int)=(R:Int) - 1) by omega),rIns_ok b k 1 (by omega) (by omega),Qd,w2,if_neg (show ¬ (((insL b k 1).length:Int) < (R:Int)) by omega)]
    try rfl
   ·have w2:widR b a R k=repL a k 1:=by unfold widR; rw [if_neg hb,if_neg hb1]
    simp only [if_neg (show ¬ ((b.length:Int)=(R:Int) - 1) by omega),Qd,w2,if_pos (show ((b.length:Int) < (R:Int)) by omega),rput_ok a k 1 (by omega) (by omega)]
    try rfl
 ·by_cases ha1:a.length+1=R
  ·have w1:widR a b R k=insL a k 1:=by unfold widR; rw [if_neg ha,if_pos ha1]
   have hl:(insL a k 1).length=R:=by rw [insL_len]; omega
   simp only [if_pos (show ((a.length:Int)=(R:Int) - 1) by omega),rIns_ok a k 1 (by omega) (by omega),Qd,w1,if_neg (show ¬ (((insL a k 1).length:Int) < (R:Int)) by omega)]
   by_cases hb:b.length=R
   ·have w2:widR b a R k=b:=by unfold widR; rw [if_pos hb]
    simp only [if_neg (show ¬ ((b.length:Int)=(R:Int) - 1) by omega),Qd,w2,if_neg (show ¬ ((b.length:Int) < (R:Int)) by omega)]
    try rfl
   ·have hb1:b.length+1=R:=by omega
    have w2:widR b a R k=insL b k 1:=by unfold widR; rw [if_neg hb,if_pos hb1]
    have hl2:(insL b k 1).length=R:=by rw [insL_len]; omega
    simp only [if_pos (show ((b.length:Int)=(R:Int) - 1) by omega),rIns_ok b k 1 (by omega) (by omega),Qd,w2,if_neg (show ¬ (((insL b k 1).length:Int) < (R:Int)) by omega)]
    try rfl
  ·have hb:b.length=R:=by omega
   have w1:widR a b R k=repL b k 1:=by unfold widR; rw [if_neg ha,if_neg ha1]
   have w2:widR b a R k=b:=by unfold widR; rw [if_pos hb]
   simp only [if_neg (show ¬ ((a.length:Int)=(R:Int) - 1) by omega),if_neg (show ¬ ((b.length:Int)=(R:Int) - 1) by omega),Qd,w1,w2,if_pos (show ((a.length:Int) < (R:Int)) by omega),if_neg (show ¬ ((b.length:Int) < (R:Int)) by omega),rput_ok b k 1 (by omega) (by omega)]
   try rfl
theorem rdim_L1 (sc:Bool):∀ (s p:List Int),(p++s).length≤1000→ZJ (⟨p++s,sc⟩,(p.length:Int))=some (if negB s then .inl () else .inr ())
 | [],p,hs=>by rw [ZJ]; simp only [Z4,if_false]; simp [negB]
 | x::s,p,hs=>by
  have ih:=rdim_L1 sc s (p++[x]) (by rw [← Qz]; exact hs)
  rw [← Qz] at ih
  rw [ZJ]
  simp only [Zi,if_true,QR,Qd,mid_W (Sm_le hs),ih,negB_cons]
  by_cases h:x < 0 <;> simp [h]
theorem rdim_L2 (sc:Bool):∀ (s p:List Int),(p++s).length≤1000→p.length≤16 →
  (((p++s).length > 16∨bigB s=true)→∃ x,Zv (⟨p++s,sc⟩,p,(p.length:Int))=some (.inl x)) ∧
  (¬ ((p++s).length > 16∨bigB s=true)→Zv (⟨p++s,sc⟩,p,(p.length:Int))=some (.inr (p++s)))
 | [],p,hs,hp=>by
  refine ⟨fun h=>?_,fun _=>?_⟩
  ·rcases h with h|h
   ·simp at h; omega
   ·simp [bigB] at h
  ·rw [Zv]; simp only [Z4,if_false]; simp only [List.append_nil]
 | x::s,p,hs,hp=>by
  have hl:(p++x::s).length≤1000:=hs
  rw [Zv]
  simp only [Zi,if_true,QR,Qd,ite_som]
  by_cases h1:(p.length:Int)≥16
  ·simp only [h1,if_true]
   exact ⟨fun _=>⟨_,rfl⟩,fun h=>absurd (Or.inl (by simp; omega)) h⟩
  by_cases h2:x > 65536
  ·simp only [h1,if_false,h2,decide_true,if_true]
   exact ⟨fun _=>⟨_,rfl⟩,fun h=>absurd (Or.inr (by rw [bigB_cons]; simp [h2])) h⟩
  have ih:=rdim_L2 sc s (p++[x]) (by rw [← Qz]; exact hs) (by simp; omega)
  rw [← Qz] at ih
  simp only [h1,if_false,h2,decide_false,Bool.false_eq_true,app1 (show p.length≤100000 by omega),Qd,mid_W (Sm_le hs),bigB_cons,Bool.false_or]
  exact ih
theorem rDims_ok (l:List Int) (sc:Bool) (hl:l.length≤1000):XV ⟨l,sc⟩=some (if checkR l=0 then (l,0) else ([],checkR l)):=by
 have e1:=rdim_L1 sc l [] (by simpa using hl)
 obtain ⟨e2,e3⟩:=rdim_L2 sc l [] (by simpa using hl) (by simp)
 simp only [List.nil_append,List.length_nil,Int.natCast_zero] at e1 e2 e3
 unfold XV
 simp only [e1]
 cases hn:negB l
 ·simp only [Bool.false_eq_true,if_false,Qd]
  by_cases hb:l.length > 16∨bigB l=true
  ·obtain ⟨x,e⟩:=e2 hb
   have hc:checkR l=7:=by
    unfold checkR; rw [hn,if_neg (by decide),if_pos]
    rcases hb with h|h
    ·exact .inl h
    ·exact .inr (.inl h)
   simp only [e,Qd,hc,show ¬ ((7:Int)=0) by decide,if_false]
  ·simp only [e3 hb,Qd,Check_ok l (Sm_le hl)]
   by_cases hc:checkR l=0
   ·simp only [hc,ne_eq,not_true_eq_false,if_false,if_true]
   ·simp only [hc,ne_eq,not_false_eq_true,if_true,if_false]
 ·have hc:checkR l=6:=by unfold checkR; rw [hn,if_pos rfl]
  simp only [if_true,Qd,hc,show ¬ ((6:Int)=0) by decide,if_false]
theorem rResh_ok (l a:List Int) (hl:l.length≤1000):X5 (l,a)=some (rr (reshR l a).1,(reshR l a).2):=by
 unfold X5 reshR
 simp only [rDims_ok l false hl,Qd]
 by_cases hc:checkR l=0
 ·simp only [hc,if_true,ne_eq,not_true_eq_false,if_false]; rfl
 ·simp only [hc,if_false,ne_eq,not_false_eq_true,if_true]; rfl
theorem rperm_L1 (sc:Bool) (n:Nat):∀ (s p:List Int) (m:Int),n=(p++s).length→n≤1000 →
  (s.all (inR n)=false→∃ x,Zm ((n:Int),⟨p++s,sc⟩,p,m,(p.length:Int))=some (.inl x)) ∧
  (s.all (inR n)=true→Zm ((n:Int),⟨p++s,sc⟩,p,m,(p.length:Int))=some (.inr (p++s,maxF s m)))
 | [],p,m,hn,h1=>by
  refine ⟨fun h=>by simp at h,fun _=>?_⟩
  rw [Zm,hn]; simp only [Z4,if_false]; simp only [List.append_nil]; rfl
 | x::s,p,m,hn,h1=>by
  have hs:(p++x::s).length≤1000:=by omega
  have hp:p.length≤1000:=by simp at hs; omega
  have ih:=rperm_L1 sc n s (p++[x]) (if m < x then x else m) (by rw [← Qz]; exact hn) h1
  rw [← Qz] at ih
  have i2:idx (p++[x]) (p.length:Int)=some x:=QR
  have hlt:((p.length:Int) < (n:Int)):=by rw [hn]; exact Zi
  rw [Zm]
  simp only [hlt,if_true,QR,Qd,ite_som]
  have hin:inR n x=(decide (0≤x) && decide (x < (n:Int))):=rfl
  by_cases c1:x < 0
  ·simp only [c1,if_true,List.all_cons,hin,show ¬ (0≤x) by omega,decide_false,Bool.false_and]
   exact ⟨fun _=>⟨_,rfl⟩,fun h=>by cases h⟩
  by_cases c2:x≥(n:Int)
  ·simp only [c1,if_false,c2,decide_true,if_true,List.all_cons,hin,show ¬ (x < (n:Int)) by omega,decide_false,Bool.and_false,Bool.false_and]
   exact ⟨fun _=>⟨_,rfl⟩,fun h=>by cases h⟩
  simp only [c1,if_false,c2,decide_false,Bool.false_eq_true,app1 (show p.length≤100000 by omega),Qd,i2,mid_W (Sm_le hs),List.all_cons,hin,show 0≤x by omega,show x < (n:Int) by omega,decide_true,Bool.true_and]
  exact ih
theorem rperm_L3 (n:Nat) (k most:Int) (sp:Q7):∀ (s p:List Int) (f:Bool),n=(p++s).length→n≤1000→Zn ((n:Int),p++s,k,most,sp,f,(p.length:Int))=some (f || s.any (· == k))
 | [],p,f,hn,h1=>by rw [Zn,hn]; simp only [Z4,if_false]; simp
 | x::s,p,f,hn,h1=>by
  have hs:(p++x::s).length≤1000:=by omega
  have ih:=fun g=>rperm_L3 n k most sp s (p++[x]) g (by rw [← Qz]; exact hn) h1
  simp only [← Qz] at ih
  have hlt:((p.length:Int) < (n:Int)):=by rw [hn]; exact Zi
  rw [Zn]
  simp only [hlt,if_true,QR,Qd,mid_W (Sm_le hs),ih]
  cases f <;> simp
open Classical in
theorem rperm_L2 (n:Nat) (v:List Int) (most:Int) (sp:Q7) (hv:v.length=n) (hn:n≤1000) (hm:most < 1000):∀ (d k:Nat),most+1≤(k:Int)+(d:Int)→k≤2000 →
  ZF (most,(n:Int),v,sp,(k:Int))=some (if (∀ j:Nat,k≤j→(j:Int)≤most→(j:Int)∈v) then .inr () else .inl ())
 | 0,k,h,hk=>by
  rw [ZF,if_neg (by omega),if_pos (fun j h1 h2=>by omega)]
 | d+1,k,h,hk=>by
  rw [ZF]
  by_cases hc:(k:Int)≤most
  ·have e:=rperm_L3 n k most sp v [] false (by simpa using hv.symm) hn
   simp only [List.nil_append,List.length_nil,Int.natCast_zero,Bool.false_or] at e
   have ih:=rperm_L2 n v most sp hv hn hm d (k+1) (by omega) (by omega)
   have w:W ((k:Int)+1)=((k+1:Nat):Int):=W_succ (by omega)
   simp only [if_pos hc,e,Qd,w,ih]
   by_cases hin:(k:Int)∈v
   ·have hany:v.any (· == (k:Int))=true:=List.any_eq_true.2 ⟨_,hin,by simp⟩
    rw [if_neg (by rw [hany]; decide)]
    congr 1
    have hiff:(∀ j:Nat,k+1≤j→(j:Int)≤most→(j:Int)∈v)↔(∀ j:Nat,k≤j→(j:Int)≤most→(j:Int)∈v):=by
     constructor
     ·intro g j h1 h2
      by_cases e:j=k
      ·subst e; exact hin
      ·exact g j (by omega) h2
     ·intro g j h1 h2; exact g j (by omega) h2
    by_cases hg:(∀ j:Nat,k+1≤j→(j:Int)≤most→(j:Int)∈v)
    ·rw [if_pos hg,if_pos (hiff.1 hg)]
    ·rw [if_neg hg,if_neg (fun g=>hg (hiff.2 g))]
   ·have hany:v.any (· == (k:Int))=false:=by
     rw [List.any_eq_false]; intro y hy; simp; intro e; exact hin (e ▸ hy)
    rw [if_pos hany,if_neg (fun g=>hin (g k (Nat.le_refl _) hc))]
  ·rw [if_neg hc,if_pos (fun j h1 h2=>by omega)]
theorem set_count {v:List Int} {M:Nat} (h0:∀ x∈v,0≤x∧x≤(M:Int)):((setOf v).length=M+1)↔∀ j:Nat,j≤M→(j:Int)∈v:=by
 have hn:=setOf_nodup v
 have hsub:∀ x∈setOf v,x∈rng (M+1):=fun x hx=>mem_rng.2 (by have:=h0 x ((mem_setOf v x).1 hx); omega)
 constructor
 ·intro h j hj
  have hp:=perm_rng (v:=setOf v) hn (fun x hx=>by have:=h0 x ((mem_setOf v x).1 hx); omega)
  exact (mem_setOf v _).1 (hp.mem_iff.2 (mem_rng.2 (by omega)))
 ·intro h
  have h1:=List.Nodup.length_le_of_subset hn hsub
  have h2:=List.Nodup.length_le_of_subset (rng_nodup (M+1)) (l₂:=setOf v) (fun x hx=>by
   have hx:=mem_rng.1 hx
   have:=h x.toNat (by omega)
   rw [show ((x.toNat:Nat):Int)=x by omega] at this
   exact (mem_setOf v x).2 this)
  simp [rng] at h1 h2
  omega
theorem maxF_neg:∀ (l:List Int),l≠[]→(∀ x∈l,0≤x)→maxF l (-1)=maxL l
 | x::s,_,h=>by
  have hx:=h x (List.mem_cons_self ..)
  show maxF s (if (-1:Int) < x then x else -1)=maxF s x
  rw [if_pos (by omega)]
theorem permE_onto {v:List Int} {n:Nat} (h1:v.length=n) (h2:∀ x∈v,0≤x∧x < (n:Int)):(n > 0∧((setOf v).length:Int)≠maxL v+1)↔¬ (∀ j:Nat,0≤j→(j:Int)≤maxF v (-1)→(j:Int)∈v):=by
 by_cases h0:v=[]
 ·subst h0
  constructor
  ·rintro ⟨h,_⟩; simp at h1; omega
  ·intro h; exact absurd (fun j _ hj=>by simp [maxF] at hj; omega) h
 ·have hm:=maxF_neg v h0 fun x hx=>(h2 x hx).1
  obtain ⟨g1,g2⟩:=maxL_ge h0
  have hM:=h2 _ g2
  obtain ⟨M,hMe⟩:=Int.eq_ofNat_of_zero_le hM.1
  have hn:n > 0:=by have:=List.length_pos_iff.2 h0; omega
  have hc:=set_count (v:=v) (M:=M) fun x hx=>⟨(h2 x hx).1,by rw [← hMe]; exact g1 x hx⟩
  rw [hm,hMe]
  constructor
  ·rintro ⟨_,hne⟩ g
   exact hne (by have:=hc.2 (fun j hj=>g j (Nat.zero_le _) (by omega)); omega)
  ·intro h
   refine ⟨hn,fun e=>h fun j _ hj=>hc.1 (by omega) j (by omega)⟩
theorem rPerm_ok (v:List Int) (sc:Bool) (n:Nat) (hn:n≤100):XH (⟨v,sc⟩,(n:Int))=some (if permE v n=0 then (v,0) else ([],permE v n)):=by
 unfold XH permE
 by_cases c1:v.length=n
 ·obtain ⟨e1,e2⟩:=rperm_L1 sc n v [] (-1) (by simpa using c1.symm) (by omega)
  simp only [List.nil_append,List.length_nil,Int.natCast_zero] at e1 e2
  simp only [if_neg (show ¬ ((v.length:Int)≠(n:Int)) by omega),if_neg (show ¬ (v.length≠n) by omega)]
  cases c2:v.all (inR n)
  ·obtain ⟨x,e⟩:=e1 c2
   simp only [e,Qd,if_true,show ¬ ((6:Int)=0) by decide,if_false]
  ·have hin:∀ x∈v,0≤x∧x < (n:Int):=fun x hx=>by have:=List.all_eq_true.1 c2 x hx; simpa [inR] using this
   have hlt:maxF v (-1) < 1000:=by
    rcases (maxF_ge v (-1)).2.2 with h|h
    ·omega
    ·have:=hin _ h; omega
   have e3:=rperm_L2 n v (maxF v (-1)) ⟨v,sc⟩ c1 (by omega) hlt 1001 0 (by omega) (by omega)
   simp only [Int.natCast_zero] at e3
   have hiff:=permE_onto c1 hin
   simp only [e2 c2,Qd,e3,Bool.true_eq_false,if_false]
   by_cases hg:(∀ j:Nat,0≤j→(j:Int)≤maxF v (-1)→(j:Int)∈v)
   ·rw [if_pos hg,if_neg (fun h=>hiff.1 h hg)]
    simp
   ·rw [if_neg hg,if_pos (hiff.2 hg)]
    simp
 ·simp only [if_pos (show ((v.length:Int)≠(n:Int)) by omega),if_pos (show v.length≠n from c1),show ¬ ((5:Int)=0) by decide,if_false]
def gmin (i:Int):Int→List Int→List Int→Int
 | acc,j::v,x::a=>gmin i (if j=i then minI acc x else acc) v a
 | acc,_,_=>acc
theorem permF_at (i:Nat):∀ (v a l:List Int),(∀ x∈v,0≤x)→(permF l v a).getD i 65536=gmin i (l.getD i 65536) v a
 | [],_,l,_=>by unfold permF gmin; rfl
 | _::_,[],l,_=>by unfold permF gmin; rfl
 | j::v,x::a,l,h=>by
  have hj:=h j (List.mem_cons_self ..)
  rw [permF,permF_at i v a _ (fun y hy=>h y (List.mem_cons_of_mem _ hy)),stepP_get,gmin]
  congr 1
  by_cases e:i=j.toNat
  ·rw [if_pos e,if_pos (show j=(i:Int) by omega),e]
  ·rw [if_neg e,if_neg (show ¬ j=(i:Int) by omega)]
theorem gmin_le_acc (i:Int):∀ (v a:List Int) (acc:Int),gmin i acc v a≤acc
 | [],_,acc=>by unfold gmin; exact Int.le_refl _
 | _::_,[],acc=>by unfold gmin; exact Int.le_refl _
 | j::v,x::a,acc=>by
  have ih:=gmin_le_acc i v a (if j=i then minI acc x else acc)
  rw [gmin]
  refine Int.le_trans ih ?_
  unfold minI
  split
  ·split <;> omega
  ·exact Int.le_refl _
theorem gmin_nonneg (i:Int):∀ (v a:List Int) (acc:Int),(∀ x∈a,0≤x)→0≤acc→0≤gmin i acc v a
 | [],_,acc,_,h=>by unfold gmin; exact h
 | _::_,[],acc,_,h=>by unfold gmin; exact h
 | j::v,x::a,acc,ha,h=>by
  have hx:=ha x (List.mem_cons_self ..)
  rw [gmin]
  refine gmin_nonneg i v a _ (fun y hy=>ha y (List.mem_cons_of_mem _ hy)) ?_
  unfold minI
  split
  ·split <;> omega
  ·exact h
def lmin (j:Int):Int→List Int→List Int→Int
 | acc,x::s,y::t=>lmin j (if x=j∧(acc < 0∨y < acc) then y else acc) s t
 | acc,_,_=>acc
theorem lmin_pos (j:Int):∀ (s t:List Int) (acc:Int),(∀ y∈t,0≤y)→0≤acc→lmin j acc s t=gmin j acc s t
 | [],_,acc,_,_=>by unfold lmin gmin; rfl
 | _::_,[],acc,_,_=>by unfold lmin gmin; rfl
 | x::s,y::t,acc,ht,h=>by
  have hy:=ht y (List.mem_cons_self ..)
  have e:(if x=j∧(acc < 0∨y < acc) then y else acc)=(if x=j then minI acc y else acc):=by
   unfold minI
   by_cases h1:x=j
   ·by_cases h2:y < acc
    ·rw [if_pos ⟨h1,.inr h2⟩,if_pos h1,if_pos h2]
    ·rw [if_neg (by omega),if_pos h1,if_neg h2]
   ·rw [if_neg (fun h=>h1 h.1),if_neg h1]
  rw [lmin,gmin,e]
  refine lmin_pos j s t _ (fun z hz=>ht z (List.mem_cons_of_mem _ hz)) ?_
  unfold minI
  split
  ·split <;> omega
  ·exact h
theorem lmin_neg (j:Int):∀ (s t:List Int),s.length=t.length→Dims t→lmin j (-1) s t=if j∈s then gmin j 65536 s t else -1
 | [],[],_,_=>by unfold lmin; rw [if_neg (by simp)]
 | x::s,y::t,h,ht=>by
  have hy:=ht y (List.mem_cons_self ..)
  have ht':Dims t:=fun z hz=>ht z (List.mem_cons_of_mem _ hz)
  rw [lmin,gmin]
  by_cases h1:x=j
  ·have e:minI 65536 y=y:=by unfold minI; split <;> omega
   rw [if_pos ⟨h1,.inl (by omega)⟩,if_pos (show j∈x::s by rw [h1]; exact List.mem_cons_self ..),if_pos h1,e,lmin_pos j s t y (fun z hz=>(ht' z hz).1) hy.1]
  ·rw [if_neg (fun h=>h1 h.1),if_neg h1,lmin_neg j s t (by simpa using h) ht']
   have:j∈x::s↔j∈s:=by rw [List.mem_cons]; exact ⟨fun h=>h.resolve_left fun e=>h1 e.symm,.inr⟩
   by_cases h2:j∈s
   ·rw [if_pos h2,if_pos (this.2 h2)]
   ·rw [if_neg h2,if_neg (fun h=>h2 (this.1 h))]
 | [],_::_,h,_=>by cases h
 | _::_,[],h,_=>by cases h
theorem rpm_L2 (j:Int) (A:List Int):∀ (s t p q:List Int) (least:Int),s.length=t.length→p.length=q.length→(q++t).length≤1000 →
  ZL (q++t,p++s,j,A,least,(q.length:Int))=some (lmin j least s t)
 | [],[],p,q,least,_,_,_=>by rw [ZL]; simp only [Z4,if_false]; rfl
 | x::s,y::t,p,q,least,h1,h2,hs=>by
  have ih:=fun l=>rpm_L2 j A s t (p++[x]) (q++[y]) l (by simpa using h1) (by simp [h2]) (by rw [← Qz]; exact hs)
  simp only [← Qz] at ih
  have i2:idx (p++x::s) (q.length:Int)=some x:=by rw [← h2]; exact QR
  rw [ZL,lmin]
  simp only [Zi,if_true,QR,i2,Qd,ite_som,mid_W (Sm_le hs),ih]
  by_cases c1:x=j
  ·by_cases c2:least < 0
   ·simp [c1,c2]
   ·by_cases c3:y < least <;> simp [c1,c2,c3]
  ·simp [c1]
 | [],_::_,_,_,_,h,_,_=>by cases h
 | _::_,[],_,_,_,h,_,_=>by cases h
def rl (v a:List Int):Nat→Nat→List Int
 | 0,_=>[]
 | d+1,j=>(if (j:Int)∈v then [gmin j 65536 v a] else [])++rl v a d (j+1)
theorem rpm_L1 (v a:List Int) (hva:v.length=a.length) (ha:a.length≤16) (hd:Dims a):∀ (d j:Nat) (A:List Int),j+d=a.length→A.length≤j→ZK (a,v,A,(j:Int))=some (A++rl v a d j)
 | 0,j,A,h,_=>by
  rw [ZK,if_neg (by omega)]; simp [rl]
 | d+1,j,A,h,hA=>by
  have e:=rpm_L2 (j:Int) A v a [] [] (-1) hva rfl (by simp; omega)
  simp only [List.nil_append,List.length_nil,Int.natCast_zero] at e
  have w:W ((j:Int)+1)=((j+1:Nat):Int):=W_succ (by omega)
  rw [ZK,if_pos (by omega)]
  simp only [e,Qd,lmin_neg _ v a hva hd,rl]
  by_cases hj:(j:Int)∈v
  ·have h0:=gmin_nonneg (j:Int) v a 65536 (fun x hx=>(hd x hx).1) (by omega)
   simp only [if_pos hj,if_pos (show gmin (j:Int) 65536 v a≥0 from h0),app1 (show A.length≤100000 by omega),Qd,w]
   rw [rpm_L1 v a hva ha hd d (j+1) _ (by omega) (by simp; omega)]
   simp
  ·simp only [if_neg hj,show ¬ ((-1:Int)≥0) by decide,if_false,w]
   rw [rpm_L1 v a hva ha hd d (j+1) A (by omega) (by omega)]
   simp
theorem permF_length:∀ (v a l:List Int) (m:Int),v.length=a.length→(∀ x∈v,0≤x)→(l.length:Int)=m+1→((permF l v a).length:Int)=maxF v m+1
 | [],_,l,m,_,_,h=>by unfold permF; exact h
 | _::_,[],_,_,h,_,_=>by cases h
 | j::v,x::a,l,m,h,h0,hl=>by
  have hj:=h0 j (List.mem_cons_self ..)
  rw [permF]
  refine permF_length v a _ (if m < j then j else m) (by simpa using h) (fun y hy=>h0 y (List.mem_cons_of_mem _ hy)) ?_
  rw [stepP_len]
  split <;> omega
theorem perm_onto {v a:List Int} (hp:permE v a.length=0):v.length=a.length∧(∀ x∈v,0≤x∧x < (a.length:Int))∧(∀ j:Nat,(j:Int)∈v↔j < (permL v a).length):=by
 obtain ⟨h1,h2,h3⟩:=permE_zero hp
 have hl:=permF_length v a [] (-1) h1 (fun x hx=>(h2 x hx).1) (by simp)
 have hon:=permE_onto h1 h2
 have hall:∀ j:Nat,0≤j→(j:Int)≤maxF v (-1)→(j:Int)∈v:=by
  rcases Classical.em (∀ j:Nat,0≤j→(j:Int)≤maxF v (-1)→(j:Int)∈v) with h|h
  ·exact h
  ·obtain ⟨g1,g2⟩:=hon.2 h
   exact absurd (h3 g1) g2
 refine ⟨h1,h2,fun j=>⟨fun hj=>?_,fun hj=>hall j (Nat.zero_le _) ?_⟩⟩
 ·have:=(maxF_ge v (-1)).2.1 _ hj
  show j < (permF [] v a).length
  omega
 ·have:j < (permF [] v a).length:=hj
  omega
theorem permL_at {v a:List Int} (hp:permE v a.length=0) {j:Nat} (hj:j < (permL v a).length):(permL v a)[j]=gmin j 65536 v a:=by
 have h:=permF_at j v a [] (fun x hx=>((perm_onto hp).2.1 x hx).1)
 have e:(permL v a).getD j 65536=(permL v a)[j]:=by rw [List.getD_eq_getElem?_getD,List.getElem?_eq_getElem hj]; rfl
 rw [← e]
 exact h
theorem rl_eq {v a:List Int} (hp:permE v a.length=0):∀ (d j:Nat),j+d=a.length→(permL v a).length≤a.length→rl v a d j=(permL v a).drop j
 | 0,j,h,hl=>by rw [rl,List.drop_of_length_le (by omega)]
 | d+1,j,h,hl=>by
  rw [rl,rl_eq hp d (j+1) (by omega) hl]
  have hon:=(perm_onto hp).2.2 j
  by_cases hj:j < (permL v a).length
  ·rw [if_pos (hon.2 hj),List.drop_eq_getElem_cons hj,permL_at hp hj]; rfl
  ·rw [if_neg (fun h=>hj (hon.1 h)),List.drop_of_length_le (by omega),List.drop_of_length_le (by omega)]; rfl
theorem permL_len {v a:List Int} (hp:permE v a.length=0):(permL v a).length≤a.length:=by
 obtain ⟨h1,h2,h3⟩:=perm_onto hp
 refine Nat.le_of_not_lt fun h=>?_
 have:=h2 _ ((h3 a.length).2 h)
 omega
theorem rpermuted_ok {v a:List Int} (hp:permE v a.length=0) (ha:checkR a=0):XP (v,a)=some ⟨[],a,permL v a,[],-1,0,v⟩:=by
 obtain ⟨c1,c2,_⟩:=checkR_zero.1 ha
 have e:=rpm_L1 v a (perm_onto hp).1 c2 c1 a.length 0 [] (by omega) (by simp)
 simp only [Int.natCast_zero,List.nil_append] at e
 unfold XP
 simp only [e,Qd,rl_eq hp a.length 0 (by omega) (permL_len hp),List.drop_zero]
def pf (c:Int→Bool):List Int→List Int→Int
 | j::v,x::a=>(if c j then x else 1) * pf c v a
 | _,_=>1
theorem pf_pos (c:Int→Bool):∀ (v a:List Int),(∀ x∈a,1≤x)→1≤pf c v a
 | [],_,_=>by unfold pf; omega
 | _::_,[],_=>by unfold pf; omega
 | j::v,x::a,h=>by
  have ih:=pf_pos c v a (fun y hy=>h y (List.mem_cons_of_mem _ hy))
  have hx:=h x (List.mem_cons_self ..)
  have h1:(1:Int)≤(if c j then x else 1):=by split <;> omega
  rw [pf]
  have:=Int.mul_le_mul h1 ih (by omega) (by omega)
  omega
theorem pf_le (c:Int→Bool):∀ (v a:List Int),(∀ x∈a,1≤x)→pf c v a≤prodI a
 | [],a,h=>by unfold pf; exact prodI_pos h
 | _::_,[],_=>by unfold pf; rw [prodI_nil]; omega
 | j::v,x::a,h=>by
  have h':∀ y∈a,1≤y:=fun y hy=>h y (List.mem_cons_of_mem _ hy)
  have ih:=pf_le c v a h'
  have hx:=h x (List.mem_cons_self ..)
  have h1:(if c j then x else 1)≤x:=by split <;> omega
  rw [pf,prodI_cons]
  exact Int.mul_le_mul h1 ih (by have:=pf_pos c v a h'; omega) (by omega)
theorem pf_split (m:Nat):∀ (v a:List Int),pf (fun y=>decide (y < ((m+1:Nat):Int))) v a=pf (fun y=>decide (y < (m:Int))) v a * pf (fun y=>decide (y=(m:Int))) v a
 | [],_=>by simp [pf]
 | _::_,[]=>by simp [pf]
 | j::v,x::a=>by
  rw [pf,pf,pf,pf_split m v a]
  rcases Int.lt_trichotomy j (m:Int) with h|h|h
  ·simp only [show j < ((m+1:Nat):Int) by omega,h,show ¬ j=(m:Int) by omega,decide_true,decide_false,if_true,Bool.false_eq_true,if_false,Int.one_mul,Int.mul_assoc]
  ·simp only [show j < ((m+1:Nat):Int) by omega,h,show ¬ (m:Int) < (m:Int) by omega,decide_true,decide_false,if_true,Bool.false_eq_true,if_false,Int.one_mul,show (m:Int) < ((m+1:Nat):Int) by omega]
   exact Int.mul_left_comm _ _ _
  ·simp only [show ¬ j < ((m+1:Nat):Int) by omega,show ¬ j < (m:Int) by omega,show ¬ j=(m:Int) by omega,decide_false,Bool.false_eq_true,if_false,Int.one_mul]
theorem gmin_pf (m:Int):∀ (v a:List Int) (acc:Int),v.length=a.length→(∀ x∈a,1≤x)→m∈v→gmin m acc v a≤pf (fun y=>decide (y=m)) v a
 | [],_,_,_,_,h=>by cases h
 | _::_,[],_,h,_,_=>by cases h
 | j::v,x::a,acc,hl,ha,h=>by
  have ha':∀ y∈a,1≤y:=fun y hy=>ha y (List.mem_cons_of_mem _ hy)
  have hx:=ha x (List.mem_cons_self ..)
  have hp:=pf_pos (fun y=>decide (y=m)) v a ha'
  rw [gmin,pf]
  by_cases e:j=m
  ·simp only [e,decide_true,if_true]
   have h1:=gmin_le_acc m v a (minI acc x)
   have h2:minI acc x≤x:=by unfold minI; split <;> omega
   have h3:=Int.mul_le_mul (Int.le_refl x) hp (by omega) (by omega)
   rw [Int.mul_one] at h3
   omega
  ·have hm:m∈v:=by
    rcases List.mem_cons.1 h with h|h
    ·exact absurd h.symm e
    ·exact h
   simp only [e,decide_false,Bool.false_eq_true,if_false,Int.one_mul]
   exact gmin_pf m v a acc (by simpa using hl) ha' hm
theorem gmin_zero (m:Int):∀ (v a:List Int) (acc:Int) (k:Nat) (hk:k < a.length) (hv:k < v.length),v[k]=m→gmin m acc v a≤a[k]
 | [],_,_,k,_,hv,_=>by simp at hv
 | _::_,[],_,k,hk,_,_=>by simp at hk
 | j::v,x::a,acc,0,hk,hv,e=>by
  have e:j=m:=e
  rw [gmin,if_pos e]
  have h1:=gmin_le_acc m v a (minI acc x)
  have h2:minI acc x≤x:=by unfold minI; split <;> omega
  show gmin m (minI acc x) v a≤x
  omega
 | j::v,x::a,acc,k+1,hk,hv,e=>by
  rw [gmin]
  exact gmin_zero m v a _ k (by simpa using hk) (by simpa using hv) (by simpa using e)
theorem perm_prod {v a:List Int} (hp:permE v a.length=0) (h1:∀ x∈a,1≤x):∀ m:Nat,m≤(permL v a).length→prodI ((permL v a).take m)≤pf (fun y=>decide (y < (m:Int))) v a
 | 0,_=>by rw [List.take_zero,prodI_nil]; exact pf_pos _ v a h1
 | m+1,hm=>by
  obtain ⟨o1,o2,o3⟩:=perm_onto hp
  have hlt:m < (permL v a).length:=by omega
  have ih:=perm_prod hp h1 m (by omega)
  have hg:=gmin_pf (m:Int) v a 65536 o1 h1 ((o3 m).2 hlt)
  have g0:=gmin_nonneg (m:Int) v a 65536 (fun x hx=>by have:=h1 x hx; omega) (by omega)
  have p0:=pf_pos (fun y=>decide (y < (m:Int))) v a h1
  rw [List.take_succ_eq_append_getElem hlt,prodI_append,prodI_cons,prodI_nil,Int.mul_one,permL_at hp hlt,pf_split]
  exact Int.mul_le_mul ih hg g0 (by omega)
theorem perm_check {v a:List Int} (hp:permE v a.length=0) (ha:checkR a=0):checkR (permL v a)=0:=by
 obtain ⟨c1,c2,c3⟩:=checkR_zero.1 ha
 obtain ⟨o1,o2,o3⟩:=perm_onto hp
 have hl:=permL_len hp
 refine checkR_zero.2 ⟨fun d hd=>?_,by omega,?_⟩
 ·obtain ⟨j,hj,rfl⟩:=List.getElem_of_mem hd
  rw [permL_at hp hj]
  exact ⟨gmin_nonneg _ v a _ (fun x hx=>(c1 x hx).1) (by omega),gmin_le_acc _ v a _⟩
 ·by_cases h0:(0:Int)∈a
  ·obtain ⟨k,hk,e⟩:=List.getElem_of_mem h0
   have hkv:k < v.length:=by omega
   have hj:=o2 _ (List.getElem_mem hkv)
   obtain ⟨j,hje⟩:=Int.eq_ofNat_of_zero_le hj.1
   have hlt:j < (permL v a).length:=(o3 j).1 (by rw [← hje]; exact List.getElem_mem hkv)
   have hz:=gmin_zero (j:Int) v a 65536 k hk hkv hje
   have hn:=gmin_nonneg (j:Int) v a 65536 (fun x hx=>(c1 x hx).1) (by omega)
   have hm:(0:Int)∈permL v a:=by
    have:(permL v a)[j]=0:=by rw [permL_at hp hlt]; omega
    rw [← this]; exact List.getElem_mem hlt
   rw [prodI_zero hm]; omega
  ·have h1:∀ x∈a,1≤x:=fun x hx=>by
    have:=c1 x hx
    have hne:x≠0:=fun e=>h0 (e ▸ hx)
    omega
   have hq:=perm_prod hp h1 (permL v a).length (Nat.le_refl _)
   rw [List.take_length] at hq
   have:=pf_le (fun y=>decide (y < ((permL v a).length:Int))) v a h1
   omega
theorem rTrans_ok (v a:List Int) (ha:checkR a=0):Xw (v,a)=some (rr (transR v a).1,(transR v a).2):=by
 have hl:=(checkR_zero.1 ha).2.1
 unfold Xw transR transE
 simp only [rPerm_ok v false a.length (by omega),Qd]
 by_cases hp:permE v a.length=0
 ·simp only [hp,if_true,ne_eq,not_true_eq_false,if_false,rpermuted_ok hp ha,perm_check hp ha,Qd]; rfl
 ·simp only [hp,if_false,ne_eq,not_false_eq_true,if_true]; rfl
def revR (ax:Int) (a:List Int):Qt × Int :=
 if ax=-1 then (⟨[],a,a,[],(a.length:Int) - 1,0,[]⟩,0) else if ax≥(a.length:Int) then (zeroRule,4) else (⟨[],a,a,[],ax,0,[]⟩,0)
theorem axisOf_ok (ax:Int) (a:List Int) (hl:a.length≤16):J2 (ax,a)=some (if ax=-1 then ((a.length:Int) - 1,0) else if ax≥(a.length:Int) then (0,4) else (ax,0)):=by
 unfold J2
 have w:W ((a.length:Int) - 1)=(a.length:Int) - 1:=W_ok (by omega) (by omega)
 simp only [w]
 split
 ·rfl
 ·split <;> rfl
theorem Reverse_ok (ax:Int) {a:List Int} (ha:checkR a=0):Qat (ax,a)=some (revR ax a):=by
 have hl:=(checkR_zero.1 ha).2.1
 have hm:∀ x,Je (a,x,0)=some (.inr (a,a)):=fun x=>by
  unfold Je
  simp only [shapeCheck_ok a (Sm_le (by omega)),Qd,ha,ne_eq,not_true_eq_false,if_false,Clone_ok a (by omega)]
  rfl
 unfold Qat revR
 simp only [axisOf_ok ax a hl,Qd]
 by_cases h1:ax=-1
 ·subst h1
  simp only [if_true,ne_eq,not_true_eq_false,if_false,Xg,Qd,hm]
 by_cases h2:ax≥(a.length:Int)
 ·simp only [h1,h2,if_true,if_false,ne_eq,failed_ok,Qd]; rfl
 ·simp only [h1,h2,if_false,ne_eq,not_true_eq_false,Xg,Qd,hm]
theorem rReverse_ok {ax:Int} (hax:-1≤ax) {a:List Int} (hl:a.length≤16):XE (ax,a)=some (rr (revR ax a).1,(revR ax a).2):=by
 unfold XE revR
 have w:W ((a.length:Int) - 1)=(a.length:Int) - 1:=W_ok (by omega) (by omega)
 simp only [w]
 by_cases h1:ax=-1
 ·subst h1
  have h2:¬ ((-1:Int)≥(a.length:Int)):=by omega
  simp only [h2,if_false,show (-1:Int) < 0 from by decide,if_true,Qd]; rfl
 by_cases h2:ax≥(a.length:Int)
 ·simp only [h1,h2,if_true,if_false]; rfl
 ·have h3:¬ ax < 0:=by omega
  simp only [h1,h2,h3,if_false,Qd]; rfl
theorem revR_axis {ax:Int} (hax:-1≤ax) {a:List Int}:-1≤(revR ax a).1.axis∧((revR ax a).2=0→(revR ax a).1.axis < (a.length:Int)):=by
 unfold revR
 split
 ·exact ⟨by show -1≤(a.length:Int) - 1; omega,fun _=>by show (a.length:Int) - 1 < _; omega⟩
 ·split
  ·exact ⟨by show -1≤(0:Int); omega,fun h=>by cases h⟩
  ·exact ⟨hax,fun _=>by show ax < _; omega⟩
theorem okR_rev {ax:Int} {a:List Int} (ha:checkR a=0):okR (revR ax a).1:=by
 unfold revR
 split
 ·exact ⟨check_nil,ha,ha⟩
 ·split
  ·exact okR_zero
  ·exact ⟨check_nil,ha,ha⟩
theorem tmod_emod (x d:Int):x.tmod d % d=x % d:=by
 have h:=Int.mul_tdiv_add_tmod x d
 generalize x.tmod d=r at h
 rw [← h,Int.add_comm,Int.add_mul_emod_self_left]
def modI (x d:Int):Int:=if d≤0 then 0 else x % d
theorem sMod_ok (x d:Int) (hd:d≤65536):QbD (x,d)=some (modI x d):=by
 unfold QbD modI
 by_cases h:d≤0
 ·simp only [h,if_true]
 ·have hp:0 < d:=by omega
  simp only [h,if_false,remM,if_neg (show ¬ d=0 by omega),Qd]
  have h1:=Int.tmod_lt_of_pos x hp
  have h2:-d < x.tmod d:=by
   have:=Int.lt_tmod_of_pos x hp
   omega
  have e:x.tmod d % d=x % d:=tmod_emod x d
  by_cases h3:x.tmod d < 0
  ·rw [if_pos h3,W_ok (by omega) (by omega),← e,← Int.add_emod_right,Int.emod_eq_of_lt (by omega) (by omega)]
  ·rw [if_neg h3,← e,Int.emod_eq_of_lt (by omega) h1]
theorem rmod_ok {x d:Int} (hp:0 < d) (hd:d≤65536):(remM x d>>=fun v=>remM (W (v+d)) d>>=fun w=>some w)=some (modI x d):=by
 unfold modI
 have h1:=Int.tmod_lt_of_pos x hp
 have h2:-d < x.tmod d:=Int.lt_tmod_of_pos x hp
 have e:x.tmod d % d=x % d:=tmod_emod x d
 simp only [remM,if_neg (show ¬ d=0 by omega),Qd,if_neg (show ¬ d≤0 by omega)]
 rw [W_ok (by omega) (by omega),Int.tmod_eq_emod_of_nonneg (by omega),Int.add_emod_right,e]
def rotR (v:List Int) (ax:Int) (a:List Int):Qt × Int :=
 if v.length≠1 then (zeroRule,5) else if (revR ax a).2≠0 then (zeroRule,(revR ax a).2) else
 (⟨[],a,a,[],(revR ax a).1.axis,if (revR ax a).1.axis < 0 then 0 else modI (v.getD 0 0) (a.getD (revR ax a).1.axis.toNat 0),[]⟩,0)
theorem Rotate_ok (v:List Int) (sc:Bool) {ax:Int} (hax:-1≤ax) {a:List Int} (hv:v.length≤1000) (ha:checkR a=0):Qa0 (⟨v,sc⟩,ax,a)=some (rotR v ax a):=by
 obtain ⟨hd,hl,_⟩:=checkR_zero.1 ha
 have hm1:Xz (a,v,sc)=some (.inr (a,a)):=by
  unfold Xz
  simp only [shapeCheck_ok a (Sm_le (by omega)),Qd,ha,ne_eq,not_true_eq_false,if_false,Clone_ok a (by omega)]
 have hm2:∀ x y,Xy (a,v,sc,x,y)=some (.inr (a,a)):=fun x y=>by
  unfold Xy
  simp only [shapeCheck_ok a (Sm_le (by omega)),Qd,ha,ne_eq,not_true_eq_false,if_false,Clone_ok a (by omega)]
  rfl
 unfold Qa0 rotR Qdn JC
 dsimp only
 by_cases h1:v.length=1
 case neg =>
  have h1':(v.length:Int)≠1:=by omega
  simp only [h1',h1,ne_eq,not_false_eq_true,if_true,Qd,show ¬ (5:Int)=0 from by decide,failed_ok]
 obtain ⟨x,rfl⟩:∃ x,v=[x]:=List.length_eq_one_iff.1 h1
 have e1:(([x]:List Int).length:Int)=1:=rfl
 have e2:idx [x] 0=some x:=rfl
 have ea:=revR_axis hax (a:=a)
 simp only [e1,ne_eq,not_true_eq_false,if_false,Clone64_ok [x] (by simp),Qd,e2,axisOf_ok ax a hl,List.length_singleton]
 have key:∀ k:Int,-1≤k→k < (a.length:Int)→(if k < 0 then
   (Xz (a,[x],sc)>>=fun out=>match out with
    | .inl v9=>some ((⟨[],[],[],[],0,0,[]⟩:Qt),v9)
    | .inr (v10,v11)=>some ((⟨[],v10,v11,[],-1,0,[]⟩:Qt),0))
   else idx a k>>=fun v12=>QbD (x,v12)>>=fun v13=>Xg (k,v13)>>=fun p=>match p with
    | (v14,v15)=>Xy (a,[x],sc,v14,v15)>>=fun out=>match out with
     | .inl v16=>some ((⟨[],[],[],[],0,0,[]⟩:Qt),v16)
     | .inr (v17,v18)=>some ((⟨[],v17,v18,[],v14,v15,[]⟩:Qt),0)) =
   some (⟨[],a,a,[],k,if k < 0 then 0 else modI ([x].getD 0 0) (a.getD k.toNat 0),[]⟩,0):=fun k k1 k2=>by
  by_cases hk:k < 0
  ·have:k=-1:=by omega
   subst this
   simp only [hk,if_true,hm1,Qd]
  ·obtain ⟨j,rfl⟩:=Int.eq_ofNat_of_zero_le (show 0≤k by omega)
   have hj:j < a.length:=by omega
   have hdj:=hd a[j] (List.getElem_mem hj)
   simp only [hk,if_false,idx_ok hj,Qd,sMod_ok x a[j] hdj.2,Xg,hm2,Int.toNat_natCast,getD_el hj]
   rfl
 unfold revR at ea ⊢
 by_cases h2:ax=-1
 ·simp only [h2,if_true] at ea ⊢
  simp only [ne_eq,not_true_eq_false,if_false]
  exact key _ ea.1 (ea.2 trivial)
 by_cases h3:ax≥(a.length:Int)
 ·simp only [h2,h3,if_true,if_false,ne_eq,failed_ok,Qd]; rfl
 ·simp only [h2,h3,if_false] at ea ⊢
  simp only [ne_eq,not_true_eq_false,if_false]
  exact key _ ea.1 (ea.2 trivial)
theorem rRotate_ok (v:List Int) {ax:Int} (hax:-1≤ax) {a:List Int} (ha:checkR a=0):Jz (v,ax,a)=some (rr (rotR v ax a).1,(rotR v ax a).2):=by
 obtain ⟨hd,hl,_⟩:=checkR_zero.1 ha
 unfold Jz rotR
 dsimp only
 by_cases h1:v.length=1
 case neg =>
  have h1':(v.length:Int)≠1:=by omega
  simp only [h1',h1,ne_eq,not_false_eq_true,if_true]; rfl
 obtain ⟨x,rfl⟩:∃ x,v=[x]:=List.length_eq_one_iff.1 h1
 have e1:(([x]:List Int).length:Int)=1:=rfl
 have e2:idx [x] 0=some x:=rfl
 have ea:=revR_axis hax (a:=a)
 simp only [e1,ne_eq,not_true_eq_false,if_false,rReverse_ok hax hl,Qd,List.length_singleton,show ((1:Nat):Int)=1 from rfl]
 have hsh:(revR ax a).2=0→(revR ax a).1=⟨[],a,a,[],(revR ax a).1.axis,0,[]⟩:=by
  unfold revR
  split
  ·exact fun _=>rfl
  ·split
   ·exact fun h=>by cases h
   ·exact fun _=>rfl
 have hz:(revR ax a).2≠0→(revR ax a).1=zeroRule:=by
  unfold revR
  split
  ·exact fun h=>absurd rfl h
  ·split
   ·exact fun _=>rfl
   ·exact fun h=>absurd rfl h
 generalize hq:revR ax a=q at ea hsh hz ⊢
 obtain ⟨r,e⟩:=q
 simp only at ea hsh hz ⊢
 by_cases he:e=0
 ·subst he
  have hr:=hsh rfl
  have hk:=ea.2 rfl
  have h3:(rr r).axis=r.axis:=rfl
  simp only [if_true,not_true_eq_false,if_false,h3]
  by_cases h0:r.axis < 0
  ·have hng:¬ r.axis≥0:=by omega
   simp only [decide_eq_false hng,Qd,Bool.false_eq_true,if_false,h0,if_true]
   rw [hr]; rfl
  ·obtain ⟨j,hj⟩:=Int.eq_ofNat_of_zero_le (show 0≤r.axis by omega)
   have hja:j < a.length:=by omega
   have hdj:=hd a[j] (List.getElem_mem hja)
   have hge:r.axis≥0:=by omega
   simp only [decide_eq_true hge,Qd,if_true,h0,if_false]
   rw [hj]
   simp only [idx_ok hja,Qd,Int.toNat_natCast,getD_el hja]
   by_cases hp:a[j] > 0
   ·simp only [decide_eq_true hp,if_true,e2,Qd]
    have:=rmod_ok (x:=x) (show 0 < a[j] by omega) hdj.2
    rw [this,Qd,hr,hj]; rfl
   ·have hm:modI x a[j]=0:=if_pos (by omega)
    simp only [decide_eq_false hp,Bool.false_eq_true,if_false,Qd]
    rw [hr,hj]
    show some (_,_)=some (rr ⟨[],a,a,[],_,modI x a[j],[]⟩,0)
    rw [hm]; rfl
 ·rw [hz he]
  simp only [he,not_false_eq_true,if_true,if_false,Qd,Bool.false_eq_true]
  try rfl
theorem okR_rot {v:List Int} {ax:Int} {a:List Int} (ha:checkR a=0):okR (rotR v ax a).1:=by
 unfold rotR
 split
 ·exact okR_zero
 ·split
  ·exact okR_zero
  ·exact ⟨check_nil,ha,ha⟩
def ravR (a:List Int):Qt:=⟨[],a,[cellsR a],[],-1,0,[]⟩
theorem cells_check {a:List Int} (ha:checkR a=0):checkR [cellsR a]=0:=by
 obtain ⟨h1,h2,h3⟩:=checkR_zero.1 ha
 have hc:cellsR a=prodI a:=if_pos ha
 have h0:0≤prodI a:=prodI_nonneg fun x hx=>(h1 x hx).1
 rw [hc]
 refine checkR_zero.2 ⟨fun x hx=>?_,by simp,?_⟩
 ·simp only [List.mem_singleton] at hx; subst hx; exact ⟨h0,h3⟩
 ·show prodI [prodI a]≤_; simp [prodI] at h3 ⊢; exact h3
theorem shapeCells_ok (l:List Int) (hs:Sm l.length):J3 l=some (cellsR l):=by
 unfold J3 cellsR
 simp only [shapeCheck_ok l hs,Qd]
 by_cases h:checkR l=0
 ·simp only [h,ne_eq,not_true_eq_false,if_false,if_true,sProduct_ok l hs,Qd]
  obtain ⟨h1,h2,h3⟩:=checkR_zero.1 h
  have hn:negB l=false:=by
   cases e:negB l with
   | false=>rfl
   | true=>unfold checkR at h; rw [e] at h; cases h
  have hb:bigB l=false:=by
   cases e:bigB l with
   | false=>rfl
   | true=>unfold checkR at h; rw [hn,e] at h; simp at h
  unfold prodR
  rw [hn,hb]
  simp only [Bool.false_eq_true,if_false,show ¬ prodI l > 65536 by omega]
 ·simp only [h,ne_eq,not_false_eq_true,if_true,if_false]
theorem Ravel_ok {a:List Int} (ha:checkR a=0):Qbx a=some (ravR a,0):=by
 have hl:=(checkR_zero.1 ha).2.1
 unfold Qbx J8
 simp only [shapeCells_ok a (Sm_le (show a.length≤1000 by omega)),Qd,shapeCheck_ok [cellsR a] (Sm_le (show ([cellsR a]:List Int).length≤1000 by simp)),cells_check ha,ne_eq,not_true_eq_false,if_false,Clone_ok a (by omega),Clone_ok [cellsR a] (by simp)]
 rfl
theorem rRavel_ok {a:List Int} (hl:a.length≤1000):J1 a=some (rr (ravR a)):=by
 unfold J1
 simp only [Cells_ok a (Sm_le hl),Qd]; rfl
def dn:Nat→List Int
 | 0=>[]
 | n+1=>(n:Int)::dn n
theorem dn_len:∀ n,(dn n).length=n
 | 0=>rfl
 | n+1=>by rw [dn,List.length_cons,dn_len n]
theorem dn_mem:∀ (n:Nat) (x:Int),x∈dn n↔0≤x∧x < (n:Int)
 | 0,x=>by
  simp only [dn,List.not_mem_nil,false_iff]; omega
 | n+1,x=>by rw [dn,List.mem_cons,dn_mem n x]; omega
theorem dn_perm (n:Nat):permE (dn n) n=0:=by
 unfold permE
 rw [if_neg (by simp [dn_len]),if_neg (by
  have:(dn n).all (inR n)=true:=List.all_eq_true.2 fun x hx=>by have:=(dn_mem n x).1 hx; simp [inR]; omega
  rw [this]; simp),if_neg]
 have hle:∀ x∈dn n,0≤x∧x < (n:Int):=fun x hx=>(dn_mem n x).1 hx
 rw [permE_onto (dn_len n) hle]
 intro h
 refine h fun j _ hj=>?_
 rw [dn_mem]
 refine ⟨by omega,?_⟩
 have hb:maxF (dn n) (-1) < (n:Int):=by
  rcases (maxF_ge (dn n) (-1)).2.2 with e|e
  ·rw [e]; omega
  ·exact (hle _ e).2
 omega
def flipR (a:List Int):Qt:=⟨[],a,permL (dn a.length) a,[],-1,0,dn a.length⟩
theorem flip_L1 (a:List Int) (hl:a.length≤16):∀ (m j:Nat) (acc:List Int),j+m=a.length→acc.length=j→Xo (a,acc,(j:Int))=some (acc++dn m)
 | 0,j,acc,h,h2=>by
  rw [Xo]
  have:¬ ((j:Int) < (a.length:Int)):=by omega
  simp only [this,if_false,dn,List.append_nil]
 | m+1,j,acc,h,h2=>by
  rw [Xo]
  have h1:((j:Int) < (a.length:Int)):=by omega
  have w:W ((j:Int)+1)=((j+1:Nat):Int):=W_succ (by omega)
  have w2:W (W ((a.length:Int) - 1) - (j:Int))=(m:Int):=by rw [W_ok (n:=(a.length:Int) - 1) (by omega) (by omega),W_ok (by omega) (by omega)]; omega
  simp only [h1,if_true,w2,app1 (show acc.length≤100000 by omega),Qd,w,flip_L1 a hl m (j+1) (acc++[(m:Int)]) (by omega) (by simp; omega),dn,List.append_assoc,List.singleton_append]
theorem dn_in (n:Nat):∀ x∈dn n,0≤x∧x < (n:Int):=fun x hx=>(dn_mem n x).1 hx
theorem Flip_ok {a:List Int} (ha:checkR a=0):Qb1 a=some (flipR a,0):=by
 have hl:=(checkR_zero.1 ha).2.1
 have e:=flip_L1 a hl a.length 0 [] (by omega) rfl
 simp only [Int.natCast_zero,List.nil_append] at e
 unfold Qb1
 simp only [e,Qd,permuted_ok (dn a.length) a hl (dn_len _) (dn_in _),perm_check (dn_perm a.length) ha,if_true]
 rfl
theorem rflip_L1 (a:List Int):∀ (m:Nat) (acc:List Int),acc.length+m≤1000→Y6 (a,acc,(m:Int) - 1)=some (acc++dn m)
 | 0,acc,h=>by
  rw [Y6]
  have:¬ (((0:Nat):Int) - 1≥0):=by omega
  simp only [this,if_false,dn,List.append_nil]
 | m+1,acc,h=>by
  rw [Y6]
  have h1:(((m+1:Nat):Int) - 1≥0):=by omega
  have w:W (((m+1:Nat):Int) - 1 - 1)=(m:Int) - 1:=by rw [W_ok (by omega) (by omega)]; omega
  have w2:((m+1:Nat):Int) - 1=(m:Int):=by omega
  have e:=rflip_L1 a m (acc++[(m:Int)]) (by simp; omega)
  rw [w2] at w h1 ⊢
  simp only [h1,if_true,w,app1 (show acc.length≤100000 by omega),Qd,dn,e,List.append_assoc,List.singleton_append]
theorem rFlip_ok {a:List Int} (ha:checkR a=0):QaE a=some (rr (flipR a)):=by
 have hl:=(checkR_zero.1 ha).2.1
 have w:W ((a.length:Int) - 1)=(a.length:Int) - 1:=W_ok (by omega) (by omega)
 have e:=rflip_L1 a a.length [] (by simp; omega)
 unfold QaE
 simp only [w,e,Qd,List.nil_append,rpermuted_ok (dn_perm a.length) ha]
 rfl
theorem okR_flip {a:List Int} (ha:checkR a=0):okR (flipR a):=⟨check_nil,ha,perm_check (dn_perm a.length) ha⟩
mutual
def szT:Qa→Nat
 | ⟨_,_,_,_,_,kids⟩=>1+szTs kids
def szTs:List Qa→Nat
 | []=>0
 | k::ks=>szT k+szTs ks
end
mutual
def numT:Qa→Nat
 | ⟨_,_,_,_,nums,kids⟩=>nums.length+numTs kids
def numTs:List Qa→Nat
 | []=>0
 | k::ks=>numT k+numTs ks
end
mutual
def depT:Qa→Nat
 | ⟨_,_,_,_,_,kids⟩=>depTs kids+1
def depTs:List Qa→Nat
 | []=>0
 | k::ks=>max (depT k) (depTs ks)
end
mutual
def wT:Qa→Nat
 | ⟨_,_,_,nm,nums,kids⟩=>40+nm.size+40 * nums.length+wTs kids
def wTs:List Qa→Nat
 | []=>0
 | k::ks=>wT k+wTs ks
end
theorem szT_pos:∀ t:Qa,1≤szT t
 | ⟨_,_,_,_,_,kids⟩=>by rw [szT]; omega
theorem szTs_len:∀ l:List Qa,l.length≤szTs l
 | []=>Nat.zero_le _
 | k::ks=>by have:=szTs_len ks; have:=szT_pos k; rw [szTs]; simp only [List.length_cons]; omega
theorem szTs_app:∀ a b:List Qa,szTs (a++b)=szTs a+szTs b
 | [],b=>by simp [szTs]
 | k::ks,b=>by rw [List.cons_append,szTs,szTs,szTs_app ks b]; omega
mutual
theorem depT_le:∀ t:Qa,depT t≤szT t
 | ⟨_,_,_,_,_,kids⟩=>by have:=depTs_le kids; rw [depT,szT]; omega
theorem depTs_le:∀ l:List Qa,depTs l≤szTs l
 | []=>Nat.le_refl _
 | k::ks=>by have:=depT_le k; have:=depTs_le ks; rw [depTs,szTs]; omega
end
mutual
theorem tdep_ok:∀ (t:Qa),szT t≤100000→Jl t=some (depT t:Int)
 | ⟨k,f,a,nm,nu,ks⟩,h=>by
  rw [Jl]
  rw [szT] at h
  have e:=tdep_loop ks [] 0 k f a nm nu (by have:=szTs_len ks; simp; omega) (by omega) (by omega)
  simp only [List.nil_append,List.length_nil,Int.natCast_zero] at e
  have:=depTs_le ks
  simp only [e,Qd,depT]
  rw [W_ok (by omega) (by omega)]
  congr 1
  first|done|omega
theorem tdep_loop:∀ (s p:List Qa) (m:Nat) (k f a:Int) (nm:ByteArray) (nu:List Int),(p++s).length≤100000→szTs s≤100000→m≤100000 →
  Z0 (⟨k,f,a,nm,nu,p++s⟩,(m:Int),(p.length:Int))=some ((max m (depTs s):Nat):Int)
 | [],p,m,k,f,a,nm,nu,h1,h2,h3=>by
  rw [Z0]
  simp only [Z4,if_false,depTs,Nat.max_zero]
 | x::s,p,m,k,f,a,nm,nu,h1,h2,h3=>by
  rw [Z0]
  rw [szTs] at h2
  have e:=tdep_ok x (by omega)
  have hd:=depT_le x
  have e':=tdep_loop s (p++[x]) (max m (depT x)) k f a nm nu (by simpa using h1) (by omega) (by omega)
  rw [← Qz] at e'
  have w:W ((p.length:Int)+1)=((p++[x]).length:Int):=mid_W (Sm_of h1)
  have hx:(if (m:Int) < (depT x:Int) then (depT x:Int) else (m:Int))=((max m (depT x):Nat):Int):=by split <;> omega
  simp only [Zi,if_true,QR,Qd,e,w,hx,e',depTs]
  congr 1; omega
end
def B (l:List UInt8):ByteArray:=⟨l.toArray⟩
theorem B_size (l:List UInt8):(B l).size=l.length:=by simp [B,ByteArray.size]
theorem B_eta (b:ByteArray):B b.data.toList=b:=by cases b; simp [B]
theorem B_inj {a b:List UInt8}:B a=B b↔a=b:=by
 constructor
 ·intro h
  have:=congrArg (fun x:ByteArray=>x.data.toList) h
  simpa [B] using this
 ·intro h; rw [h]
theorem sidx_B (p s:List UInt8) (x:UInt8):sidx (B (p++x::s)) (p.length:Int)=some (x.toNat:Int):=by
 unfold sidx B
 rw [if_pos (by omega)]
 simp
theorem sidx_0 (s:List UInt8) (x:UInt8):sidx (B (x::s)) 0=some (x.toNat:Int):=sidx_B [] s x
theorem extract_B (l:List UInt8) (i j:Nat):(B l).extract i j=B ((l.take j).drop i):=by
 have h:((B l).extract i j).data=((l.take j).drop i).toArray:=by
  rw [ByteArray.data_extract]
  show l.toArray.extract i j=_
  rw [List.extract_toArray]
  simp [List.extract,List.drop_take]
 cases e:(B l).extract i j
 rw [e] at h
 simp only at h
 rw [h]; rfl
theorem ssub_B {l:List UInt8} {p m s:List UInt8} (hl:l=p++(m++s)) {i j:Int} (hi:i=(p.length:Int)) (hj:j=((p.length+m.length:Nat):Int)):ssub (B l) i j=some (B m):=by
 subst hl hi hj
 unfold ssub
 rw [if_pos ⟨by omega,by omega,by rw [B_size]; simp; omega⟩,extract_B]
 have h:(p++(m++s)).take (p.length+m.length)=p++m:=by rw [← List.append_assoc]; exact List.take_left' (by simp)
 rw [Int.toNat_natCast,Int.toNat_natCast,h]
 simp
theorem W_in (n:Int):-9223372036854775808≤W n∧W n < 9223372036854775808:=by
 simp only [W,IntKind.wrap,IntKind.bits,IntKind.signed]; simp; split <;> omega
def lt (v:Int):Bool:=decide (65≤v∧v≤90) || decide (97≤v∧v≤122) || decide (v=95)
def dg (v:Int):Bool:=decide (48≤v∧v≤57)
theorem letter_eq (v:Int):ZW v=some (lt v):=by
 unfold ZW lt
 simp only []
 by_cases h1:v≥65 <;> by_cases h2:v≤90 <;> by_cases h3:v≥97 <;> by_cases h4:v≤122 <;> simp [h1,h2,h3,h4,Qd] <;> first|done|rfl|omega
theorem digit_eq (v:Int):Yv v=some (dg v):=by
 unfold Yv dg
 simp only []
 by_cases h1:v≥48 <;> by_cases h2:v≤57 <;> simp [h1,h2]
def wordc (c:UInt8):Bool:=lt (c.toNat:Int) || dg (c.toNat:Int)
theorem end_L1:∀ (s p l:List UInt8),l=p++s→l.length≤1000000→Zu (B l,(p.length:Int))=some (((p.length+(s.takeWhile wordc).length:Nat)):Int)
 | [],p,l,hl,hs=>by
  subst hl
  rw [Zu]
  have:¬ ((p.length:Int) < ((B (p++[])).size:Int)):=by rw [B_size]; simp
  simp only [this,if_false,Qd,Bool.false_eq_true,List.takeWhile_nil,List.length_nil,Nat.add_zero]
 | c::s,p,l,hl,hs=>by
  rw [Zu]
  have h1:((p.length:Int) < ((B l).size:Int)):=by rw [B_size,hl]; simp; omega
  have e:sidx (B l) (p.length:Int)=some (c.toNat:Int):=by rw [hl]; exact sidx_B p s c
  have hw:W ((p.length:Int)+1)=((p++[c]).length:Int):=by
   rw [hl] at hs; simp at hs
   rw [W_ok (by omega) (by omega)]; simp
  have ih:=end_L1 s (p++[c]) l (by simp [hl]) hs
  simp only [h1,if_true,e,letter_eq,digit_eq,Qd]
  by_cases hL:lt (c.toNat:Int)=true
  ·have hc:wordc c=true:=by unfold wordc; rw [hL]; rfl
   simp only [hL,if_true,Qd,hw]
   rw [ih,List.takeWhile_cons,if_pos hc]
   exact congrArg (fun n:Nat=>some (n:Int)) (by simp; omega)
  ·have hL':lt (c.toNat:Int)=false:=by simpa using hL
   simp only [hL',Bool.false_eq_true,if_false,Qd]
   by_cases hD:dg (c.toNat:Int)=true
   ·have hc:wordc c=true:=by unfold wordc; rw [hD]; simp
    simp only [hD,if_true,hw]
    rw [ih,List.takeWhile_cons,if_pos hc]
    exact congrArg (fun n:Nat=>some (n:Int)) (by simp; omega)
   ·have hD':dg (c.toNat:Int)=false:=by simpa using hD
    have hc:wordc c=false:=by unfold wordc; rw [hD',hL']; rfl
    simp [hD',List.takeWhile_cons,hc]
theorem end_ok {s p l:List UInt8} (hl:l=p++s) (hs:l.length≤1000000) {i:Int} (hi:i=(p.length:Int)):Ja (B l,i)=some (((p.length+(s.takeWhile wordc).length:Nat)):Int):=by
 subst hi
 unfold Ja
 simp only [end_L1 s p l hl hs,Qd]
def pre (g s:List UInt8):Bool:=decide (s.take g.length=g)
theorem begins_ok {s p l:List UInt8} (hl:l=p++s) (hs:l.length≤1000000) (g:List UInt8) (hg:g.length≤1000) {i:Int} (hi:i=(p.length:Int)):Jx (B l,i,B g)=some (pre g s):=by
 subst hi
 unfold Jx
 have hlen:l.length=p.length+s.length:=by rw [hl]; simp
 have hw:W ((p.length:Int)+(g.length:Int))=((p.length+g.length:Nat):Int):=by rw [W_ok (by omega) (by omega)]; omega
 simp only [B_size,hw]
 by_cases h:g.length≤s.length
 ·have h1:((p.length+g.length:Nat):Int)≤(l.length:Int):=by omega
  have e:ssub (B l) (p.length:Int) ((p.length+g.length:Nat):Int)=some (B (s.take g.length)):=by
   refine ssub_B (s:=s.drop g.length) (by rw [hl,List.take_append_drop]) rfl ?_
   rw [List.length_take]; congr 2; omega
  simp only [h1,if_true,e,Qd,pre]
  congr 1
  rw [decide_eq_decide]
  exact B_inj
 ·have h1:¬ ((p.length+g.length:Nat):Int)≤(l.length:Int):=by omega
  simp only [h1,if_false,pre]
  congr 1
  symm
  rw [decide_eq_false_iff_not]
  intro q
  have:=congrArg List.length q
  rw [List.length_take] at this
  omega
theorem pre_len {g s:List UInt8} (h:pre g s=true):∃ r,s=g++r:=by
 unfold pre at h
 rw [decide_eq_true_eq] at h
 exact ⟨s.drop g.length,by
  have:=List.take_append_drop g.length s
  rw [h] at this
  exact this.symm⟩
theorem word_word (w:List UInt8) (h:∀ c∈w,wordc c=true) (s:List UInt8) (hs:∀ c,s.head? = some c→wordc c=false):(w++s).takeWhile wordc=w:=by
 induction w with
 | nil =>
  cases s with
  | nil=>rfl
  | cons c s=>simp [List.takeWhile_cons,hs c rfl]
 | cons c w ih =>
  rw [List.cons_append,List.takeWhile_cons,h c (by simp)]
  simp only [if_true]
  rw [ih (fun d hd=>h d (by simp [hd]))]
def i64 (n:Int):Prop:=-9223372036854775808≤n∧n < 9223372036854775808
theorem value_L1_tot:∀ (s p l:List UInt8) (neg:Bool) (n:Int),l=p++s→l.length≤1000000→i64 n→∃ r,YJ (B l,neg,n,(p.length:Int))=some r∧∀ v,r=.inr v→i64 v
 | [],p,l,neg,n,hl,hs,hn=>by
  rw [YJ]
  have:¬ ((p.length:Int) < ((B l).size:Int)):=by rw [B_size,hl]; simp
  simp only [this,if_false]
  exact ⟨_,rfl,fun v e=>by cases e; exact hn⟩
 | c::s,p,l,neg,n,hl,hs,hn=>by
  rw [YJ]
  have h1:((p.length:Int) < ((B l).size:Int)):=by rw [B_size,hl]; simp; omega
  have e:sidx (B l) (p.length:Int)=some (c.toNat:Int):=by rw [hl]; exact sidx_B p s c
  have hw:W ((p.length:Int)+1)=((p++[c]).length:Int):=by
   rw [hl] at hs; simp at hs
   rw [W_ok (by omega) (by omega)]; simp
  simp only [h1,if_true,e,digit_eq,Qd]
  by_cases hd:dg (c.toNat:Int)=false
  ·simp only [hd,if_true]
   exact ⟨_,rfl,fun v e=>by cases e⟩
  ·have q10:¬ ((10:Int)=0):=by decide
   have hd':dg (c.toNat:Int)=true:=by simpa using hd
   simp only [hd',Bool.true_eq_false,if_false,quoM,q10,Qd]
   split
   ·exact ⟨_,rfl,fun v e=>by cases e⟩
   ·rw [hw]
    exact value_L1_tot s (p++[c]) l neg _ (by simp [hl]) hs (W_in _)
theorem ite_b {c:Prop} [Decidable c] {α:Type} (a b:α):(if c then some a else some b)=some (if c then a else b):=by split <;> rfl
theorem value_tot (l:List UInt8) (neg:Bool) (hs:l.length≤1000000):∃ n ok,J0 (B l,neg)=some (n,ok)∧i64 n:=by
 unfold J0
 obtain ⟨r,er,hr⟩:=value_L1_tot l [] l neg 0 rfl hs ⟨by omega,by omega⟩
 simp only [List.length_nil,Int.natCast_zero] at er
 have hb:∃ b,(if ((B l).size:Int)=0 then some true else sidx (B l) 0>>=fun v2=>if v2=48 then (if ((B l).size:Int) > 1 then some true else some neg)>>=fun (v3:Bool)=>some v3 else some false)=some b:=by
  cases l with
  | nil=>exact ⟨true,rfl⟩
  | cons c l =>
   have h0:¬ (((B (c::l)).size:Int)=0):=by rw [B_size]; simp; omega
   simp only [h0,if_false,sidx_0,Qd,ite_b]
   exact ⟨_,rfl⟩
 obtain ⟨b,hb⟩:=hb
 simp only [hb,er,Qd]
 cases b with
 | true=>exact ⟨0,false,rfl,by omega,by omega⟩
 | false =>
  simp only [Bool.false_eq_true,if_false]
  cases r with
  | inl u=>exact ⟨0,false,rfl,by omega,by omega⟩
  | inr v =>
   have hv:=hr v rfl
   simp only
   cases neg with
   | true=>exact ⟨v,true,rfl,hv⟩
   | false =>
    simp only [Bool.false_eq_true,if_false]
    split
    ·exact ⟨0,false,rfl,by omega,by omega⟩
    ·exact ⟨_,true,rfl,W_in _⟩
def GL:List (List UInt8):=[[226,134,145],[226,134,147],[226,140,189],[226,141,137],[226,141,180],[226,141,172],[226,134,144],[44],[40],[41],[91],[93]]
theorem Glyphs_eq:Qbs ()=some (GL.map B):=rfl
def fnd (G:List (List UInt8)) (s f:List UInt8):List UInt8:=G.foldl (fun f g=>if pre g s then g else f) f
theorem L2_ok {l p s:List UInt8} (out:List Qn) (hl:l=p++s) (hs:l.length≤65536):∀ (G2 G1:List (List UInt8)) (f:List UInt8),(G1++G2).length≤1000→(∀ g∈G2,g.length≤3) →
  Z8 ((G1++G2).map B,B l,(p.length:Int),out,B f,(G1.length:Int))=some (B (fnd G2 s f))
 | [],G1,f,h1,h2=>by
  rw [Z8]
  have:¬ ((G1.length:Int) < (((G1++[]).map B).length:Int)):=by simp
  simp only [this,if_false,fnd,List.foldl_nil]
 | g::G2,G1,f,h1,h2=>by
  rw [Z8]
  have hlt:((G1.length:Int) < (((G1++g::G2).map B).length:Int)):=by simp; omega
  have hi:idx ((G1++g::G2).map B) (G1.length:Int)=some (B g):=by simp [idx]
  have hb:=begins_ok (i:=(p.length:Int)) hl (by omega) g (by have:=h2 g (by simp); omega) rfl
  have hw:W ((G1.length:Int)+1)=((G1++[g]).length:Int):=by
   simp at h1
   rw [W_ok (by omega) (by omega)]; simp
  have ih:=fun f'=>L2_ok out hl hs G2 (G1++[g]) f' (by simpa using h1) (fun x hx=>h2 x (by simp [hx]))
  simp only [List.append_assoc,List.singleton_append] at ih
  simp only [hlt,if_true,hi,hb,hw,Qd,ih]
  have hf:fnd (g::G2) s f=fnd G2 s (if pre g s then g else f):=rfl
  rw [hf]
  cases pre g s <;> simp only [Bool.false_eq_true,if_true,if_false]
theorem fnd_some:∀ (G:List (List UInt8)) (s f:List UInt8),fnd G s f=f∨∃ g∈G,fnd G s f=g∧pre g s=true
 | [],s,f=>Or.inl rfl
 | g::G,s,f=>by
  have hf:fnd (g::G) s f=fnd G s (if pre g s then g else f):=rfl
  rw [hf]
  rcases fnd_some G s (if pre g s then g else f) with h|⟨g',h1,h2,h3⟩
  ·rw [h]
   by_cases hp:pre g s=true
   ·rw [if_pos hp]; exact Or.inr ⟨g,by simp,rfl,hp⟩
   ·rw [if_neg hp]; exact Or.inl rfl
  ·exact Or.inr ⟨g',by simp [h1],h2,h3⟩
theorem fnd_len (s:List UInt8):fnd GL s []=[]∨∃ r,s=fnd GL s []++r:=by
 rcases fnd_some GL s [] with h|⟨g,h1,h2,h3⟩
 ·exact Or.inl h
 ·rw [h2]; exact Or.inr (pre_len h3)
theorem room_app {α:Type} {b:Nat} {l es:List α} (h:l.length+es.length≤1000000) (hb:b≤1000):app b l es=some (l++es):=app_ok (by
 have h1:(l.length+es.length) * b≤1000000 * 1000:=Nat.mul_le_mul h hb
 have h2:1000000 * 1000≤room:=by decide +kernel
 omega)
def sp (c:UInt8):Prop:=(c.toNat:Int)=32∨(c.toNat:Int)=9∨(c.toNat:Int)=13
instance (c:UInt8):Decidable (sp c):=by unfold sp; infer_instance
theorem sp_eval {b:ByteArray} {i:Int} {c:UInt8} (e:sidx b i=some (c.toNat:Int)):(sidx b i>>=fun v604=>(if v604=32 then some true else sidx b i>>=fun v606=>some (v606 == 9))>>=fun (v605:Bool)=>if v605=true then some true else sidx b i>>=fun v607=>some (v607 == 13))=some (decide (sp c)):=by
 simp only [e,Qd]
 unfold sp
 by_cases h1:(c.toNat:Int)=32
 ·simp [h1,Qd]
 ·by_cases h2:(c.toNat:Int)=9 <;> by_cases h3:(c.toNat:Int)=13 <;> simp [h1,h2,h3,Qd]
section
variable {l p s:List UInt8} {out:List Qn}
theorem lex_end (hl:l=p):QL (B l,out,(p.length:Int))=some (.inr out):=by
 rw [QL]
 have:¬ ((p.length:Int) < ((B l).size:Int)):=by rw [B_size,hl]; omega
 simp only [this,if_false]
theorem lex_sp {c:UInt8} (hl:l=p++c::s) (hs:l.length≤65536) (hc:sp c):QL (B l,out,(p.length:Int))=QL (B l,out,((p++[c]).length:Int)):=by
 rw [QL]
 have h1:((p.length:Int) < ((B l).size:Int)):=by rw [B_size,hl]; simp; omega
 have e:sidx (B l) (p.length:Int)=some (c.toNat:Int):=by rw [hl]; exact sidx_B p s c
 have hw:W ((p.length:Int)+1)=((p++[c]).length:Int):=by
  rw [hl] at hs; simp at hs
  rw [W_ok (by omega) (by omega)]; simp
 simp only [h1,if_true]
 rw [sp_eval e]
 simp only [decide_eq_true hc,Qd,if_true,hw]
theorem lex_word {w:List UInt8} {c:UInt8} {w':List UInt8} (hl:l=p++(w++s)) (hs:l.length≤65536) (ho:out.length≤65536) (hc:w=c::w') (hn:¬ sp c) (hL:lt (c.toNat:Int)=true) (hw:(w++s).takeWhile wordc=w) :
  QL (B l,out,(p.length:Int))=QL (B l,out++[⟨1,B w,0⟩],((p++w).length:Int)):=by
 rw [QL]
 have hl2:l=p++c::(w'++s):=by rw [hl,hc]; rfl
 have h1:((p.length:Int) < ((B l).size:Int)):=by rw [B_size,hl2]; simp; omega
 have e:sidx (B l) (p.length:Int)=some (c.toNat:Int):=by rw [hl2]; exact sidx_B p _ c
 have he:=end_ok (i:=(p.length:Int)) hl (by omega) rfl
 rw [hw] at he
 have hsub:=ssub_B (i:=(p.length:Int)) (j:=((p.length+w.length:Nat):Int)) hl rfl rfl
 have ha:app 32 out ([(⟨1,B w,0⟩:Qn)]:List Qn)=some (out++[⟨1,B w,0⟩]):=room_app (by simp; omega) (by omega)
 have hlen:((p++w).length:Int)=((p.length+w.length:Nat):Int):=by simp
 simp only [h1,if_true]
 rw [sp_eval e]
 simp only [if_true,decide_eq_false hn,e,Qd,letter_eq,hL,he,hsub,ha,Bool.false_eq_true,if_false,hlen]
theorem lex_num0 {c:UInt8} {w' sg w:List UInt8} {neg:Bool} (hl:l=p++(sg++(w++s))) (hs:l.length≤65536) (ho:out.length≤65536) (hc:sg++(w++s)=c::w') (hn:¬ sp c) (hL:lt (c.toNat:Int)=false)
  (hb:pre [194,175] (sg++(w++s))=neg) (hsg:sg.length=if neg=true then 2 else 0) (hw:(w++s).takeWhile wordc=w) :
  QL (B l,out,(p.length:Int))=(if w.length > 0 then J0 (B w,neg)>>=fun (r:Int × Bool)=>if r.2=false then some (.inl out.length) else QL (B l,out++[⟨2,B (sg++w),r.1⟩],((p++(sg++w)).length:Int))
   else if fnd GL (sg++(w++s)) []=[] then some (.inl out.length) else QL (B l,out++[⟨3,B (fnd GL (sg++(w++s)) []),0⟩],((p++fnd GL (sg++(w++s)) []).length:Int))):=by
 rw [QL]
 have hl2:l=p++c::w':=by rw [hl,hc]
 have hl3:l=(p++sg)++(w++s):=by rw [hl]; simp
 have hlen:l.length=p.length+sg.length+(w.length+s.length):=by rw [hl3]; simp; omega
 have h1:((p.length:Int) < ((B l).size:Int)):=by rw [B_size,hl2]; simp; omega
 have e:sidx (B l) (p.length:Int)=some (c.toNat:Int):=by rw [hl2]; exact sidx_B p _ c
 have hb2:=begins_ok (i:=(p.length:Int)) hl (by omega) [194,175] (by decide) rfl
 rw [hb] at hb2
 have hbe:(B [194,175]:ByteArray)=⟨#[194,175]⟩:=rfl
 rw [hbe] at hb2
 have hfrom:(if neg=true then some (W ((p.length:Int)+2)) else some (p.length:Int))=some ((p++sg).length:Int):=by
  cases neg with
  | true =>
   simp only [if_true] at hsg ⊢
   rw [W_ok (by omega) (by omega)]
   simp [hsg]
  | false =>
   simp only [Bool.false_eq_true,if_false] at hsg ⊢
   simp [hsg]
 have he:=end_ok (i:=((p++sg).length:Int)) hl3 (by omega) rfl
 rw [hw] at he
 simp only [h1,if_true]
 rw [sp_eval e]
 simp only [if_true,decide_eq_false hn,e,Qd,letter_eq,hL,hb2,hfrom,he,Bool.false_eq_true,if_false]
 by_cases hz:w.length > 0
 ·have hgt:(((p++sg).length+w.length:Nat):Int) > ((p++sg).length:Int):=by omega
  have s1:=ssub_B (i:=((p++sg).length:Int)) (j:=(((p++sg).length+w.length:Nat):Int)) hl3 rfl rfl
  have hl4:l=p++((sg++w)++s):=by rw [hl]; simp
  have s2:=ssub_B (i:=(p.length:Int)) (j:=(((p++sg).length+w.length:Nat):Int)) hl4 rfl (by simp; omega)
  simp only [hgt,hz,if_true,s1,Qd]
  obtain ⟨n,ok,ev,_⟩:=value_tot w neg (by omega)
  simp only [ev,Qd]
  cases ok with
  | false=>simp
  | true =>
   have ha:app 32 out ([(⟨2,B (sg++w),n⟩:Qn)]:List Qn)=some (out++[⟨2,B (sg++w),n⟩]):=room_app (by simp; omega) (by omega)
   simp only [Bool.true_eq_false,if_false,s2,ha,Qd]
   congr 3
   simp; omega
 ·have hgt:¬ ((((p++sg).length+w.length:Nat):Int) > ((p++sg).length:Int)):=by omega
  have e2:=L2_ok out hl hs GL [] [] (by decide) (by decide)
  simp only [List.nil_append,List.length_nil,Int.natCast_zero] at e2
  have e3:(B []:ByteArray)=ByteArray.empty:=rfl
  simp only [hgt,hz,if_false,Glyphs_eq,← e3,e2,Qd,B_inj,B_size]
  by_cases hf:fnd GL (sg++(w++s)) []=[]
  ·simp only [hf,if_true]
  ·have ha:app 32 out ([(⟨3,B (fnd GL (sg++(w++s)) []),0⟩:Qn)]:List Qn)=some (out++[⟨3,B (fnd GL (sg++(w++s)) []),0⟩]):=room_app (by simp; omega) (by omega)
   simp only [hf,if_false,ha,Qd]
   congr 3
   have hfl:(fnd GL (sg++(w++s)) []).length≤(sg++(w++s)).length:=by
    rcases fnd_len (sg++(w++s)) with h|⟨r,h⟩
    ·rw [h]; simp
    ·have:=congrArg List.length h
     simp only [List.length_append] at this ⊢
     omega
   simp only [List.length_append] at hfl
   rw [W_ok (by omega) (by omega)]
   simp
end
theorem ite_some {c:Prop} [Decidable c] {α:Type} (a b:α):(if c then some a else some b)=some (if c then a else b):=by split <;> rfl
def nuOk (l:List Int):Prop:=∀ n∈l,i64 n
theorem letter_tot (v:Int):∃ b,ZW v=some b:=by
 unfold ZW
 simp only [ite_some,Qd]
 exact ⟨_,rfl⟩
theorem digit_tot (v:Int):∃ b,Yv v=some b:=by
 unfold Yv
 simp only [ite_some,Qd]
 exact ⟨_,rfl⟩
theorem sidx_ok {b:ByteArray} {i:Nat} (h:i < b.size):∃ v,sidx b (i:Int)=some v:=by
 unfold sidx
 rw [if_pos (by omega)]
 have h2:((i:Int)).toNat < b.data.size:=by have:b.data.size=b.size:=rfl; omega
 rw [Array.getElem?_eq_getElem h2]
 exact ⟨_,rfl⟩
theorem end_tot (s:ByteArray) (hs:s.size≤1000000000000000000):∀ m i:Nat,i+m=s.size→∃ r,Zu (s,(i:Int))=some r
 | 0,i,h=>by
  rw [Zu]
  have:¬ ((i:Int) < (s.size:Int)):=by omega
  simp only [this,if_false,Qd,Bool.false_eq_true]
  exact ⟨_,rfl⟩
 | m+1,i,h=>by
  rw [Zu]
  have h1:((i:Int) < (s.size:Int)):=by omega
  obtain ⟨v,e⟩:=sidx_ok (b:=s) (i:=i) (by omega)
  obtain ⟨b,eb⟩:=letter_tot v
  obtain ⟨c,ec⟩:=digit_tot v
  obtain ⟨r,er⟩:=end_tot s hs m (i+1) (by omega)
  have w:W ((i:Int)+1)=((i+1:Nat):Int):=W_succ (by omega)
  simp only [h1,if_true,e,eb,ec,Qd,w,er,ite_some]
  split
  ·exact ⟨_,rfl⟩
  ·exact ⟨_,rfl⟩
theorem name_tot (s:ByteArray) (hs:s.size≤1000000000000000000):∃ b,ZR s=some b:=by
 unfold ZR
 simp only []
 by_cases h:(s.size:Int) > 0
 ·obtain ⟨v,e⟩:=sidx_ok (b:=s) (i:=0) (by omega)
  simp only [Int.natCast_zero] at e
  obtain ⟨b,eb⟩:=letter_tot v
  obtain ⟨r,er⟩:=end_tot s hs s.size 0 (by omega)
  simp only [Int.natCast_zero] at er
  simp only [h,if_true,e,eb,Qd]
  cases b
  ·simp only [Bool.false_eq_true,if_false]; exact ⟨_,rfl⟩
  ·simp only [if_true,Ja,er,Qd]; exact ⟨_,rfl⟩
 ·simp only [h,if_false,Qd,Bool.false_eq_true]; exact ⟨_,rfl⟩
def noT:Qa:=⟨0,0,0,ByteArray.empty,[],[]⟩
def axF (a:Int):Prop:=0≤a∧a≤15
def formF (t:Qa):Prop :=
 (t.kind=1∧t.fn=0∧t.axis=-1∧t.name=ByteArray.empty∧t.kids.length=0) ∨
 (t.kind=2∧t.fn=0∧t.axis=-1∧ZR t.name=some true∧t.nums.length=0∧t.kids.length=0) ∨
 (t.kind=3∧t.name=ByteArray.empty∧t.nums.length=0∧t.kids.length=1∧((t.fn=3∧(t.axis=-1∨axF t.axis))∨((t.fn=4∨t.fn=6)∧t.axis=-1))) ∨
 (t.kind=4∧t.name=ByteArray.empty∧t.nums.length=0∧t.kids.length=2∧1≤t.fn∧t.fn≤6∧(t.axis=-1∨(axF t.axis∧(t.fn=3∨t.fn=6)))∧(t.fn=6∨(t.kids.getD 0 noT).kind=1∨(t.kids.getD 0 noT).kind=2))
mutual
def good:Qa→Prop
 | ⟨k,f,a,nm,nu,ks⟩=>formF ⟨k,f,a,nm,nu,ks⟩∧goods ks
def goods:List Qa→Prop
 | []=>True
 | k::ks=>good k∧goods ks
end
def nmOk (n:Nat):Prop:=n≤1000000000000000000
mutual
def namesOk:Qa→Prop
 | ⟨_,_,_,nm,nu,ks⟩=>(nmOk nm.size∧nuOk nu)∧namesOks ks
def namesOks:List Qa→Prop
 | []=>True
 | k::ks=>namesOk k∧namesOks ks
end
theorem etaT (t:Qa):(⟨t.kind,t.fn,t.axis,t.name,t.nums,t.kids⟩:Qa)=t:=by cases t; rfl
theorem szT_f (t:Qa):szT t=1+szTs t.kids:=by cases t; rw [szT]
theorem numT_f (t:Qa):numT t=t.nums.length+numTs t.kids:=by cases t; rw [numT]
theorem good_f {t:Qa}:good t↔formF t∧goods t.kids:=by cases t; rw [good]
theorem kids1 {t:Qa} (h:t.kids.length=1):∃ k,t.kids=[k]:=by
 match e:t.kids,h with
 | [k],_=>exact ⟨k,rfl⟩
theorem kids2 {t:Qa} (h:t.kids.length=2):∃ l k,t.kids=[l,k]:=by
 match e:t.kids,h with
 | [l,k],_=>exact ⟨l,k,rfl⟩
structure less (u t:Qa):Prop where
 sz:szT u < szT t
 num:numT u≤numT t
 dep:depT u≤depT t
 wt:wT u≤wT t
 gd:good u
 nm:namesOk u
theorem goods1 {k:Qa}:goods [k]↔good k:=by rw [goods,goods]; simp
theorem goods2 {l k:Qa}:goods [l,k]↔good l∧good k:=by rw [goods,goods,goods]; simp
theorem nms1 {k:Qa}:namesOks [k]↔namesOk k:=by rw [namesOks,namesOks]; simp
theorem nms2 {l k:Qa}:namesOks [l,k]↔namesOk l∧namesOk k:=by rw [namesOks,namesOks,namesOks]; simp
theorem sz1 (k:Qa):szTs [k]=szT k∧numTs [k]=numT k∧depTs [k]=depT k∧wTs [k]=wT k:=by simp [szTs,numTs,depTs,wTs]
theorem sz2 (l k:Qa):szTs [l,k]=szT l+szT k∧numTs [l,k]=numT l+numT k∧depTs [l,k]=max (depT l) (depT k)∧wTs [l,k]=wT l+wT k:=by simp [szTs,numTs,depTs,wTs]
theorem empty_size:ByteArray.empty.size=0:=rfl
theorem less.trans {a b c:Qa} (h:less a b) (h2:less b c):less a c :=
 ⟨Nat.lt_trans h.sz h2.sz,Nat.le_trans h.num h2.num,Nat.le_trans h.dep h2.dep,Nat.le_trans h.wt h2.wt,h.gd,h.nm⟩
theorem nq12:¬ (1:Int)=2:=by decide
theorem nq21:¬ (2:Int)=1:=by decide
theorem nq31:¬ (3:Int)=1:=by decide
theorem nq32:¬ (3:Int)=2:=by decide
theorem nq34:¬ (3:Int)=4:=by decide
theorem nq41:¬ (4:Int)=1:=by decide
theorem nq42:¬ (4:Int)=2:=by decide
theorem nq43:¬ (4:Int)=3:=by decide
theorem nq51:¬ (5:Int)=1:=by decide
theorem nq52:¬ (5:Int)=2:=by decide
theorem nq53:¬ (5:Int)=3:=by decide
theorem nq54:¬ (5:Int)=4:=by decide
theorem nq61:¬ (6:Int)=1:=by decide
theorem nq63:¬ (6:Int)=3:=by decide
theorem nq64:¬ (6:Int)=4:=by decide
theorem nq65:¬ (6:Int)=5:=by decide
theorem app_le2 {α:Type} {b:Nat} {l es:List α} (h:l.length+es.length≤100000000) (hb:b≤1000):app b l es=some (l++es):=app_ok (by
 have:(l.length+es.length) * b≤100000000 * 1000:=Nat.mul_le_mul h hb
 unfold room; omega)
mutual
def bk:Qc→Qf
 | ⟨k,s,b,st,a,am,p,ks⟩=>⟨k,s,b,st,a,am,p,bks ks⟩
def bks:List Qc→List Qf
 | []=>[]
 | k::ks=>bk k::bks ks
end
theorem bk_f (c:Qc):bk c=⟨c.kind,c.shape,c.buffer,c.starts,c.axis,c.amount,c.perm,bks c.kids⟩:=by cases c; rw [bk]
theorem bk_shape (c:Qc):(bk c).shape=c.shape:=by rw [bk_f]
theorem etaC (c:Qc):(⟨c.kind,c.shape,c.buffer,c.starts,c.axis,c.amount,c.perm,c.kids⟩:Qc)=c:=by cases c; rfl
theorem etaR (c:Qf):(⟨c.kind,c.shape,c.buffer,c.starts,c.axis,c.amount,c.perm,c.kids⟩:Qf)=c:=by cases c; rfl
theorem etaK (c:Qc):(⟨(bk c).kind,c.shape,(bk c).buffer,(bk c).starts,(bk c).axis,(bk c).amount,(bk c).perm,(bk c).kids⟩:Qf)=bk c:=by rw [bk_f]
def bkS (s:Ql):Qm:=⟨s.name,s.value⟩
def zeroC:Qf:=⟨0,[],0,[],0,0,[],[]⟩
def reshC (s:List Int) (c:Qc):Qc:=⟨6,s,0,[],0,0,[],[c]⟩
def seenC (c:Qc) (s:List Int):Qc:=if c.shape=s then c else reshC s c
def winC (r:Qt) (c:Qc):Qc:=⟨2,r.shape,0,r.starts,0,0,[],[seenC c r.right]⟩
def turnC (k:Int) (r:Qt) (c:Qc):Qc:=if r.axis=-1 then c else ⟨k,r.shape,0,[],r.axis,r.amount,[],[c]⟩
def transC (r:Qt) (c:Qc):Qc:=⟨5,r.shape,0,[],0,0,r.perm,[c]⟩
theorem reshaped_ok (c:Qc) (s:List Int):XD (c,s)=some (reshC s c):=by unfold XD reshC; dsimp only; rw [etaC]
theorem seen_okC (c:Qc) (s:List Int) (hs:s.length≤1000):Qap (c,s)=some (seenC c s):=by
 unfold Qap seenC
 simp only [sEqual_ok' c.shape s (Sm_le hs),Qd,reshaped_ok]
 by_cases h:c.shape=s <;> simp [h]
theorem around_ok (x y:Qf):ZZ (x,y)=some ⟨x.kind,x.shape,x.buffer,x.starts,x.axis,x.amount,x.perm,[y]⟩:=by unfold ZZ; dsimp only; rw [etaR]
theorem rseen_okC (c:Qc) (s:List Int) (hc:c.shape.length≤1000):Zw (bk c,s)=some (bk (seenC c s)):=by
 unfold Zw seenC
 simp only [bk_shape,Equal_ok c.shape s (Sm_le hc),Qd,around_ok]
 by_cases h:c.shape=s
 ·simp only [h,decide_true,if_true]; rw [bk_f c,h]
 ·simp only [h,decide_false,Bool.false_eq_true,if_false]; rw [bk_f (reshC s c)]; rfl
theorem rseen_same (c:Qc) (hc:c.shape.length≤1000):Zw (bk c,c.shape)=some (bk c):=by rw [rseen_okC c c.shape hc,seenC,if_pos rfl]
theorem window_okC (r:Qt) (c:Qc) (hr:r.right.length≤1000):JY (r,c)=some (winC r c):=by
 unfold JY winC
 simp only [seen_okC c r.right hr,Qd,etaC]
theorem turned_ok (k:Int) (r:Qt) (c:Qc):JX (k,r,c)=some (turnC k r c):=by
 unfold JX turnC
 dsimp only
 split
 ·rfl
 ·rw [etaC]
theorem transposed_ok (r:Qt) (c:Qc):Xv (r,c)=some (transC r c):=by unfold Xv transC; dsimp only; rw [etaC]
def monR (t:Qa) (c:Qc):Qc × Int :=
 if t.fn=3 then (turnC 3 (revR t.axis c.shape).1 c,(revR t.axis c.shape).2) else if t.fn=4 then (transC (flipR c.shape) c,0) else (reshC [cellsR c.shape] c,0)
theorem monad_okC (t:Qa) (c:Qc) (hc:checkR c.shape=0):Qbp (t,c)=some (monR t c):=by
 unfold Qbp monR
 simp only [Reverse_ok t.axis hc,Flip_ok hc,Ravel_ok hc,Qd,turned_ok,transposed_ok,etaC,reshaped_ok]
 split
 ·rfl
 ·split <;> rfl
def meaR (t:Qa) (c:Qc) (v:List Int):Qc × Int :=
 if t.fn=1 then (winC (takeR v c.shape).1 c,(takeR v c.shape).2) else if t.fn=2 then (winC (dropR v c.shape).1 c,(dropR v c.shape).2)
 else if t.fn=3 then (turnC 4 (rotR v t.axis c.shape).1 c,(rotR v t.axis c.shape).2) else if t.fn=4 then (transC (transR v c.shape).1 c,(transR v c.shape).2)
 else (reshC (reshR v c.shape).1.shape c,(reshR v c.shape).2)
theorem okR_len {r:Qt} (h:okR r):r.left.length≤16∧r.right.length≤16∧r.shape.length≤16:=⟨(checkR_zero.1 h.1).2.1,(checkR_zero.1 h.2.1).2.1,(checkR_zero.1 h.2.2).2.1⟩
theorem monR_right {t:Qa} {c:Qc} (hc:checkR c.shape=0):checkR (monR t c).1.shape=0:=by
 unfold monR
 split
 ·unfold turnC
  split
  ·exact hc
  ·exact (okR_rev hc).2.2
 ·split
  ·exact (okR_flip hc).2.2
  ·exact cells_check hc
theorem meaR_right {t:Qa} {c:Qc} {v:List Int} (hc:checkR c.shape=0):checkR (meaR t c v).1.shape=0:=by
 unfold meaR
 split
 ·exact (okR_take hc).2.2
 split
 ·exact (okR_drop hc).2.2
 split
 ·unfold turnC
  split
  ·exact hc
  ·exact (okR_rot hc).2.2
 split
 ·exact (okR_trans hc).2.2
 ·exact (okR_resh hc).2.2
def oneOK (o:Option (Qf × Int)) (r:Qc × Int):Prop:=(r.2=0→o=some (bk r.1,0))∧(r.2≠0→∃ x,o=some (x,r.2))
theorem bk_turn {k:Int} {s:List Int} {ax am:Int} {c:Qc}:bk (⟨k,s,0,[],ax,am,[],[c]⟩:Qc)=⟨k,s,0,[],ax,am,[],[bk c]⟩:=by simp only [bk,bks]
theorem one_tail {c:Qc} {s sh st p:List Int} {k ax am e:Int} {y:Qc} (hc:c.shape.length≤1000)
  (hy:e=0→bk y=⟨k,sh,0,st,ax,am,p,[bk (seenC c s)]⟩) :
  oneOK (if e≠0 then some (zeroC,e) else Zw (bk c,s)>>=fun v=>ZZ ((⟨k,sh,0,st,ax,am,p,[]⟩:Qf),v)>>=fun w=>some (w,0)) (y,e):=by
 refine ⟨fun h=>?_,fun h=>⟨zeroC,if_pos h⟩⟩
 simp only at h
 rw [if_neg (fun h2=>h2 h),rseen_okC c s hc,Qd,around_ok,Qd,hy h]
theorem rone3 {l:List Qb} {t:Qa} {c:Qc} (h3:t.kind=3) (hf:t.fn=3∨t.fn=4∨t.fn=6) (hax:-1≤t.axis) (hc:checkR c.shape=0):oneOK (Ys (l,t,bk c)) (monR t c):=by
 have hl:=(checkR_zero.1 hc).2.1
 have hl':c.shape.length≤1000:=by omega
 unfold Ys monR
 rcases hf with hf|hf|hf
 ·have ea:=revR_axis hax (a:=c.shape)
  have hright:(revR t.axis c.shape).2=0→(rr (revR t.axis c.shape).1).right=c.shape:=by
   unfold revR
   split
   ·exact fun _=>rfl
   ·split
    ·exact fun h=>by cases h
    ·exact fun _=>rfl
  simp only [h3,hf,nq34,nq31,show ((3:Int) == 2)=false from rfl,if_true,if_false,Qd,Bool.false_eq_true,bk_shape,rReverse_ok hax hl,etaK]
  generalize revR t.axis c.shape=q at ea hright
  obtain ⟨r,e⟩:=q
  have hra:(rr r).axis=r.axis:=rfl
  simp only [hra] at hright ea ⊢
  by_cases he:e=0
  ·subst he
   have hr:=hright rfl
   simp only [if_true,Qd,turnC]
   by_cases hx:r.axis=-1
   ·simp only [hx,show decide ((-1:Int) < 0)=true from rfl,if_true]
    exact ⟨fun _=>rfl,fun h=>absurd rfl h⟩
   ·have:¬ r.axis < 0:=by omega
    simp only [hx,decide_eq_false this,Bool.false_eq_true,if_false,ne_eq,not_true_eq_false]
    rw [hr,rseen_same c hl',Qd,around_ok,Qd]
    exact ⟨fun _=>by rw [bk_turn]; rfl,fun h=>absurd rfl h⟩
  ·simp only [he,if_false,Qd,Bool.false_eq_true,ne_eq,not_false_eq_true,if_true]
   exact ⟨fun h=>absurd h he,fun _=>⟨_,rfl⟩⟩
 ·simp only [h3,hf,nq34,nq41,nq43,show ((4:Int) == 2)=false from rfl,if_true,if_false,Qd,Bool.false_eq_true,bk_shape,rFlip_ok hc,etaK,ne_eq,not_true_eq_false,around_ok]
  have hr:(rr (flipR c.shape)).right=c.shape:=rfl
  rw [hr,rseen_same c hl',Qd]
  exact ⟨fun _=>by rw [transC]; simp only [bk,bks]; rfl,fun h=>absurd rfl h⟩
 ·simp only [h3,hf,nq34,nq61,nq63,nq64,nq65,show ((6:Int) == 2)=false from rfl,if_true,if_false,Qd,Bool.false_eq_true,bk_shape,rRavel_ok hl',etaK,ne_eq,not_true_eq_false,around_ok]
  have hr:(rr (ravR c.shape)).right=c.shape:=rfl
  rw [hr,rseen_same c hl',Qd]
  exact ⟨fun _=>by rw [reshC]; simp only [bk,bks]; rfl,fun h=>absurd rfl h⟩
theorem seenC_same (c:Qc):seenC c c.shape=c:=if_pos rfl
theorem ext_getD':∀ {a b:List Int},a.length=b.length→(∀ k,k < a.length→a.getD k 0=b.getD k 0)→a=b
 | [],[],_,_=>rfl
 | x::a,y::b,h1,h2=>by
  rw [show x=y by simpa using h2 0 (by simp),ext_getD' (a:=a) (b:=b) (by simpa using h1) fun k hk=>by simpa using h2 (k+1) (by simpa using hk)]
 | [],_::_,h,_=>by cases h
 | _::_,[],h,_=>by cases h
def leastS (j:Int):List (Int × Int)→Int→Int
 | [],v=>v
 | a::l,v=>leastS j l (if a.1=j∧(v < 0∨a.2 < v) then a.2 else v)
def mapR (m:Nat) (g:Nat→Int):List Int:=(List.range m).map g
theorem mapR_len (m:Nat) (g:Nat→Int):(mapR m g).length=m:=by simp [mapR]
theorem mapR_get {m:Nat} {g:Nat→Int} {k:Nat} (h:k < m):(mapR m g).getD k 0=g k:=by simp [mapR,h]
theorem least_perm (i:Nat):∀ (p a l:List Int) (v:Int),p.length=a.length→(∀ x∈p,0≤x)→Dims a→(v=-1∧l.getD i 65536=65536∨0≤v∧v≤65536∧l.getD i 65536=v) →
  (i:Int)∈p∨0≤v→(permF l p a).getD i 65536=leastS i (p.zip a) v
 | [],[],l,v,_,_,_,h,hv=>by
  rw [permF,List.zip_nil_left,leastS]
  ·rcases h with h|h
   ·rcases hv with hv|hv
    ·cases hv
    ·omega
   ·exact h.2.2
  all_goals (intros; simp_all)
 | j::p,x::a,l,v,h1,h2,h3,h,hv=>by
  have hj:=h2 j (List.mem_cons_self ..)
  have hx:=h3 x (List.mem_cons_self ..)
  rw [permF,List.zip_cons_cons,leastS]
  have hs:=stepP_get l j.toNat x i
  by_cases hc:j=i
  ·have e:i=j.toNat:=by omega
   rw [if_pos e,← e] at hs
   refine least_perm i p a _ _ (by simpa using h1) (fun y hy=>h2 y (List.mem_cons_of_mem _ hy)) (fun y hy=>h3 y (List.mem_cons_of_mem _ hy)) (Or.inr ?_) (Or.inr ?_)
   ·dsimp only
    rw [← e,hs]
    unfold minI
    rcases h with ⟨rfl,h⟩|⟨g1,g2,h⟩
    ·rw [h,if_pos ⟨hc,Or.inl (by decide)⟩]; refine ⟨hx.1,hx.2,?_⟩; split <;> omega
    ·rw [h]
     by_cases hq:x < v
     ·rw [if_pos ⟨hc,Or.inr hq⟩,if_pos hq]; omega
     ·rw [if_neg (fun h=>hq (h.2.resolve_left (by omega))),if_neg hq]; omega
   ·split
    ·exact hx.1
    ·rename_i hn
     rcases h with ⟨rfl,_⟩|h
     ·exact absurd ⟨hc,Or.inl (by decide)⟩ hn
     ·exact h.1
  ·have e:¬ i=j.toNat:=by omega
   rw [if_neg e] at hs
   rw [if_neg (fun h=>hc h.1)]
   refine least_perm i p a _ _ (by simpa using h1) (fun y hy=>h2 y (List.mem_cons_of_mem _ hy)) (fun y hy=>h3 y (List.mem_cons_of_mem _ hy)) (by rw [hs]; exact h) ?_
   rcases hv with hv|hv
   ·rcases List.mem_cons.1 hv with hv|hv
    ·exact absurd hv.symm hc
    ·exact Or.inl hv
   ·exact Or.inr hv
 | [],_::_,_,_,h,_,_,_,_=>by cases h
 | _::_,[],_,_,h,_,_,_,_=>by cases h
theorem permF_lt:∀ (p a l:List Int),p.length=a.length→(∀ x∈p,0≤x)→l.length≤(permF l p a).length∧(∀ x∈p,x < ((permF l p a).length:Int))∧(∀ i:Nat,i < (permF l p a).length→i < l.length∨∃ x∈p,(i:Int)≤x)
 | [],[],l,_,_=>by
  have e:permF l [] []=l:=by rw [permF]; intros; simp_all
  rw [e]
  exact ⟨Nat.le_refl _,fun x hx=>(nomatch hx),fun i hi=>Or.inl hi⟩
 | j::p,x::a,l,h1,h2=>by
  obtain ⟨i1,i2,i3⟩:=permF_lt p a (stepP l j.toNat x) (by simpa using h1) (fun y hy=>h2 y (List.mem_cons_of_mem _ hy))
  have hj:=h2 j (List.mem_cons_self ..)
  rw [permF]
  rw [stepP_len] at i1 i3
  refine ⟨by omega,fun y hy=>?_,fun i hi=>?_⟩
  ·rcases List.mem_cons.1 hy with rfl|hy
   ·omega
   ·exact i2 y hy
  ·rcases i3 i hi with h|⟨y,hy,h⟩
   ·by_cases hl:i < l.length
    ·exact Or.inl hl
    ·exact Or.inr ⟨j,List.mem_cons_self ..,by omega⟩
   ·exact Or.inr ⟨y,List.mem_cons_of_mem _ hy,h⟩
 | [],_::_,_,h,_=>by cases h
 | _::_,[],_,h,_=>by cases h
theorem perm_least {v a:List Int} (ha:checkR a=0) (hp:permE v a.length=0):(∀ x∈v,0≤x∧x < ((permL v a).length:Int))∧mapR (permL v a).length (fun j=>leastS j (v.zip a) (-1))=permL v a:=by
 obtain ⟨h1,h2,h3⟩:=permE_zero hp
 obtain ⟨hd,hl,_⟩:=checkR_zero.1 ha
 have h0:∀ x∈v,0≤x:=fun x hx=>(h2 x hx).1
 obtain ⟨_,i2,i3⟩:=permF_lt v a [] h1 h0
 refine ⟨fun x hx=>⟨h0 x hx,i2 x hx⟩,ext_getD' (mapR_len _ _) fun k hk=>?_⟩
 rw [mapR_len] at hk
 rw [mapR_get hk]
 have hm:(k:Int)∈v:=by
  rcases i3 k hk with h|⟨y,hy,hle⟩
  ·simp at h
  ·have hne:v≠[]:=fun e=>by rw [e] at hy; cases hy
   have hpos:a.length > 0:=by have:=List.length_pos_iff.2 hne; omega
   have hs:=h3 hpos
   obtain ⟨g1,g2⟩:=maxL_ge hne
   have hpm:=perm_rng (setOf_nodup v) (fun x hx=>by
    have hx':=(mem_setOf v x).1 hx
    have:=g1 x hx'; have:=h0 x hx'; omega)
   refine (mem_setOf v _).1 (hpm.mem_iff.2 (mem_rng.2 ⟨by omega,?_⟩))
   have:=g1 y hy; omega
 have e:=least_perm k v a [] (-1) h1 h0 hd (Or.inl ⟨rfl,by simp⟩) (Or.inl hm)
 rw [← e]
 show (permF [] v a).getD k 65536=(permF [] v a).getD k 0
 have hk':k < (permF [] v a).length:=hk
 simp [List.getD_eq_getElem?_getD,hk']
inductive nd (bs:List (List Int)):Qc→Prop
 | buf {s:List Int} {j:Nat} (h:bs[j]? = some s) (hs:checkR s=0):nd bs ⟨1,s,(j:Int),[],0,0,[],[]⟩
 | win {s st:List Int} {k:Qc} (hs:checkR s=0) (h1:st.length=s.length) (h2:k.shape.length=s.length) (h3:∀ x∈st,-65536≤x∧x≤65536):nd bs ⟨2,s,0,st,0,0,[],[k]⟩
 | rev {s:List Int} {a:Int} {k:Qc} (hs:checkR s=0) (h:k.shape=s) (h0:0≤a) (h1:a < (s.length:Int)):nd bs ⟨3,s,0,[],a,0,[],[k]⟩
 | rot {s:List Int} {j:Nat} {n:Int} {k:Qc} (hs:checkR s=0) (h:k.shape=s) (h1:j < s.length) (h2:0≤n) (h3:n < 1∨n < s.getD j 0):nd bs ⟨4,s,0,[],(j:Int),n,[],[k]⟩
 | tra {s p:List Int} {k:Qc} (hs:checkR s=0) (h:p.length=k.shape.length) (h1:∀ x∈p,0≤x∧x < (s.length:Int)) (h2:mapR s.length (fun j=>leastS j (p.zip k.shape) (-1))=s):nd bs ⟨5,s,0,[],0,0,p,[k]⟩
 | rsh {s:List Int} {k:Qc} (hs:checkR s=0):nd bs ⟨6,s,0,[],0,0,[],[k]⟩
 | cat {s:List Int} {j:Nat} {k k2:Qc} (hs:checkR s=0) (h1:j < k.shape.length) (h2:k2.shape.length=k.shape.length) (h3:repL k2.shape j (k.shape.getD j 0)=k.shape)
   (h4:repL k.shape j (k.shape.getD j 0+k2.shape.getD j 0)=s):nd bs ⟨7,s,0,[],(j:Int),0,[],[k,k2]⟩
mutual
def okC (bs:List (List Int)):Qc→Prop
 | ⟨k,s,b,st,ax,am,pe,ks⟩=>(nd bs ⟨k,s,b,st,ax,am,pe,ks⟩∧checkR s=0)∧okCs bs ks
def okCs (bs:List (List Int)):List Qc→Prop
 | []=>True
 | k::ks=>okC bs k∧okCs bs ks
end
mutual
def dpC:Qc→Nat
 | ⟨_,_,_,_,_,_,_,ks⟩=>dpCs ks+1
def dpCs:List Qc→Nat
 | []=>0
 | k::ks=>max (dpC k) (dpCs ks)
end
theorem okC_f {bs:List (List Int)} {c:Qc}:okC bs c↔(nd bs c∧checkR c.shape=0)∧okCs bs c.kids:=by cases c; rw [okC]
theorem dpC_f (c:Qc):dpC c=dpCs c.kids+1:=by cases c; rw [dpC]
theorem okCs_mem {bs:List (List Int)}:∀ {l:List Qc},okCs bs l→∀ k∈l,okC bs k
 | [],_,k,h=>(nomatch h)
 | x::l,h,k,hk=>by
  rw [okCs] at h
  rcases List.mem_cons.1 hk with rfl|hk
  ·exact h.1
  ·exact okCs_mem h.2 k hk
theorem nd.mono {bs:List (List Int)} (r:List (List Int)) {c:Qc} (h:nd bs c):nd (bs++r) c:=by
 cases h with
 | @buf s j h hs=>exact .buf (by rw [List.getElem?_append_left (List.getElem?_eq_some_iff.1 h).1]; exact h) hs
 | win a b c d=>exact .win a b c d
 | rev a b c d=>exact .rev a b c d
 | rot a b c d e=>exact .rot a b c d e
 | tra a b c d=>exact .tra a b c d
 | rsh a=>exact .rsh a
 | cat a b c d e=>exact .cat a b c d e
mutual
theorem okC.mono {bs:List (List Int)} (r:List (List Int)):∀ c:Qc,okC bs c→okC (bs++r) c
 | ⟨k,s,b,st,ax,am,pe,ks⟩,h=>by
  rw [okC] at h ⊢
  exact ⟨⟨h.1.1.mono r,h.1.2⟩,okCs.mono r ks h.2⟩
theorem okCs.mono {bs:List (List Int)} (r:List (List Int)):∀ l:List Qc,okCs bs l→okCs (bs++r) l
 | [],_=>by rw [okCs]; trivial
 | k::ks,h=>by
  rw [okCs] at h ⊢
  exact ⟨okC.mono r k h.1,okCs.mono r ks h.2⟩
end
theorem ok1 {bs:List (List Int)} {c k:Qc} (hk:c.kids=[k]) (hn:nd bs c) (hs:checkR c.shape=0) (h:okC bs k):okC bs c∧dpC c=dpC k+1:=by
 refine ⟨okC_f.2 ⟨⟨hn,hs⟩,?_⟩,?_⟩
 ·rw [hk,okCs,okCs]; exact ⟨h,trivial⟩
 ·rw [dpC_f,hk,dpCs,dpCs]; omega
theorem seenC_right {bs:List (List Int)} {c:Qc} {s:List Int} (h:okC bs c) (hs:checkR s=0):okC bs (seenC c s)∧(seenC c s).shape=s∧dpC (seenC c s)≤dpC c+1:=by
 unfold seenC
 split
 ·rename_i e; exact ⟨h,e,by omega⟩
 ·obtain ⟨a,b⟩:=ok1 (c:=reshC s c) rfl (nd.rsh hs) hs h
  exact ⟨a,rfl,by omega⟩
theorem okC_shape {bs:List (List Int)} {c:Qc} (h:okC bs c):checkR c.shape=0:=(okC_f.1 h).1.2
theorem take_right {bs:List (List Int)} {c:Qc} {v:List Int} (h:okC bs c) (he:(takeR v c.shape).2=0):okC bs (winC (takeR v c.shape).1 c)∧dpC (winC (takeR v c.shape).1 c)≤dpC c+2:=by
 have hc:=okC_shape h
 have hr:=okR_take (l:=v) hc
 have ht:takeE v c.shape=0:=by
  unfold takeR at he
  by_cases ht:takeE v c.shape=0
  ·exact ht
  ·rw [if_neg ht] at he; exact he
 have e:(takeR v c.shape).1=⟨[],seenL c.shape v.length,v.map absI,List.zipWith stI v (seenL c.shape v.length),-1,0,[]⟩:=by rw [takeR,if_pos ht]
 rw [e] at hr ⊢
 obtain ⟨_,r2,r3⟩:=hr
 obtain ⟨s1,s2,s3⟩:=seenC_right h r2
 have hl:v.length=(seenL c.shape v.length).length:=by
  unfold takeE at ht
  by_cases c1:c.shape=[]∧v.length > 16
  ·rw [if_pos c1] at ht; cases ht
  rw [if_neg c1] at ht
  by_cases c2:v.length≠(seenL c.shape v.length).length
  ·rw [if_pos c2] at ht; cases ht
  ·exact Decidable.not_not.1 c2
 have hb:v.any bigM=false:=by
  unfold takeE at ht
  by_cases c1:c.shape=[]∧v.length > 16
  ·rw [if_pos c1] at ht; cases ht
  rw [if_neg c1,if_neg (fun h=>h hl)] at ht
  by_cases c2:v.any bigM=true
  ·rw [if_pos c2] at ht; cases ht
  ·simpa using c2
 obtain ⟨a,b⟩:=ok1 (bs:=bs) (c:=winC ⟨[],seenL c.shape v.length,v.map absI,List.zipWith stI v (seenL c.shape v.length),-1,0,[]⟩ c) rfl (nd.win r3 (by simp; omega) (by rw [s2]; simp; omega) (fun x hx=>by
  obtain ⟨i,hi,e⟩:=List.getElem_of_mem hx
  simp only [List.length_zipWith] at hi
  simp only [List.getElem_zipWith] at e
  have m1:v[i]∈v:=List.getElem_mem (by omega)
  have hd:=(checkR_zero.1 r2).1 _ (List.getElem_mem (l:=seenL c.shape v.length) (n:=i) (by omega))
  have hv:bigM v[i]=false:=by
   have:=List.any_eq_false.1 hb _ m1
   simpa using this
  have hv':-65536≤v[i]∧v[i]≤65536:=by simp [bigM] at hv; omega
  rw [← e]
  unfold stI absI
  split
  ·omega
  ·omega)) r3 s1
 exact ⟨a,by omega⟩
theorem drop_right {bs:List (List Int)} {c:Qc} {v:List Int} (h:okC bs c) (he:(dropR v c.shape).2=0):okC bs (winC (dropR v c.shape).1 c)∧dpC (winC (dropR v c.shape).1 c)≤dpC c+2:=by
 have hc:=okC_shape h
 have hr:=okR_drop (l:=v) hc
 have ht:dropE v c.shape=0:=by
  unfold dropR at he
  by_cases ht:dropE v c.shape=0
  ·exact ht
  ·rw [if_neg ht] at he; exact he
 have e:(dropR v c.shape).1=⟨[],seenL c.shape v.length,dropL v (seenL c.shape v.length),dropF v (seenL c.shape v.length),-1,0,[]⟩:=by rw [dropR,if_pos ht]
 rw [e] at hr ⊢
 obtain ⟨_,r2,r3⟩:=hr
 obtain ⟨s1,s2,s3⟩:=seenC_right h r2
 have hl:¬ v.length > (seenL c.shape v.length).length:=by
  unfold dropE at ht
  by_cases c1:c.shape=[]∧v.length > 16
  ·rw [if_pos c1] at ht; cases ht
  rw [if_neg c1] at ht
  intro c2
  rw [if_pos c2] at ht; cases ht
 generalize seenL c.shape v.length=r at *
 have hd:=(checkR_zero.1 r2).1
 have e1:(dropL v r).length=r.length:=by simp [dropL]; omega
 obtain ⟨a,b⟩:=ok1 (bs:=bs) (c:=winC ⟨[],r,dropL v r,dropF v r,-1,0,[]⟩ c) rfl (nd.win r3 (by rw [e1]; simp [dropF]; omega) (by rw [s2,e1]) (fun x hx=>by
  rcases List.mem_append.1 hx with hx|hx
  ·obtain ⟨i,hi,e⟩:=List.getElem_of_mem hx
   simp only [List.length_zipWith] at hi
   simp only [List.getElem_zipWith] at e
   have hd':=hd _ (List.getElem_mem (l:=r) (n:=i) (by omega))
   rw [← e]
   unfold dropS absI
   split
   ·omega
   ·split <;> omega
  ·rw [(List.mem_replicate.1 hx).2]; omega)) r3 s1
 exact ⟨a,by omega⟩
theorem turn_right {bs:List (List Int)} {c:Qc} {k:Int} {r:Qt} (h:okC bs c) (hn:¬ r.axis=-1→nd bs ⟨k,r.shape,0,[],r.axis,r.amount,[],[c]⟩∧checkR r.shape=0):okC bs (turnC k r c)∧dpC (turnC k r c)≤dpC c+2:=by
 unfold turnC
 by_cases e:r.axis=-1
 ·rw [if_pos e]; exact ⟨h,by omega⟩
 ·rw [if_neg e]
  obtain ⟨a,b⟩:=ok1 (bs:=bs) (c:=⟨k,r.shape,0,[],r.axis,r.amount,[],[c]⟩) rfl (hn e).1 (hn e).2 h
  exact ⟨a,by omega⟩
theorem revR_in {ax:Int} {a:List Int} (hax:-1≤ax) (he:(revR ax a).2=0):(revR ax a).1.shape=a∧(revR ax a).1.amount=0∧-1≤(revR ax a).1.axis∧(revR ax a).1.axis < (a.length:Int):=by
 unfold revR at he ⊢
 by_cases h1:ax=-1
 ·simp only [h1,if_true] at he ⊢; refine ⟨trivial,trivial,by omega,by omega⟩
 ·by_cases h2:ax≥(a.length:Int)
  ·simp only [h1,h2,if_true,if_false] at he; cases he
  ·simp only [h1,h2,if_false] at he ⊢; refine ⟨trivial,trivial,by omega,by omega⟩
theorem rev_right {bs:List (List Int)} {c:Qc} {ax:Int} (hax:-1≤ax) (h:okC bs c) (he:(revR ax c.shape).2=0):okC bs (turnC 3 (revR ax c.shape).1 c)∧dpC (turnC 3 (revR ax c.shape).1 c)≤dpC c+2:=by
 obtain ⟨h1,h2,h3,h4⟩:=revR_in hax he
 refine turn_right h fun e=>?_
 rw [h1,h2]
 exact ⟨nd.rev (okC_shape h) rfl (by omega) h4,okC_shape h⟩
theorem modI_in (x d:Int):0≤modI x d∧(modI x d < 1∨modI x d < d):=by
 unfold modI
 split
 ·omega
 ·have:=Int.emod_nonneg x (show d≠0 by omega); have:=Int.emod_lt_of_pos x (show 0 < d by omega); omega
theorem rot_right {bs:List (List Int)} {c:Qc} {v:List Int} {ax:Int} (hax:-1≤ax) (h:okC bs c) (he:(rotR v ax c.shape).2=0):okC bs (turnC 4 (rotR v ax c.shape).1 c)∧dpC (turnC 4 (rotR v ax c.shape).1 c)≤dpC c+2:=by
 refine turn_right h fun e=>?_
 unfold rotR at he e ⊢
 by_cases h1:v.length≠1
 ·rw [if_pos h1] at he; cases he
 rw [if_neg h1] at he e ⊢
 by_cases h2:(revR ax c.shape).2≠0
 ·rw [if_pos h2] at he; exact absurd he h2
 rw [if_neg h2] at e ⊢
 obtain ⟨_,_,g3,g4⟩:=revR_in hax (Decidable.not_not.1 h2)
 dsimp only at e ⊢
 obtain ⟨j,hj⟩:=Int.eq_ofNat_of_zero_le (show 0≤(revR ax c.shape).1.axis by omega)
 rw [hj] at g4 ⊢
 have hm:=modI_in (v.getD 0 0) (c.shape.getD j 0)
 refine ⟨nd.rot (okC_shape h) rfl (by omega) ?_ ?_,okC_shape h⟩
 ·rw [if_neg (by omega),Int.toNat_natCast]; exact hm.1
 ·rw [if_neg (by omega),Int.toNat_natCast]; exact hm.2
theorem trans_right {bs:List (List Int)} {c:Qc} {v:List Int} (h:okC bs c) (hp:permE v c.shape.length=0) (hs:checkR (permL v c.shape)=0) (r:Qt) (hr:r.shape=permL v c.shape) (hr2:r.perm=v):okC bs (transC r c)∧dpC (transC r c)≤dpC c+2:=by
 obtain ⟨p1,p2⟩:=perm_least (okC_shape h) hp
 obtain ⟨a,b⟩:=ok1 (bs:=bs) (c:=transC r c) rfl (by unfold transC; rw [hr,hr2]; exact nd.tra hs (permE_zero hp).1 p1 p2) (by show checkR r.shape=0; rw [hr]; exact hs) h
 exact ⟨a,by omega⟩
theorem resh_right {bs:List (List Int)} {c:Qc} {s:List Int} (h:okC bs c) (hs:checkR s=0):okC bs (reshC s c)∧dpC (reshC s c)≤dpC c+2:=by
 obtain ⟨a,b⟩:=ok1 (bs:=bs) (c:=reshC s c) rfl (nd.rsh hs) hs h
 exact ⟨a,by omega⟩
theorem monR_ok {bs:List (List Int)} {t:Qa} {c:Qc} (hax:-1≤t.axis) (h:okC bs c) (he:(monR t c).2=0):okC bs (monR t c).1∧dpC (monR t c).1≤dpC c+2:=by
 have hc:=okC_shape h
 unfold monR at he ⊢
 by_cases h3:t.fn=3
 ·rw [if_pos h3] at he ⊢; exact rev_right hax h he
 rw [if_neg h3] at he ⊢
 by_cases h4:t.fn=4
 ·rw [if_pos h4]
  exact trans_right h (dn_perm c.shape.length) (okR_flip hc).2.2 _ rfl rfl
 ·rw [if_neg h4]
  exact resh_right h (cells_check hc)
theorem meaR_ok {bs:List (List Int)} {t:Qa} {c:Qc} {v:List Int} (hax:-1≤t.axis) (h:okC bs c) (he:(meaR t c v).2=0):okC bs (meaR t c v).1∧dpC (meaR t c v).1≤dpC c+2:=by
 have hc:=okC_shape h
 unfold meaR at he ⊢
 by_cases h1:t.fn=1
 ·rw [if_pos h1] at he ⊢; exact take_right h he
 rw [if_neg h1] at he ⊢
 by_cases h2:t.fn=2
 ·rw [if_pos h2] at he ⊢; exact drop_right h he
 rw [if_neg h2] at he ⊢
 by_cases h3:t.fn=3
 ·rw [if_pos h3] at he ⊢; exact rot_right hax h he
 rw [if_neg h3] at he ⊢
 by_cases h4:t.fn=4
 ·rw [if_pos h4] at he ⊢
  have ht:transE v c.shape=0:=by
   unfold transR at he
   by_cases ht:transE v c.shape=0
   ·exact ht
   ·rw [if_neg ht] at he; exact he
  have e:(transR v c.shape).1=⟨[],c.shape,permL v c.shape,[],-1,0,v⟩:=by rw [transR,if_pos ht]
  dsimp only
  rw [e]
  unfold transE at ht
  by_cases hp:permE v c.shape.length=0
  ·rw [if_pos hp] at ht
   exact trans_right h hp ht _ rfl rfl
  ·rw [if_neg hp] at ht; exact absurd ht hp
 ·rw [if_neg h4] at he ⊢
  exact resh_right h (okR_resh hc).2.2
theorem cat_right {bs:List (List Int)} {ax:Int} {d c:Qc} (hax:-1≤ax) (hd:okC bs d) (hc:okC bs c) (he:(catR ax d.shape c.shape).2=0) :
  okC bs ⟨7,(catR ax d.shape c.shape).1.shape,0,[],(catR ax d.shape c.shape).1.axis,0,[],[seenC d (catR ax d.shape c.shape).1.left,seenC c (catR ax d.shape c.shape).1.right]⟩ ∧
  dpC ⟨7,(catR ax d.shape c.shape).1.shape,0,[],(catR ax d.shape c.shape).1.axis,0,[],[seenC d (catR ax d.shape c.shape).1.left,seenC c (catR ax d.shape c.shape).1.right]⟩≤max (dpC d) (dpC c)+2:=by
 have hok:=okR_cat hax (okC_shape hd) (okC_shape hc)
 obtain ⟨k1,k2,k3⟩:=hok
 obtain ⟨s1,s2,s3⟩:=seenC_right hd k1
 obtain ⟨t1,t2,t3⟩:=seenC_right hc k2
 refine ⟨okC_f.2 ⟨⟨?_,k3⟩,by show okCs bs [_,_]; rw [okCs,okCs,okCs]; exact ⟨s1,t1,trivial⟩⟩,by rw [dpC_f]; show dpCs [_,_]+1≤_; rw [dpCs,dpCs,dpCs]; omega⟩
 generalize hX:seenC d (catR ax d.shape c.shape).1.left=X at *
 generalize hY:seenC c (catR ax d.shape c.shape).1.right=Y at *
 clear hX hY
 unfold catR at he k3 s2 t2 ⊢
 generalize hR:max (max d.shape.length c.shape.length) 1=R at *
 dsimp only at he k3 s2 t2 ⊢
 by_cases h1:ax≥(R:Int)
 ·rw [if_pos h1] at he; cases he
 rw [if_neg h1] at he k3 s2 t2 ⊢
 have hkR:(if ax=-1 then (R:Int) - 1 else ax).toNat < R:=by split <;> omega
 generalize (if ax=-1 then (R:Int) - 1 else ax).toNat=k at *
 split at he
 ·cases he
 ·rename_i hbad
  rw [if_neg hbad] at k3 s2 t2 ⊢
  split at he
  ·rename_i ht
   rw [if_pos ht] at k3 s2 t2 ⊢
   dsimp only at k3 s2 t2 ⊢
   have lX:(widR d.shape c.shape R k).length=R:=widR_len hkR (by omega)
   have lY:(widR c.shape d.shape R k).length=R:=widR_len hkR (by omega)
   rw [← s2] at lX ht k3 ⊢
   rw [← t2] at lY ht k3 ⊢
   unfold tailE at ht
   by_cases c1:remL X.shape k=remL Y.shape k
   ·refine nd.cat k3 (by omega) (by omega) ?_ rfl
    have kX:k < X.shape.length:=by omega
    rw [rep_other (show k < Y.shape.length by omega) kX c1.symm,getD_el kX]
    exact rep_self kX
   ·rw [if_pos c1] at ht; cases ht
  ·exact absurd he (by assumption)
mutual
def stepsL:Qa→List Qa
 | ⟨k,f,a,nm,nu,ks⟩=>stepsR ks++[⟨k,f,a,nm,nu,ks⟩]
def stepsR:List Qa→List Qa
 | []=>[]
 | k::ks=>stepsR ks++stepsL k
end
theorem stepsL_f (t:Qa):stepsL t=stepsR t.kids++[t]:=by cases t; rw [stepsL]
theorem stepsR_one (k:Qa):stepsR [k]=stepsL k:=by simp [stepsR]
theorem stepsR_two (a k:Qa):stepsR [a,k]=stepsL k++stepsL a:=by simp [stepsR]
theorem stepsR_snoc:∀ (l:List Qa) (k:Qa),stepsR (l++[k])=stepsL k++stepsR l
 | [],k=>by simp [stepsR]
 | x::l,k=>by rw [List.cons_append,stepsR,stepsR_snoc l k,stepsR,List.append_assoc]
mutual
theorem stepsL_len:∀ t:Qa,(stepsL t).length=szT t
 | ⟨_,_,_,_,_,ks⟩=>by rw [stepsL,szT,List.length_append,stepsR_len ks]; simp; omega
theorem stepsR_len:∀ l:List Qa,(stepsR l).length=szTs l
 | []=>rfl
 | k::ks=>by rw [stepsR,szTs,List.length_append,stepsR_len ks,stepsL_len k]; omega
end
instance (v:ByteArray) (N:List ByteArray):Decidable (v∈N):=decidable_of_iff (∃ y∈N,y=v) (by simp)
def addN (N:List ByteArray) (x:Qa):List ByteArray:=if x.kind=2∧x.name ∉ N then N++[x.name] else N
def namesF (N:List ByteArray) (l:List Qa):List ByteArray:=l.foldl addN N
theorem addN_not {x:Qa} (h:x.kind≠2) (N:List ByteArray):addN N x=N:=by unfold addN; rw [if_neg (fun h'=>h h'.1)]
theorem addN_two {x:Qa} (h:x.kind=2) (N:List ByteArray):addN N x=if x.name∈N then N else N++[x.name]:=by
 unfold addN
 by_cases hx:x.name∈N
 ·rw [if_neg (fun h'=>h'.2 hx),if_pos hx]
 ·rw [if_pos ⟨h,hx⟩,if_neg hx]
def ixN:List ByteArray→ByteArray→Nat
 | [],_=>0
 | x::l,v=>if x=v then 0 else ixN l v+1
theorem ixN_lt:∀ {l:List ByteArray} {v:ByteArray},v∈l→ixN l v < l.length
 | x::l,v,h=>by
  rw [ixN]
  split
  ·simp
  ·rename_i hx
   have:=ixN_lt ((List.mem_cons.1 h).resolve_left (fun h'=>hx h'.symm))
   simp only [List.length_cons]; omega
theorem ixN_app:∀ {l:List ByteArray} {v:ByteArray} (m:List ByteArray),v∈l→ixN (l++m) v=ixN l v
 | x::l,v,m,h=>by
  rw [List.cons_append,ixN,ixN]
  split
  ·rfl
  ·rename_i hx
   rw [ixN_app m ((List.mem_cons.1 h).resolve_left (fun h'=>hx h'.symm))]
theorem ixN_snoc:∀ {l:List ByteArray} {v:ByteArray},v ∉ l→ixN (l++[v]) v=l.length
 | [],v,_=>by rw [List.nil_append,ixN,if_pos rfl]; rfl
 | x::l,v,h=>by
  rw [List.cons_append,ixN,if_neg (fun h'=>h (by rw [h']; exact List.mem_cons_self ..)),ixN_snoc (fun h'=>h (List.mem_cons_of_mem _ h'))]
  rfl
structure InvS (Z:ByteArray→Prop) (N:List ByteArray) (S:List Ql):Prop where
 met:∀ s∈S,s.name≠ByteArray.empty→s.name∈N
 has:∀ v∈N,¬ Z v→∃ s∈S,s.name=v
 once:S.Pairwise (fun a b=>b.name≠ByteArray.empty→a.name≠b.name)
 order:S.Pairwise (fun a b=>a.name≠ByteArray.empty→b.name≠ByteArray.empty→¬ Z b.name→ixN N a.name < ixN N b.name)
theorem InvS.nil (Z:ByteArray→Prop):InvS Z [] []:=⟨fun _ h=>(nomatch h),fun _ h=>(nomatch h),List.Pairwise.nil,List.Pairwise.nil⟩
theorem InvS.grow {Z:ByteArray→Prop} {N:List ByteArray} {S:List Ql} (h:InvS Z N S) (v:ByteArray) (hv:Z v∨∃ s∈S,s.name=v):InvS Z (N++[v]) S:=by
 refine ⟨fun s hs hn=>List.mem_append_left _ (h.met s hs hn),fun w hw hz=>?_,h.once,?_⟩
 ·rcases List.mem_append.1 hw with hw|hw
  ·exact h.has w hw hz
  ·rw [List.mem_singleton.1 hw] at hz ⊢
   exact hv.resolve_left hz
 ·refine List.Pairwise.imp_of_mem (fun {a b} ha hb hab na nb zb=>?_) h.order
  rw [ixN_app _ (h.met a ha na),ixN_app _ (h.met b hb nb)]
  exact hab na nb zb
theorem InvS.lit {Z:ByteArray→Prop} {N:List ByteArray} {S:List Ql} (h:InvS Z N S) (a:Qq):InvS Z N (S++[⟨ByteArray.empty,a⟩]):=by
 refine ⟨fun s hs hn=>?_,fun w hw hz=>?_,?_,?_⟩
 ·rcases List.mem_append.1 hs with hs|hs
  ·exact h.met s hs hn
  ·rw [List.mem_singleton.1 hs] at hn; exact absurd rfl hn
 ·obtain ⟨s,hs,e⟩:=h.has w hw hz
  exact ⟨s,List.mem_append_left _ hs,e⟩
 ·exact List.pairwise_append.2 ⟨h.once,List.pairwise_singleton _ _,fun x _ y hy hn=>by rw [List.mem_singleton.1 hy] at hn; exact absurd rfl hn⟩
 ·exact List.pairwise_append.2 ⟨h.order,List.pairwise_singleton _ _,fun x _ y hy _ hn=>by rw [List.mem_singleton.1 hy] at hn; exact absurd rfl hn⟩
theorem InvS.read {Z:ByteArray→Prop} {N:List ByteArray} {S:List Ql} (h:InvS Z N S) {x:Qa} (hk:x.kind=2) (hn:x.name≠ByteArray.empty) (a:Qq) :
  InvS Z (addN N x) (if ∃ s∈S,s.name=x.name then S else S++[⟨x.name,a⟩]):=by
 rw [addN_two hk]
 by_cases hS:∃ s∈S,s.name=x.name
 ·rw [if_pos hS]
  split
  ·exact h
  ·exact h.grow _ (Or.inr hS)
 ·rw [if_neg hS]
  have tail:∀ N',(∀ v∈N,v∈N')→(∀ v∈N',v∈N∨v=x.name)→x.name∈N'→(∀ v∈N,ixN N' v=ixN N v)→(¬ Z x.name→ixN N' x.name=N.length)→InvS Z N' (S++[⟨x.name,a⟩]):=fun N' i1 i2 i3 i4 i5=>by
   refine ⟨fun s hs hn=>?_,fun w hw hz=>?_,?_,?_⟩
   ·rcases List.mem_append.1 hs with hs|hs
    ·exact i1 _ (h.met s hs hn)
    ·rw [List.mem_singleton.1 hs]; exact i3
   ·rcases i2 w hw with hw|hw
    ·obtain ⟨s,hs,e⟩:=h.has w hw hz
     exact ⟨s,List.mem_append_left _ hs,e⟩
    ·exact ⟨_,List.mem_append_right _ (List.mem_singleton.2 rfl),hw.symm⟩
   ·exact List.pairwise_append.2 ⟨h.once,List.pairwise_singleton _ _,fun y hy z hz _ e=>hS ⟨y,hy,by rw [List.mem_singleton.1 hz] at e; exact e⟩⟩
   ·refine List.pairwise_append.2 ⟨List.Pairwise.imp_of_mem (fun {p q} hp hq hpq np nq zq=>?_) h.order,List.pairwise_singleton _ _,fun y hy z hz ny _ zz=>?_⟩
    ·rw [i4 _ (h.met p hp np),i4 _ (h.met q hq nq)]
     exact hpq np nq zq
    ·rw [List.mem_singleton.1 hz] at zz ⊢
     rw [i4 _ (h.met y hy ny),i5 zz]
     exact ixN_lt (h.met y hy ny)
  by_cases hN:x.name∈N
  ·rw [if_pos hN]
   exact tail N (fun _ h=>h) (fun _ h=>Or.inl h) hN (fun _ _=>rfl) (fun hz=>absurd (h.has _ hN hz) hS)
  ·rw [if_neg hN]
   exact tail _ (fun _ h=>List.mem_append_left _ h) (fun v hv=>(List.mem_append.1 hv).imp_right (fun h=>List.mem_singleton.1 h)) (List.mem_append_right _ (List.mem_singleton.2 rfl)) (fun v hv=>ixN_app _ hv) (fun _=>ixN_snoc hN)
theorem InvS.measure {Z:ByteArray→Prop} {N:List ByteArray} {S:List Ql} (h:InvS Z N S) {x:Qa} (hz:x.kind=2→Z x.name):InvS Z (addN N x) S:=by
 unfold addN
 split
 ·rename_i hx
  exact h.grow _ (Or.inl (hz hx.1))
 ·exact h
theorem steps_is:∀ (n:Nat) (t:Qa),szT t≤n→n≤600→Jm t=some (stepsL t)
 | 0,t,h,_=>by have:=szT_pos t; omega
 | n+1,t,h,hn=>by
  have hsz:=szT_f t
  have hlen:=szTs_len t.kids
  have loop:∀ (m:Nat) (acc:List Qa),m≤t.kids.length→acc.length+szTs (t.kids.take m)≤600 →
    Z1 (t,acc,(m:Int) - 1)=some (acc++stepsR (t.kids.take m)):=by
   intro m
   induction m with
   | zero =>
    intro acc _ _
    rw [Z1]
    have:¬ (((0:Nat):Int) - 1≥0):=by omega
    simp only [this,if_false]
    simp [stepsR]
   | succ m ih =>
    intro acc hm ha
    have hml:m < t.kids.length:=hm
    have htk:t.kids.take (m+1)=t.kids.take m++[t.kids[m]]:=List.take_succ_eq_append_getElem hml
    have hs1:szTs (t.kids.take (m+1))=szTs (t.kids.take m)+szT t.kids[m]:=by rw [htk,szTs_app]; simp [szTs]
    have hall:szTs (t.kids.take (m+1))≤szTs t.kids:=by
     have:=szTs_app (t.kids.take (m+1)) (t.kids.drop (m+1))
     rw [List.take_append_drop] at this; omega
    have e:=steps_is n t.kids[m] (by omega) (by omega)
    have hl:=stepsL_len t.kids[m]
    have h1:(((m+1:Nat):Int) - 1≥0):=by omega
    have h2:((m+1:Nat):Int) - 1=(m:Int):=by omega
    have eo:=ih (acc++stepsL t.kids[m]) (by omega) (by simp; omega)
    rw [Z1]
    simp only [h1,if_true]
    rw [h2,W_ok (n:=(m:Int) - 1) (by omega) (by omega)]
    simp only [idx_ok hml,Qd,e,app_le2 (b:=88) (l:=acc) (es:=stepsL t.kids[m]) (by omega) (by omega),eo]
    rw [htk,stepsR_snoc,List.append_assoc]
  have eo:=loop t.kids.length [] (Nat.le_refl _) (by rw [List.take_length]; simp; omega)
  rw [List.take_length,List.nil_append] at eo
  have hl:=stepsR_len t.kids
  rw [Jm]
  have w:W ((t.kids.length:Int) - 1)=(t.kids.length:Int) - 1:=W_ok (by omega) (by omega)
  simp only [w,eo,Qd,app_le2 (b:=88) (l:=stepsR t.kids) (es:=[t]) (by simp; omega) (by omega)]
  rw [stepsL_f]
theorem in_L1is (nm:ByteArray):∀ (s p:List ByteArray),(p++s).length≤1000→XN (p++s,nm,(p.length:Int))=some (if nm∈s then .inl () else .inr ())
 | [],p,h=>by rw [XN]; simp only [Z4,if_false,List.not_mem_nil]
 | x::s,p,h=>by
  have ih:=in_L1is nm s (p++[x]) (by rw [← Qz]; exact h)
  rw [← Qz] at ih
  rw [XN]
  simp only [Zi,if_true,QR,Qd,mid_W (Sm_le h),ih]
  by_cases hx:x=nm
  ·rw [if_pos hx,if_pos (by rw [hx]; exact List.mem_cons_self ..)]
  ·rw [if_neg hx]
   by_cases hs:nm∈s
   ·rw [if_pos hs,if_pos (List.mem_cons_of_mem _ hs)]
   ·rw [if_neg hs,if_neg (fun h=>(List.mem_cons.1 h).elim (fun h=>hx h.symm) hs)]
theorem in_is (nm:ByteArray) (l:List ByteArray) (h:l.length≤1000):QbC (nm,l)=some (decide (nm∈l)):=by
 have e:=in_L1is nm l [] h
 simp only [List.nil_append,List.length_nil,Int.natCast_zero] at e
 unfold QbC
 simp only [e,Qd]
 by_cases hx:nm∈l <;> simp [hx]
theorem names_L1is (t:Qa):∀ (s p:List Qa) (acc:List ByteArray),(p++s).length≤1000→acc.length≤p.length→Ym (p++s,t,acc,(p.length:Int))=some (namesF acc s)
 | [],p,acc,h,_=>by rw [Ym]; simp only [Z4,if_false]; rfl
 | x::s,p,acc,h,ha=>by
  have ih:=fun acc' (h':acc'.length≤p.length+1)=>names_L1is t s (p++[x]) acc' (by rw [← Qz]; exact h) (by simpa using h')
  simp only [← Qz] at ih
  have hp:p.length≤1000:=by simp at h; omega
  have eb:=in_is x.name acc (by omega)
  have e1:=ih acc (by omega)
  have e2:=ih (acc++[x.name]) (by simp; omega)
  rw [Ym]
  simp only [Zi,if_true,QR,Qd,mid_W (Sm_le h),eb,e1,app_le2 (b:=16) (l:=acc) (es:=[x.name]) (by simp; omega) (by omega),e2]
  show _=some (namesF (addN acc x) s)
  by_cases hk:x.kind=2
  ·rw [addN_two hk]
   by_cases hm:x.name∈acc
   ·simp [hk,hm]
   ·simp [hk,hm]
  ·rw [addN_not hk]
   simp [hk]
theorem names_is {t:Qa} (h:szT t≤600):QaY t=some (namesF [] (stepsL t)):=by
 have e:=steps_is 600 t h (by omega)
 have hl:=stepsL_len t
 have eo:=names_L1is t (stepsL t) [] [] (by simp; omega) (by simp)
 simp only [List.nil_append,List.length_nil,Int.natCast_zero] at eo
 unfold QaY
 simp only [e,Qd,eo]
theorem sidx_dec {s:ByteArray} {i:Nat} {v:Int} (hv:sidx s (i:Int)=some v) (ha:v < 128):Utf8.decode s i=(v.toNat,1)∧0≤v:=by
 unfold sidx at hv
 rw [if_pos (by omega)] at hv
 simp only [Int.toNat_natCast,Option.map_eq_some_iff] at hv
 obtain ⟨b,hb,rfl⟩:=hv
 obtain ⟨h,rfl⟩:=Array.getElem?_eq_some_iff.1 hb
 exact ⟨decode_ascii s i h (by show (s.data[i]).toNat < 128; omega),by omega⟩
theorem letter_lt {v:Int} (h:ZW v=some true):v < 128:=by
 unfold ZW at h
 simp only [ite_som,Qd,Option.some.injEq] at h
 by_cases h1:v < 128
 ·exact h1
 ·have e1:¬ v≤90:=by omega
  have e2:¬ v≤122:=by omega
  have e3:¬ v=95:=by omega
  simp [e1,e2,e3] at h
theorem digit_lt {v:Int} (h:Yv v=some true):v < 128:=by
 unfold Yv at h
 simp only [ite_som,Option.some.injEq] at h
 by_cases h1:v < 128
 ·exact h1
 ·have e1:¬ v≤57:=by omega
  simp [e1] at h
theorem lex_letter (v:Int):QaC v=ZW v:=rfl
theorem lex_digit (v:Int):QcL v=Yv v:=rfl
theorem span_end (s:ByteArray) (hs:s.size≤1000000000000000000):∀ m i:Nat,i+m=s.size→Zu (s,(i:Int))=some (s.size:Int)→Zz (s,i)=some (.inr s.size)
 | 0,i,h,_=>by
  rw [Zz]
  have:¬ i < s.size:=by omega
  simp only [this,if_false]
  rw [Nat.add_zero] at h; rw [h]
 | m+1,i,h,he=>by
  have h1:((i:Int) < (s.size:Int)):=by omega
  obtain ⟨v,e⟩:=sidx_ok (b:=s) (i:=i) (by omega)
  obtain ⟨b,eb⟩:=letter_tot v
  obtain ⟨c,ec⟩:=digit_tot v
  have w:W ((i:Int)+1)=((i+1:Nat):Int):=W_succ (by omega)
  rw [Zu] at he
  simp only [h1,if_true,e,eb,ec,Qd,w] at he
  have hin:QbZ v=some true∧v < 128∧Zu (s,((i+1:Nat):Int))=some (s.size:Int):=by
   unfold QbZ
   simp only [lex_letter,lex_digit,eb,ec,Qd]
   cases b with
   | true=>exact ⟨rfl,letter_lt eb,he⟩
   | false=>cases c with
    | true=>exact ⟨rfl,digit_lt ec,he⟩
    | false =>
     have:(some (i:Int))=some (s.size:Int):=he
     rw [Option.some.injEq] at this
     omega
  obtain ⟨q1,q2,q3⟩:=hin
  obtain ⟨hd,h0⟩:=sidx_dec e q2
  rw [Zz]
  have hv:((v.toNat:Nat):Int)=v:=by omega
  simp only [show i < s.size by omega,if_true,hd,hv,q1,Qd,Bool.true_eq_false,if_false]
  exact span_end s hs m (i+1) (by omega) q3
theorem lexName_ok {s:ByteArray} (hs:s.size≤1000000000000000000) (h:ZR s=some true):Qcs s=some true∧s≠ByteArray.empty:=by
 have hp:(s.size:Int) > 0:=by
  by_cases hp:(s.size:Int) > 0
  ·exact hp
  ·unfold ZR at h; simp only [hp,if_false,Qd,Bool.false_eq_true] at h; cases h
 obtain ⟨v,e⟩:=sidx_ok (b:=s) (i:=0) (by omega)
 obtain ⟨b,eb⟩:=letter_tot v
 have e':=e
 simp only [Int.natCast_zero] at e'
 unfold ZR Ja at h
 simp only [hp,if_true,e',eb,Qd] at h
 cases b with
 | false=>simp at h
 | true =>
  simp only [if_true] at h
  cases hE:Zu (s,0) with
  | none=>rw [hE] at h; cases h
  | some r =>
   rw [hE] at h
   simp only [Qd,Option.some.injEq,beq_iff_eq] at h
   subst h
   have hsp:=span_end s hs s.size 0 (by omega) (by simpa using hE)
   obtain ⟨hd,h0⟩:=sidx_dec e (letter_lt eb)
   have hv:((v.toNat:Nat):Int)=v:=by omega
   have hl:QaC v=some true:=eb
   constructor
   ·unfold Qcs Qdm X8 QbR
    simp only [show 0 < s.size by omega,if_true,hd,hv,hl,Qd,Bool.true_eq_false,if_false,hsp,hp,beq_self_eq_true]
   ·intro h0; rw [h0] at hp; exact absurd hp (by decide)
theorem ite_e {c:Prop} [Decidable c] {α:Type} {a b:α} {P:α→Prop} (ha:c→P a) (hb:¬ c→P b):P (if c then a else b):=by
 split
 ·exact ha ‹_›
 ·exact hb ‹_›
theorem check5 (a:Qq) (h:a.shape.length≤1000):∃ e,QaW a=some e∧(e=0→checkR a.shape=0∧(a.data.length:Int)=prodI a.shape):=by
 unfold QaW
 dsimp only
 simp only [Check_ok a.shape (Sm_le h),Cells_ok a.shape (Sm_le h),Qd,ite_som]
 by_cases hc:checkR a.shape=0
 ·have hcc:cellsR a.shape=prodI a.shape:=by rw [cellsR,if_pos hc]
  simp only [hc,if_true,hcc]
  by_cases hd:(a.data.length:Int)=prodI a.shape
  ·exact ⟨_,rfl,fun _=>⟨trivial,hd⟩⟩
  ·have:((a.data.length:Int) != prodI a.shape)=true:=by simp [hd]
   simp only [this,if_true]
   exact ⟨_,rfl,fun q=>absurd q (by decide)⟩
 ·simp only [hc,if_false,Bool.false_eq_true]
  exact ⟨_,rfl,fun q=>absurd q hc⟩
theorem inl_R {P:Prop}:∃ r,(some (Sum.inl ()):Option (Unit ⊕ Unit))=some r∧(r=.inr ()→P):=⟨_,rfl,fun h=>by cases h⟩
def bnd1 (b:Qb):Prop:=b.value.shape.length≤100∧b.value.data.length≤300∧b.name.size≤100
theorem few_L1 (l:List Qb) (hl:l.length≤1000):∀ (s p:List Qb),l=p++s→∃ r,Xm (l,300,(p.length:Int))=some r∧(r=.inr ()→∀ b∈s,bnd1 b)
 | [],p,e=>by
  rw [Xm]
  have:¬ ((p.length:Int) < (l.length:Int)):=by rw [e]; simp
  rw [if_neg this]
  exact ⟨_,rfl,fun _ b hb=>by cases hb⟩
 | x::s,p,e=>by
  rw [Xm]
  have h1:((p.length:Int) < (l.length:Int)):=by rw [e]; exact Zi
  have hi:idx l (p.length:Int)=some x:=by rw [e]; exact QR
  have hw:W ((p.length:Int)+1)=((p++[x]).length:Int):=by
   have:=hl; rw [e] at this; exact mid_W (Sm_le this)
  obtain ⟨r,er,hr⟩:=few_L1 l hl s (p++[x]) (by rw [e]; simp)
  simp only [h1,if_true,hi,Qd,QcM,ite_som,hw]
  by_cases hq:bnd1 x
  ·obtain ⟨q1,q2,q3⟩:=hq
   refine ite_e (P:=fun (o:Option (Unit ⊕ Unit))=>∃ r,o=some r∧(r=.inr ()→∀ b∈x::s,bnd1 b)) (fun _=>inl_R) (fun _=>⟨r,er,fun h b hb=>?_⟩)
   rcases List.mem_cons.1 hb with rfl|hb
   ·exact ⟨q1,q2,q3⟩
   ·exact hr h b hb
  ·have hA:(if (if (x.value.shape.length:Int)≤100 then decide ((x.value.data.length:Int)≤300) else false)=false then true else decide ((x.name.size:Int) > 100))=true:=by
    by_cases a1:(x.value.shape.length:Int)≤100
    ·rw [if_pos a1]
     by_cases a2:(x.value.data.length:Int)≤300
     ·rw [decide_eq_true a2,if_neg (by decide),decide_eq_true_eq]
      by_cases a3:(x.name.size:Int) > 100
      ·exact a3
      ·exact absurd ⟨by omega,by omega,by omega⟩ hq
     ·rw [decide_eq_false a2,if_pos rfl]
    ·rw [if_neg a1,if_pos rfl]
   rw [if_pos hA]
   exact ⟨_,rfl,fun h=>by cases h⟩
theorem Few_is (l:List Qb):∃ b,Qb0 (l,300)=some b∧(b=true→l.length≤12∧∀ b∈l,bnd1 b):=by
 unfold Qb0
 by_cases h12:(l.length:Int) > 12
 ·exact ⟨false,by simp [h12],fun h=>by cases h⟩
 ·obtain ⟨r,er,hr⟩:=few_L1 l (by omega) l [] rfl
  simp only [List.length_nil,Int.natCast_zero] at er
  simp only [h12,if_false,er,Qd]
  cases r with
  | inl u=>exact ⟨false,rfl,fun h=>by cases h⟩
  | inr u=>exact ⟨true,rfl,fun _=>⟨by omega,hr rfl⟩⟩
theorem right_L2 (l:List Qb) (k:Nat) (hk:k < l.length) (hl:l.length≤1000):∀ m j:Nat,j+m=k→∃ r,YM ((k:Int),l,(j:Int))=some r∧(r=.inr ()→∀ i,j≤i→(h:i < k)→l[i].name≠l[k].name)
 | 0,j,h=>by
  rw [YM]
  have:¬ ((j:Int) < (k:Int)):=by omega
  rw [if_neg this]
  exact ⟨_,rfl,fun _ i h1 h2=>by omega⟩
 | m+1,j,h=>by
  rw [YM]
  have h1:((j:Int) < (k:Int)):=by omega
  have hi:idx l (j:Int)=some l[j]:=idx_ok (by omega)
  have hi2:idx l (k:Int)=some l[k]:=idx_ok hk
  have w:W ((j:Int)+1)=((j+1:Nat):Int):=W_succ (by omega)
  simp only [h1,if_true,hi,hi2,Qd,w]
  obtain ⟨r,er,hr⟩:=right_L2 l k hk hl m (j+1) (by omega)
  refine ite_e (P:=fun (o:Option (Unit ⊕ Unit))=>∃ r,o=some r∧(r=.inr ()→∀ i,j≤i→(h:i < k)→l[i].name≠l[k].name)) (fun _=>⟨_,rfl,fun h=>by cases h⟩) (fun hne=>⟨r,er,fun hr' i i1 i2=>?_⟩)
  by_cases hij:i=j
  ·subst hij; exact hne
  ·exact hr hr' i (by omega) i2
def bnd2 (b:Qb):Prop:=checkR b.value.shape=0∧(b.value.data.length:Int)=prodI b.value.shape∧ZR b.name=some true
theorem right_L1 (l:List Qb) (hl:l.length≤1000) (hb:∀ b∈l,bnd1 b):∀ (s p:List Qb),l=p++s→∃ r,YL (l,(p.length:Int))=some r∧(r=.inr ()→∀ k,p.length≤k→(h:k < l.length)→bnd2 l[k]∧∀ i (hi:i < k),l[i].name≠l[k].name)
 | [],p,e=>by
  rw [YL]
  have:¬ ((p.length:Int) < (l.length:Int)):=by rw [e]; simp
  rw [if_neg this]
  exact ⟨_,rfl,fun _ k h1 h2=>by omega⟩
 | x::s,p,e=>by
  rw [YL]
  have h1:((p.length:Int) < (l.length:Int)):=by rw [e]; exact Zi
  have hi:idx l (p.length:Int)=some x:=by rw [e]; exact QR
  have hw:W ((p.length:Int)+1)=((p++[x]).length:Int):=by
   have:=hl; rw [e] at this; exact mid_W (Sm_le this)
  obtain ⟨r,er,hr⟩:=right_L1 l hl hb s (p++[x]) (by rw [e]; simp)
  obtain ⟨q1,q2,q3⟩:=hb x (by rw [e]; simp)
  obtain ⟨nb,en⟩:=name_tot x.name (by omega)
  obtain ⟨ce,ec,hce⟩:=check5 x.value (by omega)
  have hpl:p.length < l.length:=by omega
  have hx:l[p.length]=x:=by
   have:=idx_ok hpl; rw [hi] at this; exact (Option.some.inj this).symm
  obtain ⟨r2,e2,hr2⟩:=right_L2 l p.length hpl hl p.length 0 (by omega)
  simp only [Int.natCast_zero] at e2
  simp only [h1,if_true,hi,Qd,en,ec,e2,ite_som,hw]
  refine ite_e (P:=fun (o:Option (Unit ⊕ Unit))=>∃ r,o=some r∧(r=.inr ()→∀ k,p.length≤k→(h:k < l.length)→bnd2 l[k]∧∀ i (hi:i < k),l[i].name≠l[k].name)) (fun _=>inl_R) (fun hA=>?_)
  have hc0:ce=0∧nb=true:=by
   cases nb with
   | false=>exact absurd rfl hA
   | true =>
    by_cases q:ce=0
    ·exact ⟨q,rfl⟩
    ·exfalso; apply hA; simp [q]
  obtain ⟨hc0,rfl⟩:=hc0
  cases r2 with
  | inl u=>exact ⟨_,rfl,fun h=>by cases h⟩
  | inr u =>
   refine ⟨r,er,fun h k k1 k2=>?_⟩
   by_cases hk:k=p.length
   ·subst hk
    exact ⟨by rw [hx]; exact ⟨(hce hc0).1,(hce hc0).2,en⟩,fun i hi=>hr2 rfl i (Nat.zero_le _) hi⟩
   ·exact hr h k (by simp; omega) k2
def rightL (l:List Qb):Prop:=(∀ b∈l,bnd2 b)∧l.Pairwise (fun a b=>a.name≠b.name)
theorem Right_is (l:List Qb) (hl:l.length≤1000) (hb:∀ b∈l,bnd1 b):∃ b,QaZ l=some b∧(b=true→rightL l):=by
 obtain ⟨r,er,hr⟩:=right_L1 l hl hb l [] rfl
 simp only [List.length_nil,Int.natCast_zero] at er
 unfold QaZ
 simp only [er,Qd]
 cases r with
 | inl u=>exact ⟨false,rfl,fun h=>by cases h⟩
 | inr u =>
  refine ⟨true,rfl,fun _=>⟨fun b hb=>?_,List.pairwise_iff_getElem.2 fun i j h1 h2 hij=>(hr rfl j (Nat.zero_le _) h2).2 i hij⟩⟩
  obtain ⟨k,hk,rfl⟩:=List.mem_iff_getElem.1 hb
  exact (hr rfl k (Nat.zero_le _) hk).1
def smOf:List Qb→Nat→List (ByteArray × Int)
 | [],_=>[]
 | b::l,k=>(b.name,(k:Int))::smOf l (k+1)
theorem smOf_none {nm:ByteArray}:∀ {l:List Qb} (k:Nat),(∀ b∈l,b.name≠nm)→getS (smOf l k) nm=none
 | [],_,_=>rfl
 | b::l,k,h=>by
  rw [smOf,getS,if_neg (fun e=>h b (List.mem_cons_self ..) e.symm)]
  exact smOf_none (k+1) (fun x hx=>h x (List.mem_cons_of_mem _ hx))
theorem smOf_get {nm:ByteArray}:∀ (l:List Qb) (k:Nat),getS (smOf l k) nm=none∧(∀ b∈l,b.name≠nm)∨∃ i,∃ h:i < l.length,getS (smOf l k) nm=some ((k+i:Nat):Int)∧l[i].name=nm
 | [],_=>Or.inl ⟨rfl,fun _ h=>by cases h⟩
 | b::l,k=>by
  by_cases e:nm=b.name
  ·exact Or.inr ⟨0,by simp,by rw [smOf,getS,if_pos e]; rfl,e.symm⟩
  ·rcases smOf_get l (k+1) with ⟨h1,h2⟩|⟨i,h,h1,h2⟩
   ·refine Or.inl ⟨by rw [smOf,getS,if_neg e]; exact h1,fun x hx=>?_⟩
    rcases List.mem_cons.1 hx with rfl|hx
    ·exact fun h=>e h.symm
    ·exact h2 x hx
   ·refine Or.inr ⟨i+1,by simp only [List.length_cons]; omega,?_,by simpa using h2⟩
    rw [smOf,getS,if_neg e,h1]
    congr 2; omega
theorem smOf_set {x:Qb}:∀ (l:List Qb) (k:Nat),(∀ b∈l,b.name≠x.name)→setS (smOf l k) x.name ((k+l.length:Nat):Int)=smOf (l++[x]) k
 | [],k,_=>rfl
 | b::l,k,h=>by
  have ih:=smOf_set l (k+1) (fun y hy=>h y (List.mem_cons_of_mem _ hy))
  rw [List.cons_append,smOf,smOf,setS,if_neg (fun e=>h b (List.mem_cons_self ..) e.symm),← ih]
  simp only [List.length_cons]
  congr 3; omega
theorem copied_is (l:List Int) (hl:l.length≤1000):XT l=some l∧YH l=some l:=by
 have hcc:cpM (List.replicate l.length (0:Int)) l=l:=by unfold cpM; simp
 have hm:makeM 8 (l.length:Int) (0:Int)=some (List.replicate l.length 0):=by
  have hr:(1000:Nat) * 8≤room:=by decide +kernel
  have:((l.length:Int) * 8≤(room:Int)):=by omega
  simp [makeM,this]; omega
 have hg:l.length=(List.replicate l.length (0:Int)).length:=by simp
 constructor
 ·unfold XT
  simp only [hm,Qd,hcc]
  rw [Xc,if_pos hg]; rfl
 ·unfold YH
  simp only [hm,Qd,hcc]
  rw [Xc,if_pos hg]; rfl
theorem Copy_is {a:Qq} (h1:a.shape.length≤1000) (h2:a.data.length≤1000):XI a=some a:=by
 unfold XI
 simp only [(copied_is _ h1).1,(copied_is _ h2).2,Qd]
theorem aCheck_is {a:Qq} (h:checkR a.shape=0) (hd:(a.data.length:Int)=prodI a.shape):Xe a=some 0:=by
 have hs:a.shape.length≤1000:=by have:=(checkR_zero.1 h).2.1; omega
 have hc:cellsR a.shape=prodI a.shape:=by rw [cellsR,if_pos h]
 unfold Xe
 simp only [shapeCheck_ok _ (Sm_le hs),shapeCells_ok _ (Sm_le hs),h,hc,hd,Qd,ne_eq,not_true_eq_false,if_false]
def okL (l:List Qb):Prop:=l.length≤12∧(∀ b∈l,bnd1 b)∧rightL l
theorem envRight_is {b:Qb} (h1:bnd1 b) (h2:bnd2 b):QbY b=some true:=by
 unfold QbY
 have e:=(lexName_ok (s:=b.name) (by have:=h1.2.2; omega) h2.2.2).1
 have e2:Xe (⟨b.value.shape,b.value.data⟩:Qq)=some 0:=aCheck_is (a:=b.value) h2.1 h2.2.1
 simp only [e,Qd,if_true,e2]
 rfl
theorem envCopied_is {b:Qb} (h1:bnd1 b):Qbq b=some b:=by
 unfold Qbq
 have e2:XI (⟨b.value.shape,b.value.data⟩:Qq)=some b.value:=Copy_is (a:=b.value) (by have:=h1.1; show _≤1000; omega) (by have:=h1.2.1; show _≤1000; omega)
 simp only [e2,Qd]
theorem New_L1 {l:List Qb} (hl:okL l):∀ (s p:List Qb),l=p++s→Yd (l,smOf p 0,p,(p.length:Int))=some (.inr (smOf l 0,l))
 | [],p,h=>by
  rw [Yd]
  have:¬ ((p.length:Int) < (l.length:Int)):=by rw [h]; simp
  rw [if_neg this]
  rw [List.append_nil] at h; rw [h]
 | x::s,p,h=>by
  have ih:=New_L1 hl s (p++[x]) (by rw [h]; simp)
  rw [Yd]
  have h1:((p.length:Int) < (l.length:Int)):=by rw [h]; exact Zi
  have hi:idx l (p.length:Int)=some x:=by rw [h]; exact QR
  have h12:=hl.1
  have hpl:p.length+1≤12:=by rw [h] at h12; simp at h12; omega
  have hw:W ((p.length:Int)+1)=((p++[x]).length:Int):=by
   have:l.length≤1000:=by omega
   rw [h] at this; exact mid_W (Sm_le this)
  have hx:x∈l:=by rw [h]; simp
  have hp:∀ y∈p,y.name≠x.name:=by
   have:=hl.2.2.2; rw [h] at this
   intro y hy
   exact (List.pairwise_append.1 this).2.2 y hy x (List.mem_cons_self ..)
  have hlk:lookS (smOf p 0) x.name=(0,false):=by rw [lookS,smOf_none 0 hp]; rfl
  have hst:setS (smOf p 0) x.name (p.length:Int)=smOf (p++[x]) 0:=by
   have:=smOf_set p 0 hp; rwa [Nat.zero_add] at this
  simp only [h1,if_true,hi,Qd,XJ,hlk,Bool.false_eq_true,if_false,envRight_is (hl.2.1 x hx) (hl.2.2.1 x hx),Bool.not_true,envCopied_is (hl.2.1 x hx),
   app_le2 (b:=64) (l:=p) (es:=[x]) (by simp; omega) (by omega),hst,hw,ih]
theorem Make_is {l:List Qb} (hl:okL l):YF l=some (.inr (smOf l 0,l,l)):=by
 have h:=New_L1 hl l [] rfl
 simp only [List.length_nil,Int.natCast_zero] at h
 have h0:smOf [] 0=[]:=rfl
 rw [h0] at h
 unfold YF Qa7
 simp only [h,Qd]
theorem Get_is {l:List Qb} (hl:okL l) (nm:ByteArray):ZA (nm,smOf l 0,l,l)=some ([],[],false)∨∃ b∈l,b.name=nm∧ZA (nm,smOf l 0,l,l)=some (b.value.shape,b.value.data,true):=by
 unfold ZA Xb YX
 rcases smOf_get (nm:=nm) l 0 with ⟨h,_⟩|⟨i,hi,h,hn⟩
 ·have e:lookS (smOf l 0) nm=(0,false):=by rw [lookS,h]; rfl
  simp only [e,Qd,if_true]
  exact Or.inl trivial
 ·rw [Nat.zero_add] at h
  have e:lookS (smOf l 0) nm=((i:Int),true):=by rw [lookS,h]; rfl
  have hm:l[i]∈l:=List.getElem_mem hi
  have h1:=hl.2.1 _ hm
  have ec:XI (⟨l[i].value.shape,l[i].value.data⟩:Qq)=some l[i].value:=Copy_is (a:=l[i].value) (by have:=h1.1; show _≤1000; omega) (by have:=h1.2.1; show _≤1000; omega)
  refine Or.inr ⟨l[i],hm,hn,?_⟩
  simp only [e,Qd,Bool.true_eq_false,if_false,idx_ok hi,ec]
def litA (v:List Int):Qq:=⟨if v.length=1 then [] else [(v.length:Int)],v⟩
theorem litA_right {v:List Int} (hv:v.length≤1000):checkR (litA v).shape=0∧((litA v).data.length:Int)=prodI (litA v).shape:=by
 have h:checkR (litA v).shape=0:=by
  unfold litA
  split
  ·rfl
  ·refine checkR_zero.2 ⟨fun x hx=>?_,by simp,?_⟩
   ·simp only [List.mem_singleton] at hx; subst hx; omega
   ·show prodI [(v.length:Int)]≤_; simp [prodI]; omega
 refine ⟨h,?_⟩
 unfold litA
 split
 ·rename_i h1; show (v.length:Int)=_; rw [h1]; rfl
 ·simp [prodI]
theorem readS_is {l:List Qb} (hl:okL l) (a:Qa) (hv:a.nums.length≤1000):∃ v b e,Yt (a.kind,a.fn,a.axis,a.name,a.nums,a.kids,smOf l 0,l,l)=some (v,b,e)∧v.length≤1000:=by
 unfold Yt
 by_cases h:a.kind=1
 ·simp only [h,if_true,Clone64_ok _ hv,Qd]
  exact ⟨_,_,_,rfl,hv⟩
 ·simp only [h,if_false]
  rcases Get_is hl a.name with e|⟨b,hb,_,e⟩
  ·simp only [e,Qd,if_true]
   exact ⟨_,_,_,rfl,by simp⟩
  ·simp only [e,Qd,Bool.true_eq_false,if_false]
   split
   ·exact ⟨_,_,_,rfl,by simp⟩
   ·exact ⟨_,_,_,rfl,by have:=(hl.2.1 b hb).2.1; omega⟩
theorem uniqB:∀ {l:List Qb},l.Pairwise (fun a b=>a.name≠b.name)→∀ a∈l,∀ b∈l,a.name=b.name→a=b
 | [],_,a,ha,_,_,_=>(nomatch ha)
 | x::l,h,a,ha,b,hb,e=>by
  obtain ⟨h1,h2⟩:=List.pairwise_cons.1 h
  rcases List.mem_cons.1 ha with ha'|ha'
  ·rcases List.mem_cons.1 hb with hb'|hb'
   ·rw [ha',hb']
   ·exact absurd (ha' ▸ e) (h1 b hb')
  ·rcases List.mem_cons.1 hb with hb'|hb'
   ·exact absurd (hb' ▸ e.symm) (h1 a ha')
   ·exact uniqB h2 a ha' b hb' e
theorem get_L1 (l:List Qb) (hl:l.length≤1000) (nm:ByteArray):∀ (s p:List Qb),l=p++s→∃ r,Xn (l,nm,(p.length:Int))=some r∧(∀ b∈s,b.name=nm→(∀ x∈l,x.name=nm→x=b)→r=.inl (b.value.shape,b.value.data))∧((∀ b∈s,b.name≠nm)→r=.inr ())
 | [],p,e=>by
  rw [Xn]
  have:¬ ((p.length:Int) < (l.length:Int)):=by rw [e]; simp
  rw [if_neg this]
  exact ⟨_,rfl,fun b hb=>(nomatch hb),fun _=>rfl⟩
 | y::s,p,e=>by
  obtain ⟨r,er,hr,hr'⟩:=get_L1 l hl nm s (p++[y]) (by rw [e]; simp)
  rw [Xn]
  have h1:((p.length:Int) < (l.length:Int)):=by rw [e]; exact Zi
  have hi:idx l (p.length:Int)=some y:=by rw [e]; exact QR
  have hw:W ((p.length:Int)+1)=((p++[y]).length:Int):=by
   rw [e] at hl; exact mid_W (Sm_le hl)
  simp only [h1,if_true,hi,Qd,hw,er]
  by_cases hy:y.name=nm
  ·rw [if_pos hy]
   refine ⟨_,rfl,fun b hb hn hu=>?_,fun h=>absurd hy (h y (List.mem_cons_self ..))⟩
   rw [hu y (by rw [e]; simp) hy]
  ·rw [if_neg hy]
   refine ⟨r,rfl,fun b hb hn hu=>?_,fun h=>hr' fun b hb=>h b (List.mem_cons_of_mem _ hb)⟩
   rcases List.mem_cons.1 hb with rfl|hb
   ·exact absurd hn hy
   ·exact hr b hb hn hu
theorem Get_both {l:List Qb} (hl:okL l) (nm:ByteArray):ZA (nm,smOf l 0,l,l)=some ([],[],false)∧YK (l,nm)=some (⟨[],[]⟩,false) ∨
  ∃ b∈l,b.name=nm∧ZA (nm,smOf l 0,l,l)=some (b.value.shape,b.value.data,true)∧YK (l,nm)=some (b.value,true):=by
 obtain ⟨r,er,hr,hr'⟩:=get_L1 l (by have:=hl.1; omega) nm l [] rfl
 simp only [List.length_nil,Int.natCast_zero] at er
 by_cases hq:∃ b∈l,b.name=nm
 ·rcases Get_is hl nm with h|⟨b,hb,hn,h⟩
  ·obtain ⟨b,hb,hn⟩:=hq
   unfold ZA Xb YX at h
   rcases smOf_get (nm:=nm) l 0 with ⟨g,g2⟩|⟨i,hi,g,gn⟩
   ·exact absurd hn (g2 b hb)
   ·rw [Nat.zero_add] at g
    have e:lookS (smOf l 0) nm=((i:Int),true):=by rw [lookS,g]; rfl
    have hm:l[i]∈l:=List.getElem_mem hi
    have h1:=hl.2.1 _ hm
    have ec:XI (⟨l[i].value.shape,l[i].value.data⟩:Qq)=some l[i].value:=Copy_is (a:=l[i].value) (by have:=h1.1; show _≤1000; omega) (by have:=h1.2.1; show _≤1000; omega)
    simp only [e,Qd,Bool.true_eq_false,if_false,idx_ok hi,ec] at h
    simp at h
  ·refine Or.inr ⟨b,hb,hn,h,?_⟩
   have e:=hr b hb hn (fun x hx hx'=>uniqB hl.2.2.2 x hx b hb (by rw [hx',hn]))
   unfold YK
   simp only [er,e,Qd]
 ·have hno:∀ b∈l,b.name≠nm:=fun b hb e=>hq ⟨b,hb,e⟩
  rcases Get_is hl nm with h|⟨b,hb,hn,_⟩
  ·refine Or.inl ⟨h,?_⟩
   unfold YK
   simp only [er,hr' hno,Qd]
  ·exact absurd hn (hno b hb)
structure srcK (ss:List Ql):Prop where
 bd:∀ s∈ss,s.value.shape.length≤100∧s.value.data.length≤1000∧checkR s.value.shape=0∧(s.value.data.length:Int)=prodI s.value.shape
 un:ss.Pairwise (fun a b=>b.name≠ByteArray.empty→a.name≠b.name)
theorem srcK.nil:srcK []:=⟨fun s h=>(nomatch h),List.Pairwise.nil⟩
theorem srcK.put {ss:List Ql} (h:srcK ss) {nm:ByteArray} {v:Qq} (hb:v.shape.length≤100∧v.data.length≤1000∧checkR v.shape=0∧(v.data.length:Int)=prodI v.shape) (hn:¬ (nm≠ByteArray.empty∧∃ x∈ss,x.name=nm)):srcK (ss++[⟨nm,v⟩]):=by
 refine ⟨fun s hs=>?_,List.pairwise_append.2 ⟨h.un,List.pairwise_singleton _ _,fun x hx y hy hne e=>?_⟩⟩
 ·rcases List.mem_append.1 hs with hs|hs
  ·exact h.bd s hs
  ·rw [List.mem_singleton.1 hs]; exact hb
 ·rw [List.mem_singleton.1 hy] at hne e; exact hn ⟨hne,x,hx,e⟩
theorem idxS_at {nm:ByteArray} {sh da:List Int} {a:List (ByteArray × Int)} {b c:List Qb}:∀ (s p:List Ql),(p++s).length≤1000 →
  ((nm≠ByteArray.empty∧∃ x∈s,x.name=nm)∧∃ u v w,∃ k:Nat,QA (p++s,nm,sh,da,a,b,c,(p.length:Int))=some (.inl (u,v,w,(k:Int)))∧∃ x,(p++s)[k]? = some x∧x.name=nm) ∨
  (¬ (nm≠ByteArray.empty∧∃ x∈s,x.name=nm)∧QA (p++s,nm,sh,da,a,b,c,(p.length:Int))=some (.inr ()))
 | [],p,h=>by
  refine Or.inr ⟨fun ⟨_,x,hx,_⟩=>(nomatch hx),?_⟩
  rw [QA]; simp only [Z4,if_false]
 | x::s,p,h=>by
  have ih:=idxS_at (nm:=nm) (sh:=sh) (da:=da) (a:=a) (b:=b) (c:=c) s (p++[x]) (by rw [← Qz]; exact h)
  rw [← Qz] at ih
  rw [QA]
  have e:∀ q1 q2 q9,Yp (x.name,q1,q2,nm,sh,da,a,b,c,q9)=some (decide (nm≠ByteArray.empty∧x.name=nm)):=fun q1 q2 q9=>by
   unfold Yp
   by_cases h1:nm=ByteArray.empty
   ·simp [h1]
   ·by_cases h2:x.name=nm <;> simp [h1,h2]
  simp only [Zi,if_true,QR,Qd,e,mid_W (Sm_le h)]
  by_cases hq:nm≠ByteArray.empty∧x.name=nm
  ·rw [decide_eq_true hq,if_pos rfl]
   exact Or.inl ⟨⟨hq.1,x,List.mem_cons_self ..,hq.2⟩,_,_,_,p.length,rfl,x,by simp,hq.2⟩
  ·rw [decide_eq_false hq,if_neg (by decide)]
   rcases ih with ⟨⟨i1,y,hy,i2⟩,r⟩|⟨i1,r⟩
   ·exact Or.inl ⟨⟨i1,y,List.mem_cons_of_mem _ hy,i2⟩,r⟩
   ·refine Or.inr ⟨fun ⟨j1,y,hy,j2⟩=>?_,r⟩
    rcases List.mem_cons.1 hy with rfl|hy
    ·exact hq ⟨j1,j2⟩
    ·exact i1 ⟨j1,y,hy,j2⟩
theorem read_at {ss:List Ql} (hs:ss.length≤1000) {nm:ByteArray} {v:Qq} (hsh:v.shape.length≤1000) (a:List (ByteArray × Int)) (b c:List Qb) :
  ∃ (ss2:List Ql) (k:Nat),Zy (nm,v.shape,v.data,a,b,c,ss)=some (ss2,v.shape,(k:Int)) ∧
   (ss2=ss∧(nm≠ByteArray.empty∧∃ x,ss[k]? = some x∧x.name=nm)∨ss2=ss++[⟨nm,v⟩]∧k=ss.length∧¬ (nm≠ByteArray.empty∧∃ x∈ss,x.name=nm)):=by
 have happ:=app_le2 (b:=64) (l:=ss) (es:=[(⟨nm,⟨v.shape,v.data⟩⟩:Ql)]) (by simp; omega) (by omega)
 unfold Zy QX
 rcases idxS_at (nm:=nm) (sh:=v.shape) (da:=v.data) (a:=a) (b:=b) (c:=c) ss [] hs with ⟨h,u,w,z,k,e,hx⟩|⟨h,e⟩
 ·simp only [List.nil_append,List.length_nil,Int.natCast_zero] at e hx
  have:¬ ((k:Int) < 0):=by omega
  simp only [e,Qd,this,if_false,Clone_ok _ hsh]
  exact ⟨_,k,rfl,Or.inl ⟨rfl,h.1,hx⟩⟩
 ·simp only [List.nil_append,List.length_nil,Int.natCast_zero] at e
  simp only [e,Qd,happ,Clone_ok _ hsh]
  exact ⟨_,ss.length,rfl,Or.inr ⟨rfl,rfl,h⟩⟩
theorem rread_L1 (x:Qm):∀ (s p:List Qm) (k:Int),(p++s).length≤1000→(∀ y∈s,¬ (x.name≠ByteArray.empty∧y.name=x.name))→ZN (p++s,x,k,(p.length:Int))=some k
 | [],p,k,h,_=>by rw [ZN]; simp only [Z4,if_false]
 | y::s,p,k,h,hno=>by
  have ih:=rread_L1 x s (p++[y]) k (by rw [← Qz]; exact h) (fun z hz=>hno z (List.mem_cons_of_mem _ hz))
  rw [← Qz] at ih
  have hy:=hno y (List.mem_cons_self ..)
  rw [ZN]
  by_cases h1:x.name=ByteArray.empty
  ·simp only [Zi,if_true,h1,ne_eq,not_true_eq_false,if_false,Qd,Bool.false_eq_true,mid_W (Sm_le h),ih]
  ·have h2:¬ y.name=x.name:=fun e=>hy ⟨h1,e⟩
   simp only [Zi,if_true,h1,ne_eq,not_false_eq_true,QR,Qd,h2,decide_false,Bool.false_eq_true,if_false,mid_W (Sm_le h),ih]
theorem rread_has (x:Qm) (hx:x.name≠ByteArray.empty):∀ (s p:List Qm) (k:Int) (j:Nat) (y:Qm),(p++s).length≤1000→s[j]? = some y→y.name=x.name→s.Pairwise (fun a b=>b.name≠ByteArray.empty→a.name≠b.name) →
  ZN (p++s,x,k,(p.length:Int))=some ((p.length+j:Nat):Int)
 | [],p,k,j,y,h,hj,_,_=>by simp at hj
 | z::s,p,k,0,y,h,hj,hy,hp=>by
  have hz:z=y:=by simpa using hj
  subst hz
  have ih:=rread_L1 x s (p++[z]) (p.length:Int) (by rw [← Qz]; exact h) (fun w hw ⟨h1,h2⟩=>(List.pairwise_cons.1 hp).1 w hw (by rw [h2]; exact hx) (by rw [hy,h2]))
  rw [← Qz] at ih
  rw [ZN]
  simp only [Zi,if_true,hx,ne_eq,not_false_eq_true,QR,Qd,hy,decide_true,mid_W (Sm_le h),ih,Nat.add_zero]
 | z::s,p,k,j+1,y,h,hj,hy,hp=>by
  have ih:=fun k'=>rread_has x hx s (p++[z]) k' j y (by rw [← Qz]; exact h) (by simpa using hj) hy (List.pairwise_cons.1 hp).2
  simp only [← Qz] at ih
  rw [ZN]
  have e:(p++[z]).length+j=p.length+(j+1):=by simp; omega
  simp only [e] at ih
  simp only [Zi,if_true,hx,ne_eq,not_false_eq_true,QR,Qd,mid_W (Sm_le h),ih]
  split <;> rfl
theorem rread_new {rs:List Qm} (hs:rs.length≤1000) {nm:ByteArray} (a:Qq) (hn:∀ y∈rs,¬ (nm≠ByteArray.empty∧y.name=nm)):Jc (rs,⟨nm,a⟩)=some (⟨1,a.shape,(rs.length:Int),[],0,0,[],[]⟩,rs++[⟨nm,a⟩]):=by
 have e:=rread_L1 ⟨nm,a⟩ rs [] (rs.length:Int) hs hn
 simp only [List.nil_append,List.length_nil,Int.natCast_zero] at e
 unfold Jc
 simp only [e,Qd,if_true,app_le2 (b:=64) (l:=[]) (es:=rs) (by simp; omega) (by omega),List.nil_append,app_le2 (b:=64) (l:=rs) (es:=[(⟨nm,a⟩:Qm)]) (by simp; omega) (by omega)]
theorem rread_old {rs:List Qm} (hs:rs.length≤1000) {nm:ByteArray} (a:Qq) (hx:nm≠ByteArray.empty) {k:Nat} {y:Qm} (hk:rs[k]? = some y) (hy:y.name=nm) (hp:rs.Pairwise (fun a b=>b.name≠ByteArray.empty→a.name≠b.name)) :
  Jc (rs,⟨nm,a⟩)=some (⟨1,a.shape,(k:Int),[],0,0,[],[]⟩,rs):=by
 have e:=rread_has ⟨nm,a⟩ hx rs [] (rs.length:Int) k y hs hk hy hp
 simp only [List.nil_append,List.length_nil,Int.natCast_zero,Nat.zero_add] at e
 have hlt:=(List.getElem?_eq_some_iff.1 hk).1
 unfold Jc
 simp only [e,Qd,show ¬ (k:Int)=(rs.length:Int) by omega,if_false]
theorem bkS_pw {ss:List Ql} (h:ss.Pairwise (fun a b=>b.name≠ByteArray.empty→a.name≠b.name)):(ss.map bkS).Pairwise (fun a b=>b.name≠ByteArray.empty→a.name≠b.name):=List.Pairwise.map _ (fun _ _ h=>h) h
theorem atom_e {l:List Qb} (hl:okL l) {t:Qa} (hF:formF t) (hk:t.kids.length=0) (hv:t.nums.length≤1000) {ss:List Ql} (hs:ss.length≤1000) (hB:srcK ss) :
  ∃ ss' sh k e,ZO (t.kind,t.fn,t.axis,t.name,t.nums,t.kids,smOf l 0,l,l,ss)=some (ss',(if e=0 then 1 else 0),sh,k,e) ∧
   (e=0→checkR sh=0∧(t.kind=1∨t.kind=2)∧ss'.length≤ss.length+1∧srcK ss'∧YD (l,ss.map bkS,t)=some (⟨1,sh,k,[],0,0,[],[]⟩,ss'.map bkS,0)) ∧
   (e≠0→YD (l,ss.map bkS,t)=some (⟨0,[],0,[],0,0,[],[]⟩,[],e)):=by
 unfold ZO
 have hkind:(t.kind=1∧t.name=ByteArray.empty)∨(t.kind=2∧ZR t.name=some true):=by
  rcases hF with h|h|h|h
  ·exact Or.inl ⟨h.1,h.2.2.2.1⟩
  ·exact Or.inr ⟨h.1,h.2.2.2.1⟩
  ·have:=h.2.2.2.1; omega
  ·have:=h.2.2.2.1; omega
 rcases hkind with ⟨h1,hn⟩|⟨h1,hn⟩
 ·obtain ⟨r1,r2⟩:=litA_right hv
  have hsh:(litA t.nums).shape.length≤1000:=by unfold litA; split <;> simp
  obtain ⟨ss2,k,er,hk2⟩:=read_at hs (nm:=ByteArray.empty) (v:=litA t.nums) hsh (smOf l 0) l l
  have hmid:((if (t.nums.length:Int)=1 then idx t.nums 0>>=fun v4=>Qam v4>>=fun (v5:Qq)=>some (v5.shape,v5.data) else some ((⟨[(t.nums.length:Int)],t.nums⟩:Qq).shape,(⟨[(t.nums.length:Int)],t.nums⟩:Qq).data)):Option (List Int × List Int))=some ((litA t.nums).shape,(litA t.nums).data):=by
   unfold litA
   by_cases h:t.nums.length=1
   ·obtain ⟨x,hx⟩:=List.length_eq_one_iff.1 h
    rw [hx]; rfl
   ·have:¬ (t.nums.length:Int)=1:=by omega
    simp only [this,h,if_false]
  unfold Qan
  simp only [h1,if_true,(copied_is _ hv).2,Qd]
  rw [hmid]
  have ec:Xe (⟨(litA t.nums).shape,(litA t.nums).data⟩:Qq)=some 0:=aCheck_is (a:=litA t.nums) r1 r2
  simp only [Qd,ec,ne_eq,not_true_eq_false,if_false,er]
  rcases hk2 with ⟨_,h,_⟩|⟨rfl,rfl,hno⟩
  ·exact absurd rfl h
  refine ⟨_,(litA t.nums).shape,_,0,rfl,fun _=>⟨r1,Or.inl trivial,by simp,hB.put ⟨by show (litA t.nums).shape.length≤100; unfold litA; split <;> simp,hv,r1,r2⟩ hno,?_⟩,fun h=>absurd rfl h⟩
  unfold YD
  have hb:¬ ((t.nums.length:Int) > 65536):=by omega
  have hr:=rread_new (rs:=ss.map bkS) (by simpa using hs) (nm:=ByteArray.empty) (litA t.nums) (fun y _ h=>h.1 rfl)
  simp only [h1,hn,nq12,if_false,hb]
  by_cases h:t.nums.length=1
  ·have h':(t.nums.length:Int)=1:=by omega
   have e:(⟨[],t.nums⟩:Qq)=litA t.nums:=by unfold litA; rw [if_pos h]
   simp only [h',ne_eq,not_true_eq_false,if_false,Qd]
   rw [e,hr,Qd,List.length_map,List.map_append]; rfl
  ·have h':¬ (t.nums.length:Int)=1:=by omega
   have e:(⟨[(t.nums.length:Int)],t.nums⟩:Qq)=litA t.nums:=by unfold litA; rw [if_neg h]
   simp only [h',ne_eq,not_false_eq_true,if_true,Qd]
   rw [e,hr,Qd,List.length_map,List.map_append]; rfl
 ·have hz:¬ t.kind=1:=by rw [h1]; decide
  simp only [hz,if_false]
  rcases Get_both hl t.name with ⟨e,e'⟩|⟨b,hb,hbn,e,e'⟩
  ·simp only [e,Qd,if_true]
   refine ⟨ss,[],0,2,rfl,fun h=>absurd h (by decide),fun _=>?_⟩
   unfold YD
   simp only [h1,if_true,e',Qd]
  ·have h1b:=hl.2.1 b hb
   have h2b:=hl.2.2.1 b hb
   obtain ⟨ss2,k,er,hk2⟩:=read_at hs (nm:=t.name) (v:=b.value) (by have:=h1b.1; omega) (smOf l 0) l l
   simp only [e,Qd,Bool.true_eq_false,if_false,er]
   have hne:t.name≠ByteArray.empty:=by rw [← hbn]; exact (lexName_ok (by have:=h1b.2.2; omega) h2b.2.2).2
   have eA:(⟨b.value.shape,b.value.data⟩:Qq)=b.value:=rfl
   rcases hk2 with ⟨rfl,_,x,hx,hxn⟩|⟨rfl,rfl,hno⟩
   ·refine ⟨_,b.value.shape,_,0,rfl,fun _=>⟨h2b.1,Or.inr h1,by omega,hB,?_⟩,fun h=>absurd rfl h⟩
    have hr:=rread_old (rs:=ss2.map bkS) (by simpa using hs) (nm:=t.name) b.value hne (k:=k) (y:=bkS x) (by rw [List.getElem?_map,hx]; rfl) hxn (bkS_pw hB.un)
    unfold YD
    simp only [h1,if_true,e',Qd,Bool.true_eq_false,if_false,eA,hr]
   ·refine ⟨_,b.value.shape,_,0,rfl,fun _=>⟨h2b.1,Or.inr h1,by simp,hB.put ⟨h1b.1,by have:=h1b.2.1; omega,h2b.1,h2b.2.1⟩ hno,?_⟩,fun h=>absurd rfl h⟩
    have hr:=rread_new (rs:=ss.map bkS) (by simpa using hs) (nm:=t.name) b.value (fun y hy h=>by
     obtain ⟨z,hz,rfl⟩:=List.mem_map.1 hy
     exact hno ⟨h.1,z,hz,h.2⟩)
    unfold YD
    simp only [h1,if_true,e',Qd,Bool.true_eq_false,if_false,eA,hr]
    rw [List.length_map,List.map_append]; rfl
theorem readS_e {l:List Qb} (hl:okL l) (a:Qa) (hv:a.nums.length≤1000):∃ v b e,Yt (a.kind,a.fn,a.axis,a.name,a.nums,a.kids,smOf l 0,l,l)=some (v,b,e)∧v.length≤1000∧YY (l,a)=some (⟨v,b⟩,e):=by
 unfold Yt YY
 by_cases h:a.kind=1
 ·simp only [h,if_true,Clone64_ok _ hv,Qd]
  exact ⟨_,_,_,rfl,hv,rfl⟩
 ·simp only [h,if_false]
  rcases Get_both hl a.name with ⟨e,e'⟩|⟨b,hb,_,e,e'⟩
  ·simp only [e,e',Qd,if_true]
   exact ⟨_,_,_,rfl,by simp,rfl⟩
  ·simp only [e,e',Qd,Bool.true_eq_false,if_false]
   split
   ·exact ⟨_,_,_,rfl,by simp,rfl⟩
   ·exact ⟨_,_,_,rfl,by have:=(hl.2.1 b hb).2.1; omega,rfl⟩
set_option maxHeartbeats 1000000 in
theorem rone5 {l:List Qb} {t a k:Qa} {c:Qc} (h4:t.kind=4) (hk:t.kids=[a,k]) {v:List Int} {sc:Bool} (eR:YY (l,a)=some (⟨v,sc⟩,0)) (hv:v.length≤1000) (hf:1≤t.fn∧t.fn≤5) (hax:-1≤t.axis) (hc:checkR c.shape=0):oneOK (Ys (l,t,bk c)) (meaR t c v):=by
 have hl:=(checkR_zero.1 hc).2.1
 have hl':c.shape.length≤1000:=by omega
 have e0:idx t.kids 0=some a:=by rw [hk]; rfl
 unfold Ys meaR
 have hf':t.fn=1∨t.fn=2∨t.fn=3∨t.fn=4∨t.fn=5:=by omega
 simp only [h4,if_true,e0,Qd,eR,ne_eq,not_true_eq_false,if_false,bk_shape,etaK]
 rcases hf' with hf|hf|hf|hf|hf
 ·simp only [hf,if_true,show ((1:Int) == 1)=true from rfl,Qd,rTake_ok v c.shape hv hc]
  exact one_tail hl' fun _=>by simp only [winC,bk,bks]; rfl
 ·simp only [hf,nq21,if_false,if_true,show ((2:Int) == 2)=true from rfl,Qd,rDrop_ok v c.shape hv hc]
  exact one_tail hl' fun _=>by simp only [winC,bk,bks]; rfl
 ·have hright:(rotR v t.axis c.shape).2=0→(rr (rotR v t.axis c.shape).1).right=c.shape∧-1≤(rotR v t.axis c.shape).1.axis:=by
   have:=revR_axis hax (a:=c.shape)
   unfold rotR
   split
   ·exact fun h=>by cases h
   ·split
    ·rename_i h; exact fun h2=>absurd h2 h
    ·exact fun _=>⟨rfl,this.1⟩
  simp only [hf,nq31,nq32,nq43,if_false,if_true,show ((3:Int) == 2)=false from rfl,Bool.false_eq_true,Qd,rRotate_ok v hax hc]
  generalize rotR v t.axis c.shape=q at hright
  obtain ⟨r,e⟩:=q
  have hra:(rr r).axis=r.axis:=rfl
  simp only [hra] at hright ⊢
  by_cases he:e=0
  ·subst he
   obtain ⟨hr,ea⟩:=hright rfl
   simp only [if_true,Qd,turnC]
   by_cases hx:r.axis=-1
   ·simp only [hx,show decide ((-1:Int) < 0)=true from rfl,if_true]
    exact ⟨fun _=>rfl,fun h=>absurd rfl h⟩
   ·have:¬ r.axis < 0:=by omega
    simp only [hx,decide_eq_false this,Bool.false_eq_true,if_false,not_true_eq_false]
    rw [hr,rseen_same c hl',Qd,around_ok,Qd]
    exact ⟨fun _=>by rw [bk_turn]; rfl,fun h=>absurd rfl h⟩
  ·simp only [he,if_false,Qd,Bool.false_eq_true,not_false_eq_true,if_true]
   exact ⟨fun h=>absurd h he,fun _=>⟨_,rfl⟩⟩
 ·simp only [hf,nq41,nq42,nq43,if_false,if_true,show ((4:Int) == 2)=false from rfl,Bool.false_eq_true,Qd,rTrans_ok v c.shape hc]
  refine one_tail hl' fun he=>?_
  have hr:(transR v c.shape).1.right=c.shape:=by
   unfold transR at he ⊢
   split
   ·rfl
   ·rename_i h; rw [if_neg h] at he; exact absurd he h
  show bk (transC _ c)=⟨_,_,_,_,_,_,_,[bk (seenC c (transR v c.shape).1.right)]⟩
  rw [hr,seenC_same,transC]; simp only [bk,bks]; rfl
 ·simp only [hf,nq51,nq52,nq53,nq54,if_false,if_true,show ((5:Int) == 2)=false from rfl,Bool.false_eq_true,Qd,rResh_ok v c.shape hv]
  refine one_tail hl' fun he=>?_
  have hr:(reshR v c.shape).1.right=c.shape:=by
   unfold reshR at he ⊢
   split
   ·rfl
   ·rename_i h; rw [if_neg h] at he; exact absurd he h
  show bk (reshC _ c)=⟨_,_,_,_,_,_,_,[bk (seenC c (reshR v c.shape).1.right)]⟩
  rw [hr,seenC_same,reshC]; simp only [bk,bks]; rfl
theorem mea_e {l:List Qb} (hl:okL l) {t a k:Qa} {c:Qc} {ss:List Ql} (hk:t.kids=[a,k]) {v:List Int} {b:Bool} {e:Int} (er:Yt (a.kind,a.fn,a.axis,a.name,a.nums,a.kids,smOf l 0,l,l)=some (v,b,e)) (hvl:v.length≤1000) (hf:1≤t.fn∧t.fn≤5) (hax:-1≤t.axis) (hc:checkR c.shape=0) :
  Zf (t.kind,t.fn,t.axis,t.name,t.nums,t.kids,c.kind,c.shape,c.buffer,c.starts,c.axis,c.amount,c.perm,c.kids,smOf l 0,l,l,ss) =
   some (if e=0 then ((meaR t c v).1.kind,(meaR t c v).1.shape,(meaR t c v).1.buffer,(meaR t c v).1.starts,(meaR t c v).1.axis,(meaR t c v).1.amount,(meaR t c v).1.perm,(meaR t c v).1.kids,(meaR t c v).2)
    else (0,[],0,[],0,0,[],[],e)):=by
 have hlc:=(checkR_zero.1 hc).2.1
 have e0:idx t.kids 0=some a:=by rw [hk]; rfl
 unfold Zf
 simp only [e0,Qd,er]
 by_cases h1:e=0
 ·subst h1
  simp only [ne_eq,not_true_eq_false,if_false,etaC,if_true]
  have hf':t.fn=1∨t.fn=2∨t.fn=3∨t.fn=4∨t.fn=5:=by omega
  unfold meaR
  rcases hf' with hf|hf|hf|hf|hf
  ·have hr:=(okR_len (okR_take (l:=v) hc)).2.1
   simp only [hf,if_true,Take_ok v _ c.shape hvl hc,Qd,window_okC (takeR v c.shape).1 c (by omega)]
  ·have hr:=(okR_len (okR_drop (l:=v) hc)).2.1
   simp only [hf,nq21,if_false,if_true,Drop_ok v _ c.shape hvl hc,Qd,window_okC (dropR v c.shape).1 c (by omega)]
  ·simp only [hf,nq31,nq32,if_false,if_true,Rotate_ok v _ hax hvl hc,Qd,turned_ok]
  ·simp only [hf,nq41,nq42,nq43,if_false,if_true,Transpose_ok v _ c.shape hvl hlc,Qd,transposed_ok]
  ·simp only [hf,nq51,nq52,nq53,nq54,if_false,Reshape_ok v _ c.shape hvl (show _≤1000 by omega),Qd,reshaped_ok]
 ·simp only [h1,ne_eq,not_false_eq_true,if_true,if_false]
theorem catR_dims {t:Qa} (h:formF t):-1≤t.axis:=by
 rcases h with h|h|h|h
 ·omega
 ·omega
 ·obtain ⟨_,_,_,_,h⟩:=h; unfold axF at h; omega
 ·obtain ⟨_,_,_,_,_,_,h,_⟩:=h; unfold axF at h; omega
def zeroCC:Qc:=⟨0,[],0,[],0,0,[],[]⟩
def simE (l:List Qb) (t:Qa) (ss:List Ql):Prop:=∃ (ss':List Ql) (c:Qc) (e:Int),
 Qw (t.kind,t.fn,t.axis,t.name,t.nums,t.kids,smOf l 0,l,l,ss)=some (ss',c.kind,c.shape,c.buffer,c.starts,c.axis,c.amount,c.perm,c.kids,e) ∧
 (e=0→checkR c.shape=0∧ss'.length≤ss.length+szT t∧srcK ss'∧Q4 (l,ss.map bkS,t)=some (bk c,ss'.map bkS,0)) ∧
 (e≠0→∃ c' l',Q4 (l,ss.map bkS,t)=some (c',l',e))
set_option maxHeartbeats 2000000 in
theorem expr_e {l:List Qb} (hl:okL l):∀ (n:Nat) (t:Qa),szT t≤n→good t→numT t≤1000→∀ ss:List Ql,ss.length+szT t≤900→srcK ss→simE l t ss
 | 0,t,h,_,_,_,_,_=>by have:=szT_pos t; omega
 | n+1,t,h,hg,hN,ss,hs,hB=>by
  have hg':=good_f.1 hg
  obtain ⟨hF,hK⟩:=hg'
  have hax:=catR_dims hF
  have hsz:=szT_f t
  have hnum:=numT_f t
  have hz:=szT_pos t
  have hrl:(ss.map bkS).length≤1000:=by simp; omega
  have hF0:=hF
  have atoms:t.kids.length=0→simE l t ss:=fun h0=>by
   obtain ⟨ss',sh,k,e,ea,ha,hb⟩:=atom_e hl hF0 h0 (show t.nums.length≤1000 by omega) (show ss.length≤1000 by omega) hB
   have h2:t.kind≤2:=by
    rcases hF0 with g|g|g|g
    ·omega
    ·omega
    ·have:=g.2.2.2.1; omega
    ·have:=g.2.2.2.1; omega
   refine ⟨ss',⟨if e=0 then 1 else 0,sh,k,[],0,0,[],[]⟩,e,?_,fun he=>?_,fun he=>⟨⟨0,[],0,[],0,0,[],[]⟩,[],?_⟩⟩
   ·rw [Qw]
    simp only [h0,Int.natCast_zero,if_true,ea,Qd]
   ·obtain ⟨a1,a2,a3,a4,a5⟩:=ha he
    rw [if_pos he]
    refine ⟨a1,by omega,a4,?_⟩
    rw [Q4]
    simp only [h2,if_true,a5,Qd,bk_f,bks]
   ·rw [Q4]
    simp only [h2,if_true,hb he,Qd]
  rcases hF with hF|hF|hF|hF
  ·exact atoms hF.2.2.2.2
  ·exact atoms hF.2.2.2.2.2
  ·-- one operand
   obtain ⟨h3,_,_,h4,h5⟩:=hF
   obtain ⟨k,hk⟩:=kids1 h4
   have hfn:t.fn=3∨t.fn=4∨t.fn=6:=by omega
   rw [hk] at hK hsz hnum
   have s1:=sz1 k
   have zk:=szT_pos k
   obtain ⟨ss',c,e,e1,r1,r2⟩:=expr_e hl n k (by omega) (goods1.1 hK) (by omega) ss (by omega) hB
   have ik:idx t.kids (W ((t.kids.length:Int) - 1))=some k:=by rw [hk]; rfl
   have hn0:¬ (t.kids.length:Int)=0:=by omega
   have hk2:¬ t.kind≤2:=by omega
   by_cases he:e=0
   ·subst he
    obtain ⟨q1,q2,q3,q4⟩:=r1 rfl
    have ho:=rone3 (l:=l) h3 hfn hax q1
    have hprog:Qw (t.kind,t.fn,t.axis,t.name,t.nums,t.kids,smOf l 0,l,l,ss)=some (ss',(monR t c).1.kind,(monR t c).1.shape,(monR t c).1.buffer,(monR t c).1.starts,(monR t c).1.axis,(monR t c).1.amount,(monR t c).1.perm,(monR t c).1.kids,(monR t c).2):=by
     rw [Qw]
     simp only [hn0,if_false,ik,Qd,e1,ne_eq,not_true_eq_false,etaT,etaC,monad_okC t c q1]
     simp only [h3,if_true]
    have href:Q4 (l,ss.map bkS,t)=(Ys (l,t,bk c)>>=fun p=>some (p.1,ss'.map bkS,p.2)):=by
     rw [Q4]
     simp only [hk2,if_false,ik,Qd,q4,ne_eq,not_true_eq_false,etaT,etaR,etaK]
     simp only [h3,if_true,Qd]
    refine ⟨ss',(monR t c).1,(monR t c).2,hprog,fun h0=>⟨monR_right q1,by omega,q3,?_⟩,fun h0=>?_⟩
    ·rw [href,ho.1 h0,Qd]
    ·obtain ⟨x,hx⟩:=ho.2 h0
     exact ⟨x,ss'.map bkS,by rw [href,hx,Qd]⟩
   ·obtain ⟨c',l',q4⟩:=r2 he
    refine ⟨ss',zeroCC,e,?_,fun h0=>absurd h0 he,fun _=>⟨zeroC,[],?_⟩⟩
    ·rw [Qw]
     simp only [hn0,if_false,ik,Qd,e1,ne_eq,he,not_false_eq_true,if_true]
     rfl
    ·rw [Q4]
     simp only [hk2,if_false,ik,Qd,q4,ne_eq,he,not_false_eq_true,if_true]
     rfl
  ·-- two operands
   obtain ⟨h3,_,_,h4,f1,f2,_,f3⟩:=hF
   obtain ⟨a,k,hk⟩:=kids2 h4
   rw [hk] at hK hsz hnum f3
   have f3:t.fn=6∨a.kind=1∨a.kind=2:=f3
   have s2:=sz2 a k
   have zk:=szT_pos k
   have za:=szT_pos a
   have ga:=(goods2.1 hK).1
   have numa:=numT_f a
   obtain ⟨ss',c,e,e1,r1,r2⟩:=expr_e hl n k (by omega) (goods2.1 hK).2 (by omega) ss (by omega) hB
   have ik:idx t.kids (W ((t.kids.length:Int) - 1))=some k:=by rw [hk]; rfl
   have i0:idx t.kids 0=some a:=by rw [hk]; rfl
   have hn0:¬ (t.kids.length:Int)=0:=by omega
   have hk2:¬ t.kind≤2:=by omega
   have h34:¬ t.kind=3:=by omega
   by_cases he:e=0
   case neg =>
    obtain ⟨c',l',q4⟩:=r2 he
    refine ⟨ss',zeroCC,e,?_,fun h0=>absurd h0 he,fun _=>⟨zeroC,[],?_⟩⟩
    ·rw [Qw]
     simp only [hn0,if_false,ik,Qd,e1,ne_eq,he,not_false_eq_true,if_true]
     rfl
    ·rw [Q4]
     simp only [hk2,if_false,ik,Qd,q4,ne_eq,he,not_false_eq_true,if_true]
     rfl
   subst he
   obtain ⟨q1,q2,q3,q4⟩:=r1 rfl
   by_cases h6:t.fn=6
   ·obtain ⟨ss2,d,e2,g1,w1,w2⟩:=expr_e hl n a (by omega) ga (by omega) ss' (by omega) q3
    have hrs:Q4 (l,ss.map bkS,t)=(Q4 (l,ss'.map bkS,a)>>=fun p=>if p.2.2≠0 then some (zeroC,[],p.2.2) else
      XO (t.axis,p.1.shape,c.shape)>>=fun q=>if q.2≠0 then some (zeroC,[],q.2) else
      Zw (p.1,q.1.left)>>=fun v17=>Zw (bk c,q.1.right)>>=fun v18=>some (⟨7,q.1.shape,0,[],q.1.axis,0,[],[v17,v18]⟩,p.2.1,0)):=by
     rw [Q4]
     simp only [hk2,if_false,ik,Qd,q4,ne_eq,not_true_eq_false,h34,h6,etaR,i0,bk_shape,etaK]
     rfl
    have hps:Qw (t.kind,t.fn,t.axis,t.name,t.nums,t.kids,smOf l 0,l,l,ss)=(Q3 (t.kind,t.fn,t.axis,t.name,t.nums,t.kids,c.kind,c.shape,c.buffer,c.starts,c.axis,c.amount,c.perm,c.kids,smOf l 0,l,l,ss')>>=fun ((v19,v20,v21,v22,v23,v24):((List Ql) × Int × (List Int) × Int × (List Qc) × Int)) =>
      some (v19,v20,v21,(0:Int),([]:List Int),v22,(0:Int),([]:List Int),v23,v24)):=by
     rw [Qw]
     simp only [hn0,if_false,ik,Qd,e1,ne_eq,not_true_eq_false,h34,YE]
     simp only [h6,if_true]
    rw [Q3] at hps
    simp only [i0,Qd,g1] at hps
    by_cases he2:e2=0
    case neg =>
     obtain ⟨c',l',u4⟩:=w2 he2
     refine ⟨ss2,zeroCC,e2,?_,fun h0=>absurd h0 he2,fun _=>⟨zeroC,[],?_⟩⟩
     ·rw [hps]; simp only [ne_eq,he2,not_false_eq_true,if_true,Qd]; rfl
     ·rw [hrs,u4,Qd]; simp only [ne_eq,he2,not_false_eq_true,if_true]
    subst he2
    obtain ⟨u1,u2,u3,u4⟩:=w1 rfl
    obtain ⟨dd,ld,_⟩:=checkR_zero.1 u1
    obtain ⟨dc,lc,_⟩:=checkR_zero.1 q1
    have hok:=okR_cat hax u1 q1
    obtain ⟨l1,l2,l3⟩:=okR_len hok
    simp only [ne_eq,not_true_eq_false,if_false,Cat_ok hax ld lc dd dc,Qd,etaC,seen_okC d (catR t.axis d.shape c.shape).1.left (by omega),seen_okC c _ (show (catR t.axis d.shape c.shape).1.right.length≤1000 by omega)] at hps
    rw [u4,Qd] at hrs
    simp only [ne_eq,not_true_eq_false,if_false,bk_shape,rCat_ok hax ld lc dd dc,Qd] at hrs
    refine ⟨ss2,⟨7,(catR t.axis d.shape c.shape).1.shape,0,[],(catR t.axis d.shape c.shape).1.axis,0,[],[seenC d (catR t.axis d.shape c.shape).1.left,seenC c (catR t.axis d.shape c.shape).1.right]⟩,(catR t.axis d.shape c.shape).2,hps,fun h0=>⟨hok.2.2,by omega,u3,?_⟩,fun h0=>⟨zeroC,[],?_⟩⟩
    ·rw [hrs,if_neg (fun h=>h h0)]
     show (Zw (bk d,(catR t.axis d.shape c.shape).1.left)>>=fun v17=>Zw (bk c,(catR t.axis d.shape c.shape).1.right)>>=fun v18=>_)=_
     rw [rseen_okC d _ (by omega),Qd,rseen_okC c _ (by omega),Qd]
     simp only [bk,bks]; rfl
    ·rw [hrs,if_pos h0]
   ·obtain ⟨v,sb,e2,er,hvl,eR⟩:=readS_e hl a (show a.nums.length≤1000 by omega)
    have hm:=mea_e (ss:=ss') hl hk er hvl ⟨f1,by omega⟩ hax q1
    have hprog:Qw (t.kind,t.fn,t.axis,t.name,t.nums,t.kids,smOf l 0,l,l,ss)=(Zf (t.kind,t.fn,t.axis,t.name,t.nums,t.kids,c.kind,c.shape,c.buffer,c.starts,c.axis,c.amount,c.perm,c.kids,smOf l 0,l,l,ss')>>=fun ((v25,v26,v27,v28,v29,v30,v31,v32,v33):(Int × (List Int) × Int × (List Int) × Int × Int × (List Int) × (List Qc) × Int))=>some (ss',v25,v26,v27,v28,v29,v30,v31,v32,v33)):=by
     rw [Qw]
     simp only [hn0,if_false,ik,Qd,e1,ne_eq,not_true_eq_false,h34,YE]
     simp only [h6,if_false]
    have href:Q4 (l,ss.map bkS,t)=(Ys (l,t,bk c)>>=fun p=>some (p.1,ss'.map bkS,p.2)):=by
     rw [Q4]
     have hb:(t.fn != 6)=true:=by simp [h6]
     simp only [hk2,if_false,ik,Qd,q4,ne_eq,not_true_eq_false,etaT,etaR,etaK,h34,hb,if_true]
    rw [hm,Qd] at hprog
    by_cases he2:e2=0
    ·subst he2
     rw [if_pos rfl] at hprog
     have ho:=rone5 (l:=l) h3 hk eR hvl ⟨f1,by omega⟩ hax q1
     refine ⟨ss',(meaR t c v).1,(meaR t c v).2,hprog,fun h0=>⟨meaR_right q1,by omega,q3,?_⟩,fun h0=>?_⟩
     ·rw [href,ho.1 h0,Qd]
     ·obtain ⟨x,hx⟩:=ho.2 h0
      exact ⟨x,ss'.map bkS,by rw [href,hx,Qd]⟩
    ·rw [if_neg he2] at hprog
     refine ⟨ss',zeroCC,e2,hprog,fun h0=>absurd h0 he2,fun _=>⟨zeroC,ss'.map bkS,?_⟩⟩
     have eO:Ys (l,t,bk c)=some (zeroC,e2):=by
      unfold Ys
      simp only [h3,if_true,i0,Qd,eR,ne_eq,he2,not_false_eq_true]
      rfl
     rw [href,eO,Qd]
def bndS (l:List Qb) (ss:List Ql):Prop:=∀ s∈ss,s.value.shape.length≤100∧(s.name=ByteArray.empty∨∃ b∈l,b.name=s.name∧b.value=s.value)
def shs (ss:List Ql):List (List Int):=ss.map fun s=>s.value.shape
theorem read_atw {ss:List Ql} (hs:ss.length≤1000) {nm:ByteArray} {v:Qq} (hsh:v.shape.length≤1000) (a:List (ByteArray × Int)) (b c:List Qb) :
  ∃ (ss2:List Ql) (k:Nat),Zy (nm,v.shape,v.data,a,b,c,ss)=some (ss2,v.shape,(k:Int)) ∧
   (ss2=ss∧(nm≠ByteArray.empty∧∃ x,ss[k]? = some x∧x.name=nm)∨ss2=ss++[⟨nm,v⟩]∧k=ss.length):=by
 have happ:=app_le2 (b:=64) (l:=ss) (es:=[(⟨nm,⟨v.shape,v.data⟩⟩:Ql)]) (by simp; omega) (by omega)
 unfold Zy QX
 rcases idxS_at (nm:=nm) (sh:=v.shape) (da:=v.data) (a:=a) (b:=b) (c:=c) ss [] hs with ⟨h,u,w,z,k,e,hx⟩|⟨h,e⟩
 ·simp only [List.nil_append,List.length_nil,Int.natCast_zero] at e hx
  have:¬ ((k:Int) < 0):=by omega
  simp only [e,Qd,this,if_false,Clone_ok _ hsh]
  exact ⟨_,k,rfl,Or.inl ⟨rfl,h.1,hx⟩⟩
 ·simp only [List.nil_append,List.length_nil,Int.natCast_zero] at e
  simp only [e,Qd,happ,Clone_ok _ hsh]
  exact ⟨_,ss.length,rfl,Or.inr ⟨rfl,rfl⟩⟩
theorem atom_r {l:List Qb} (hl:okL l) {t:Qa} (hF:formF t) (hk:t.kids.length=0) (hv:t.nums.length≤1000) {ss:List Ql} (hs:ss.length≤1000) (hB:bndS l ss) :
  ∃ ss' sh k e,ZO (t.kind,t.fn,t.axis,t.name,t.nums,t.kids,smOf l 0,l,l,ss)=some (ss',(if e=0 then 1 else 0),sh,k,e) ∧
   (e=0→(t.kind=1∨t.kind=2)∧ss'.length≤ss.length+1∧bndS l ss'∧okC (shs ss') ⟨1,sh,k,[],0,0,[],[]⟩∧∃ r,ss'=ss++r∧∀ s∈r,s.name=ByteArray.empty∨t.kind=2∧t.name=s.name):=by
 unfold ZO
 have hkind:(t.kind=1∧t.name=ByteArray.empty)∨(t.kind=2∧ZR t.name=some true):=by
  rcases hF with h|h|h|h
  ·exact Or.inl ⟨h.1,h.2.2.2.1⟩
  ·exact Or.inr ⟨h.1,h.2.2.2.1⟩
  ·have:=h.2.2.2.1; omega
  ·have:=h.2.2.2.1; omega
 rcases hkind with ⟨h1,hn⟩|⟨h1,hn⟩
 ·obtain ⟨r1,r2⟩:=litA_right hv
  have hsh:(litA t.nums).shape.length≤1000:=by unfold litA; split <;> simp
  obtain ⟨ss2,k,er,hk2⟩:=read_atw hs (nm:=ByteArray.empty) (v:=litA t.nums) hsh (smOf l 0) l l
  have hmid:((if (t.nums.length:Int)=1 then idx t.nums 0>>=fun v4=>Qam v4>>=fun (v5:Qq)=>some (v5.shape,v5.data) else some ((⟨[(t.nums.length:Int)],t.nums⟩:Qq).shape,(⟨[(t.nums.length:Int)],t.nums⟩:Qq).data)):Option (List Int × List Int))=some ((litA t.nums).shape,(litA t.nums).data):=by
   unfold litA
   by_cases h:t.nums.length=1
   ·obtain ⟨x,hx⟩:=List.length_eq_one_iff.1 h
    rw [hx]; rfl
   ·have:¬ (t.nums.length:Int)=1:=by omega
    simp only [this,h,if_false]
  unfold Qan
  simp only [h1,if_true,(copied_is _ hv).2,Qd]
  rw [hmid]
  have ec:Xe (⟨(litA t.nums).shape,(litA t.nums).data⟩:Qq)=some 0:=aCheck_is (a:=litA t.nums) r1 r2
  simp only [Qd,ec,ne_eq,not_true_eq_false,if_false,er]
  rcases hk2 with ⟨_,h,_⟩|⟨rfl,rfl⟩
  ·exact absurd rfl h
  refine ⟨_,(litA t.nums).shape,_,0,rfl,fun _=>⟨Or.inl trivial,by simp,fun s hs=>?_,?_,_,rfl,fun s hs=>?_⟩⟩
  ·rcases List.mem_append.1 hs with hs|hs
   ·exact hB s hs
   ·rw [List.mem_singleton.1 hs]; exact ⟨by show (litA t.nums).shape.length≤100; unfold litA; split <;> simp,Or.inl rfl⟩
  ·exact okC_f.2 ⟨⟨nd.buf (by simp [shs]) r1,r1⟩,by rw [okCs]; trivial⟩
  ·rw [List.mem_singleton.1 hs]; exact Or.inl rfl
 ·have hz:¬ t.kind=1:=by rw [h1]; decide
  simp only [hz,if_false]
  rcases Get_is hl t.name with e|⟨b,hb,hbn,e⟩
  ·simp only [e,Qd,if_true]
   exact ⟨ss,[],0,2,rfl,fun h=>absurd h (by decide)⟩
  ·have h1b:=hl.2.1 b hb
   have h2b:=hl.2.2.1 b hb
   obtain ⟨ss2,k,er,hk2⟩:=read_atw hs (nm:=t.name) (v:=b.value) (by have:=h1b.1; omega) (smOf l 0) l l
   simp only [e,Qd,Bool.true_eq_false,if_false,er]
   have hne:t.name≠ByteArray.empty:=by rw [← hbn]; exact (lexName_ok (by have:=h1b.2.2; omega) h2b.2.2).2
   rcases hk2 with ⟨rfl,_,x,hx,hxn⟩|⟨rfl,rfl⟩
   ·have hxm:x∈ss2:=List.mem_of_getElem? hx
    have hxe:x.value=b.value:=by
     rcases (hB x hxm).2 with h|⟨b',hb',h1',h2'⟩
     ·exact absurd (hxn.symm.trans h) hne
     ·rw [← h2',uniqB hl.2.2.2 b' hb' b hb (by rw [h1',hxn,hbn])]
    refine ⟨_,b.value.shape,_,0,rfl,fun _=>⟨Or.inr h1,by omega,hB,?_,[],by simp,fun s hs=>(nomatch hs)⟩⟩
    exact okC_f.2 ⟨⟨nd.buf (by simp [shs,hx,hxe]) h2b.1,h2b.1⟩,by rw [okCs]; trivial⟩
   ·refine ⟨_,b.value.shape,_,0,rfl,fun _=>⟨Or.inr h1,by simp,fun s hs=>?_,?_,_,rfl,fun s hs=>?_⟩⟩
    ·rcases List.mem_append.1 hs with hs|hs
     ·exact hB s hs
     ·rw [List.mem_singleton.1 hs]; exact ⟨h1b.1,Or.inr ⟨b,hb,hbn,rfl⟩⟩
    ·exact okC_f.2 ⟨⟨nd.buf (by simp [shs]) h2b.1,h2b.1⟩,by rw [okCs]; trivial⟩
    ·rw [List.mem_singleton.1 hs]; exact Or.inr ⟨h1,rfl⟩
theorem mea_r {l:List Qb} (hl:okL l) {t a k:Qa} {c:Qc} {ss:List Ql} (hk:t.kids=[a,k]) (hv:a.nums.length≤1000) (hf:1≤t.fn∧t.fn≤5) (hax:-1≤t.axis) {bs:List (List Int)} (hC:okC bs c) :
  ∃ (d:Qc) (e:Int),Zf (t.kind,t.fn,t.axis,t.name,t.nums,t.kids,c.kind,c.shape,c.buffer,c.starts,c.axis,c.amount,c.perm,c.kids,smOf l 0,l,l,ss)=some (d.kind,d.shape,d.buffer,d.starts,d.axis,d.amount,d.perm,d.kids,e)∧(e=0→okC bs d∧dpC d≤dpC c+2):=by
 have hc:=okC_shape hC
 have hlc:=(checkR_zero.1 hc).2.1
 have e0:idx t.kids 0=some a:=by rw [hk]; rfl
 obtain ⟨v,b,e,er,hvl⟩:=readS_is hl a hv
 unfold Zf
 simp only [e0,Qd,er]
 by_cases h1:e=0
 ·subst h1
  simp only [ne_eq,not_true_eq_false,if_false,etaC]
  have hf':t.fn=1∨t.fn=2∨t.fn=3∨t.fn=4∨t.fn=5:=by omega
  refine ⟨(meaR t c v).1,(meaR t c v).2,?_,fun h=>meaR_ok hax hC h⟩
  unfold meaR
  rcases hf' with hf|hf|hf|hf|hf
  ·have hr:=(okR_len (okR_take (l:=v) hc)).2.1
   simp only [hf,if_true,Take_ok v _ c.shape hvl hc,Qd,window_okC (takeR v c.shape).1 c (by omega)]
  ·have hr:=(okR_len (okR_drop (l:=v) hc)).2.1
   simp only [hf,nq21,if_false,if_true,Drop_ok v _ c.shape hvl hc,Qd,window_okC (dropR v c.shape).1 c (by omega)]
  ·simp only [hf,nq31,nq32,if_false,if_true,Rotate_ok v _ hax hvl hc,Qd,turned_ok]
  ·simp only [hf,nq41,nq42,nq43,if_false,if_true,Transpose_ok v _ c.shape hvl hlc,Qd,transposed_ok]
  ·simp only [hf,nq51,nq52,nq53,nq54,if_false,Reshape_ok v _ c.shape hvl (show _≤1000 by omega),Qd,reshaped_ok]
 ·simp only [h1,ne_eq,not_false_eq_true,if_true]
  exact ⟨⟨0,[],0,[],0,0,[],[]⟩,e,rfl,fun h=>absurd h h1⟩
def simR (l:List Qb) (t:Qa) (ss:List Ql):Prop:=∃ (ss':List Ql) (c:Qc) (e:Int),
 Qw (t.kind,t.fn,t.axis,t.name,t.nums,t.kids,smOf l 0,l,l,ss)=some (ss',c.kind,c.shape,c.buffer,c.starts,c.axis,c.amount,c.perm,c.kids,e) ∧
 (e=0→okC (shs ss') c∧ss'.length≤ss.length+szT t∧bndS l ss'∧dpC c≤3 * szT t∧∃ r,ss'=ss++r∧∀ s∈r,s.name=ByteArray.empty∨∃ x∈stepsL t,x.kind=2∧x.name=s.name)
theorem shs_app (a b:List Ql):shs (a++b)=shs a++shs b:=by simp [shs]
theorem expr_r {l:List Qb} (hl:okL l):∀ (n:Nat) (t:Qa),szT t≤n→good t→numT t≤1000→∀ ss:List Ql,ss.length+szT t≤900→bndS l ss→simR l t ss
 | 0,t,h,_,_,_,_,_=>by have:=szT_pos t; omega
 | n+1,t,h,hg,hN,ss,hs,hB=>by
  have hg':=good_f.1 hg
  obtain ⟨hF,hK⟩:=hg'
  have hax:=catR_dims hF
  have hsz:=szT_f t
  have hnum:=numT_f t
  by_cases h0:t.kids.length=0
  ·obtain ⟨ss',sh,k,e,ea,ha⟩:=atom_r hl hF h0 (show t.nums.length≤1000 by omega) (show ss.length≤1000 by omega) hB
   refine ⟨ss',⟨if e=0 then 1 else 0,sh,k,[],0,0,[],[]⟩,e,?_,fun he=>?_⟩
   ·rw [Qw]
    simp only [h0,Int.natCast_zero,if_true,ea,Qd]
   ·obtain ⟨a1,a2,a3,a4,r,a5,a6⟩:=ha he
    rw [if_pos he]
    refine ⟨a4,by omega,a3,?_,r,a5,fun s hs=>(a6 s hs).imp_right fun h=>⟨t,by rw [stepsL_f]; simp,h.1,h.2⟩⟩
    rw [dpC_f]; show 0+1≤_; omega
  have hn0:¬ (t.kids.length:Int)=0:=by omega
  have hF':(t.kind=3∧t.kids.length=1)∨(t.kind=4∧t.kids.length=2∧1≤t.fn∧t.fn≤6∧(t.fn=6∨(t.kids.getD 0 noT).kind=1∨(t.kids.getD 0 noT).kind=2)):=by
   rcases hF with h|h|h|h
   ·exact absurd h.2.2.2.2 h0
   ·exact absurd h.2.2.2.2.2 h0
   ·exact Or.inl ⟨h.1,h.2.2.2.1⟩
   ·exact Or.inr ⟨h.1,h.2.2.2.1,h.2.2.2.2.1,h.2.2.2.2.2.1,h.2.2.2.2.2.2.2⟩
  rcases hF' with ⟨h3,h4⟩|⟨h3,h4,f1,f2,f3⟩
  ·-- one operand
   obtain ⟨k,hk⟩:=kids1 h4
   rw [hk] at hK hsz hnum
   have s1:=sz1 k
   have zk:=szT_pos k
   obtain ⟨ss',c,e,e1,r1⟩:=expr_r hl n k (by omega) (goods1.1 hK) (by omega) ss (by omega) hB
   have ik:idx t.kids (W ((t.kids.length:Int) - 1))=some k:=by rw [hk]; rfl
   by_cases he:e=0
   ·subst he
    obtain ⟨q1,q2,q3,q4,r,q5,q6⟩:=r1 rfl
    refine ⟨ss',(monR t c).1,(monR t c).2,?_,fun h=>?_⟩
    ·rw [Qw]
     simp only [hn0,if_false,ik,Qd,e1,ne_eq,not_true_eq_false,etaT,etaC,monad_okC t c (okC_shape q1)]
     simp only [h3,if_true]
    ·obtain ⟨m1,m2⟩:=monR_ok hax q1 h
     refine ⟨m1,by omega,q3,by omega,r,q5,fun s hs=>(q6 s hs).imp_right fun ⟨x,hx,h⟩=>⟨x,by rw [stepsL_f,hk,stepsR_one]; simp [hx],h⟩⟩
   ·refine ⟨ss',⟨0,[],0,[],0,0,[],[]⟩,e,?_,fun h=>absurd h he⟩
    rw [Qw]
    simp only [hn0,if_false,ik,Qd,e1,ne_eq,he,not_false_eq_true,if_true]
  ·-- two operands
   obtain ⟨a,k,hk⟩:=kids2 h4
   rw [hk] at hK hsz hnum f3
   obtain ⟨ga,gk⟩:=goods2.1 hK
   have s1:=sz2 a k
   have f3:t.fn=6∨a.kind=1∨a.kind=2:=f3
   have zk:=szT_pos k
   have za:=szT_pos a
   obtain ⟨ss',c,e,e1,r1⟩:=expr_r hl n k (by omega) gk (by omega) ss (by omega) hB
   have ik:idx t.kids (W ((t.kids.length:Int) - 1))=some k:=by rw [hk]; rfl
   have i0:idx t.kids 0=some a:=by rw [hk]; rfl
   have h34:¬ t.kind=3:=by omega
   by_cases he:e=0
   case neg =>
    refine ⟨ss',⟨0,[],0,[],0,0,[],[]⟩,e,?_,fun h0=>absurd h0 he⟩
    rw [Qw]
    simp only [hn0,if_false,ik,Qd,e1,ne_eq,he,not_false_eq_true,if_true]
   subst he
   obtain ⟨q1,q2,q3,q4,r,q5,q6⟩:=r1 rfl
   have hst:∀ x,x∈stepsL k∨x∈stepsL a→x∈stepsL t:=fun x hx=>by
    rw [stepsL_f,hk,stepsR_two]; simp only [List.mem_append]; exact Or.inl hx
   by_cases h6:t.fn=6
   ·obtain ⟨ss2,d,e2,g1,w1⟩:=expr_r hl n a (by omega) ga (by omega) ss' (by omega) q3
    have hps:Qw (t.kind,t.fn,t.axis,t.name,t.nums,t.kids,smOf l 0,l,l,ss)=(Q3 (t.kind,t.fn,t.axis,t.name,t.nums,t.kids,c.kind,c.shape,c.buffer,c.starts,c.axis,c.amount,c.perm,c.kids,smOf l 0,l,l,ss')>>=fun ((v19,v20,v21,v22,v23,v24):((List Ql) × Int × (List Int) × Int × (List Qc) × Int)) =>
      some (v19,v20,v21,(0:Int),([]:List Int),v22,(0:Int),([]:List Int),v23,v24)):=by
     rw [Qw]
     simp only [hn0,if_false,ik,Qd,e1,ne_eq,not_true_eq_false,h34,YE]
     simp only [h6,if_true]
    rw [Q3] at hps
    simp only [i0,Qd,g1] at hps
    by_cases he2:e2=0
    case neg =>
     refine ⟨ss2,⟨0,[],0,[],0,0,[],[]⟩,e2,?_,fun h0=>absurd h0 he2⟩
     rw [hps]; simp only [ne_eq,he2,not_false_eq_true,if_true,Qd]
    subst he2
    obtain ⟨u1,u2,u3,u4,r',u5,u6⟩:=w1 rfl
    have q1':okC (shs ss2) c:=by rw [u5,shs_app]; exact q1.mono _ _
    obtain ⟨dd,ld,_⟩:=checkR_zero.1 (okC_shape u1)
    obtain ⟨dc,lc,_⟩:=checkR_zero.1 (okC_shape q1)
    have hok:=okR_cat hax (okC_shape u1) (okC_shape q1)
    obtain ⟨l1,l2,l3⟩:=okR_len hok
    simp only [ne_eq,not_true_eq_false,if_false,Cat_ok hax ld lc dd dc,Qd,etaC,seen_okC d (catR t.axis d.shape c.shape).1.left (by omega),seen_okC c _ (show (catR t.axis d.shape c.shape).1.right.length≤1000 by omega)] at hps
    refine ⟨ss2,⟨7,(catR t.axis d.shape c.shape).1.shape,0,[],(catR t.axis d.shape c.shape).1.axis,0,[],[seenC d (catR t.axis d.shape c.shape).1.left,seenC c (catR t.axis d.shape c.shape).1.right]⟩,(catR t.axis d.shape c.shape).2,hps,fun h=>?_⟩
    obtain ⟨m1,m2⟩:=cat_right hax u1 q1' h
    refine ⟨m1,by omega,u3,by omega,r++r',by rw [u5,q5,List.append_assoc],fun s hs=>?_⟩
    rcases List.mem_append.1 hs with hs|hs
    ·exact (q6 s hs).imp_right fun ⟨x,hx,h⟩=>⟨x,hst x (Or.inl hx),h⟩
    ·exact (u6 s hs).imp_right fun ⟨x,hx,h⟩=>⟨x,hst x (Or.inr hx),h⟩
   ·obtain ⟨d,e2,hm,hd⟩:=mea_r (ss:=ss') hl hk (show a.nums.length≤1000 by have:=numT_f a; omega) ⟨f1,by omega⟩ hax q1
    refine ⟨ss',d,e2,?_,fun h=>?_⟩
    ·rw [Qw]
     simp only [hn0,if_false,ik,Qd,e1,ne_eq,not_true_eq_false,h34,YE]
     simp only [h6,if_false,hm,Qd]
    ·obtain ⟨m1,m2⟩:=hd h
     exact ⟨m1,by omega,q3,by omega,r,q5,fun s hs=>(q6 s hs).imp_right fun ⟨x,hx,h⟩=>⟨x,hst x (Or.inl hx),h⟩⟩
end Go.Proofs.Tryz
