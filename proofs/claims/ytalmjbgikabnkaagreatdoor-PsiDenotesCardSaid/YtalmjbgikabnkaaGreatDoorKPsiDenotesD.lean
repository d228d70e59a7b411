/-
 Models of functions, their walks, and plain laws.
-/
import Derived.Test.YtalmjbgikabnkaaGreatDoorPmLaw
import Derived.Test.YtalmjbgikabnkaaGreatDoorKPsiDenotesC
namespace Go.Proofs.Tryz
open Go Go.Pm
set_option linter.unusedVariables false
set_option linter.unusedSimpArgs false
set_option maxRecDepth 2000
theorem ap8 {l:List Int} {v:Int} (h:l.length≤100000):app 8 l [v]=some (l++[v]):=app_ok (by
 have:100002 * 8≤room:=by decide +kernel
 simp; omega)
theorem ite_e {c:Prop} [Decidable c] {α:Type} {a b:α} {P:α→Prop} (ha:c→P a) (hb:¬ c→P b):P (if c then a else b):=by
 split
 ·exact ha ‹_›
 ·exact hb ‹_›
theorem seen_L1 (n:Nat) (hn:n≤1000):∀ (m j:Nat) (acc:List Int),j+m=n→acc.length=j→∃ out,YD ((n:Int),acc,(j:Int))=some out∧out.length=n
 | 0,j,acc,h,ha=>by
  rw [YD]
  have:¬ ((j:Int) < (n:Int)):=by omega
  simp only [this,if_false]
  exact ⟨_,rfl,by omega⟩
 | m+1,j,acc,h,ha=>by
  rw [YD]
  have h1:((j:Int) < (n:Int)):=by omega
  have w:W ((j:Int)+1)=((j+1:Nat):Int):=W_succ (by omega)
  obtain ⟨out,e,ho⟩:=seen_L1 n hn m (j+1) (acc++[1]) (by omega) (by simp; omega)
  simp only [h1,if_true,ap8 (show acc.length≤100000 by omega),Qj,w,e]
  exact ⟨out,rfl,ho⟩
theorem seen_tot (a:List Int) (n:Nat) (hn:n≤1000):∃ out,JQ (a,(n:Int))=some out∧(out.length=if 0 < a.length then a.length else n):=by
 unfold JQ
 dsimp only
 by_cases h:(a.length:Int) > 0
 ·rw [if_pos h]
  exact ⟨a,rfl,by rw [if_pos (by omega)]⟩
 ·rw [if_neg h]
  obtain ⟨out,e,ho⟩:=seen_L1 n hn n 0 [] (by omega) rfl
  simp only [Int.natCast_zero] at e
  rw [e]
  exact ⟨out,rfl,by rw [if_neg (by omega)]; exact ho⟩
theorem magn_tot (v:Int):∃ n e,XA v=some (n,e):=by
 unfold XA
 simp only [ite_some,Qj]
 exact ⟨_,_,rfl⟩
/-- a rule's result: shapes that are not long -/
def rg (r:Qu):Prop:=r.shape.length≤16∧r.right.length≤1000∧r.left.length≤1000
def ruleR (o:Option (Qu × Int)):Prop:=∃ r e,o=some (r,e)∧(e=0→rg r)
theorem ruleR_err {e:Int} (h:e≠0) (r:Qu):ruleR (some (r,e)):=⟨r,e,rfl,fun q=>absurd q h⟩
theorem take_L1 (v w2:List Int) (hw:w2.length=v.length) (hv:v.length≤1000):∀ (m j:Nat) (a b:List Int),j+m=v.length→a.length=j→b.length=j→∃ r,YE (v,w2,a,b,(j:Int))=some r∧∀ x y,r=.inr (x,y)→x.length=v.length
 | 0,j,a,b,h,ha,hb=>by
  rw [YE]
  have:¬ ((j:Int) < (v.length:Int)):=by omega
  simp only [this,if_false]
  exact ⟨_,rfl,fun x y e=>by cases e; omega⟩
 | m+1,j,a,b,h,ha,hb=>by
  rw [YE]
  have h1:((j:Int) < (v.length:Int)):=by omega
  have hi:idx v (j:Int)=some v[j]:=idx_ok (by omega)
  have hi2:idx w2 (j:Int)=some w2[j]:=idx_ok (by omega)
  have w:W ((j:Int)+1)=((j+1:Nat):Int):=W_succ (by omega)
  obtain ⟨n,e,em⟩:=magn_tot v[j]
  simp only [h1,if_true,hi,Qj,em]
  by_cases he:e=0
  ·obtain ⟨r,er,hr⟩:=take_L1 v w2 hw hv m (j+1) (a++[n]) (b++[if v[j] < 0 then W (w2[j] - n) else 0]) (by omega) (by simp; omega) (by simp; omega)
   have hne:¬ (e≠0):=by simp [he]
   simp only [hne,if_false,ap8 (show a.length≤100000 by omega),ap8 (show b.length≤100000 by omega),hi2,Qj,ite_some,w,er]
   exact ⟨r,rfl,hr⟩
  ·simp only [he,ne_eq,not_false_eq_true,if_true]
   exact ⟨_,rfl,fun x y e=>by cases e⟩
theorem Take_tot (v a:List Int) (hv:v.length≤1000) (ha:a.length≤16):ruleR (JG (v,a)):=by
 unfold JG
 dsimp only
 obtain ⟨w2,e2,h2⟩:=seen_tot a v.length hv
 simp only [ite_some,Qj,e2]
 refine ite_e (P:=ruleR) (fun _=>ruleR_err (by decide) _) (fun _=>?_)
 refine ite_e (P:=ruleR) (fun _=>ruleR_err (by decide) _) (fun hl=>?_)
 obtain ⟨r,er,hr⟩:=take_L1 v w2 (by omega) hv v.length 0 [] [] (by omega) rfl rfl
 simp only [Int.natCast_zero] at er
 rw [er]
 simp only [Qj]
 cases r with
 | inl u=>exact ruleR_err (by decide) _
 | inr u =>
  obtain ⟨x,y⟩:=u
  have hx:=hr x y rfl
  simp only [Check_ok x (Sm_of (show x.length≤1000 by omega)),Qj]
  refine ite_e (P:=fun p:Qu × Int=>ruleR (some p)) (fun _=>ruleR_err (by decide) _) (fun hc=>?_)
  exact ⟨_,_,rfl,fun _=>⟨(checkR_ok (by simpa using hc)).1,by show w2.length≤1000; rw [h2]; split <;> omega,by show ([]:List Int).length≤1000; simp⟩⟩
theorem drop_L1 (w2 v:List Int) (hw:w2.length≤1000):∀ (m j:Nat) (a b:List Int),j+m=w2.length→a.length=j→b.length=j→∃ x y,Yi (w2,v,a,b,(j:Int))=some (x,y)∧x.length=w2.length
 | 0,j,a,b,h,ha,hb=>by
  rw [Yi]
  have:¬ ((j:Int) < (w2.length:Int)):=by omega
  simp only [this,if_false]
  exact ⟨_,_,rfl,by omega⟩
 | m+1,j,a,b,h,ha,hb=>by
  rw [Yi]
  have h1:((j:Int) < (w2.length:Int)):=by omega
  have hi2:idx w2 (j:Int)=some w2[j]:=idx_ok (by omega)
  have w:W ((j:Int)+1)=((j+1:Nat):Int):=W_succ (by omega)
  have ih:=fun p q:Int=>drop_L1 w2 v hw m (j+1) (a++[p]) (b++[q]) (by omega) (by simp; omega) (by simp; omega)
  simp only [h1,if_true,hi2,Qj]
  by_cases hj:(j:Int) < (v.length:Int)
  ·have hi:idx v (j:Int)=some v[j]:=idx_ok (by omega)
   simp only [hj,if_true,hi,Qj,ap8 (show a.length≤100000 by omega),ap8 (show b.length≤100000 by omega),w]
   refine ite_e (P:=fun (o:Option (List Int × List Int))=>∃ x y,o=some (x,y)∧x.length=w2.length) (fun _=>ih _ _) (fun _=>ih _ _)
  ·simp only [hj,if_false,Qj,Bool.false_eq_true,ap8 (show a.length≤100000 by omega),ap8 (show b.length≤100000 by omega),w]
   exact ih _ _
theorem Drop_tot (v a:List Int) (hv:v.length≤1000) (ha:a.length≤16):ruleR (JI (v,a)):=by
 unfold JI
 dsimp only
 obtain ⟨w2,e2,h2⟩:=seen_tot a v.length hv
 simp only [ite_some,Qj,e2]
 refine ite_e (P:=ruleR) (fun _=>ruleR_err (by decide) _) (fun h0=>?_)
 refine ite_e (P:=ruleR) (fun _=>ruleR_err (by decide) _) (fun hl=>?_)
 have hlen:w2.length≤16:=by
  by_cases hz:(a.length:Int)=0
  ·rw [if_pos hz] at h0
   rw [if_neg (by omega)] at h2
   have:¬ ((v.length:Int) > 16):=by simpa using h0
   omega
  ·rw [if_pos (by omega)] at h2; omega
 obtain ⟨x,y,er,hr⟩:=drop_L1 w2 v (by omega) w2.length 0 [] [] (by omega) rfl rfl
 simp only [Int.natCast_zero] at er
 simp only [er,Qj]
 exact ⟨_,_,rfl,fun _=>⟨by show x.length≤16; omega,by show w2.length≤1000; omega,by show ([]:List Int).length≤1000; simp⟩⟩
theorem Reverse_tot (ax:Int) (a:List Int) (hax:-1≤ax) (ha:a.length≤16):∃ r e,Y1 (ax,a)=some (r,e)∧(e=0→rg r∧r.axis < (a.length:Int)):=by
 unfold Y1
 simp only [ite_some,Qj]
 refine ite_e (P:=fun p:Qu × Int=>∃ r e,some p=some (r,e)∧(e=0→rg r∧r.axis < (a.length:Int))) (fun _=>⟨_,_,rfl,fun q=>absurd q (by decide)⟩) (fun hl=>⟨_,_,rfl,fun _=>⟨⟨ha,by show a.length≤1000; omega,by show ([]:List Int).length≤1000; simp⟩,?_⟩⟩)
 show (if ax < 0 then W ((a.length:Int) - 1) else ax) < (a.length:Int)
 split
 ·rw [W_ok (by omega) (by omega)]; omega
 ·omega
theorem Rotate_tot (v:List Int) (ax:Int) (a:List Int) (hax:-1≤ax) (ha:a.length≤16):ruleR (XR (v,ax,a)):=by
 unfold XR
 dsimp only
 refine ite_e (P:=ruleR) (fun _=>ruleR_err (by decide) _) (fun hl=>?_)
 obtain ⟨r,e,er,hr⟩:=Reverse_tot ax a hax ha
 simp only [er,Qj,ite_some]
 by_cases he:e=0
 ·obtain ⟨h1,h2⟩:=hr he
  simp only [he,if_true]
  by_cases h0:r.axis≥0
  ·have hi:idx a r.axis=some (a.getD r.axis.toNat 0):=idx_getD h0 h2
   have hv0:idx v 0=some (v.getD 0 0):=by
    have:=idx_getD (l:=v) (j:=0) (by omega) (by omega)
    simpa using this
   simp only [decide_eq_true h0,if_true,hi,Qj]
   by_cases hp:a.getD r.axis.toNat 0 > 0
   ·have hne:¬ (a.getD r.axis.toNat 0=0):=by omega
    simp only [decide_eq_true hp,if_true,hv0,Qj,remM,hne,if_false]
    exact ⟨_,_,rfl,fun _=>h1⟩
   ·simp only [decide_eq_false hp,Bool.false_eq_true,if_false,Qj]
    exact ⟨_,_,rfl,fun _=>h1⟩
  ·simp only [decide_eq_false h0,Bool.false_eq_true,if_false,Qj]
   exact ⟨_,_,rfl,fun _=>h1⟩
 ·simp only [he,if_false,Bool.false_eq_true,Qj]
  exact ⟨_,_,rfl,fun q=>absurd q he⟩
theorem perm_L2 (a pm:List Int) (hp:pm.length=a.length) (ha:a.length≤1000) (j:Int) (acc:List Int):∀ (m k:Nat) (least:Int),k+m=a.length→∃ v,Zs (a,pm,j,acc,least,(k:Int))=some v
 | 0,k,least,h=>by
  rw [Zs]
  have:¬ ((k:Int) < (a.length:Int)):=by omega
  simp only [this,if_false]
  exact ⟨_,rfl⟩
 | m+1,k,least,h=>by
  rw [Zs]
  have h1:((k:Int) < (a.length:Int)):=by omega
  have hi:idx a (k:Int)=some a[k]:=idx_ok (by omega)
  have hi2:idx pm (k:Int)=some pm[k]:=idx_ok (by omega)
  have w:W ((k:Int)+1)=((k+1:Nat):Int):=W_succ (by omega)
  simp only [h1,if_true,hi,hi2,Qj,ite_some,w]
  exact ite_e (P:=fun o=>∃ v,o=some v) (fun _=>perm_L2 a pm hp ha j acc m (k+1) _ (by omega)) (fun _=>perm_L2 a pm hp ha j acc m (k+1) _ (by omega))
theorem perm_L1 (a pm:List Int) (hp:pm.length=a.length) (ha:a.length≤1000):∀ (m j:Nat) (acc:List Int),j+m=a.length→acc.length≤j→∃ out,Zt (a,pm,acc,(j:Int))=some out∧out.length≤a.length
 | 0,j,acc,h,hac=>by
  rw [Zt]
  have:¬ ((j:Int) < (a.length:Int)):=by omega
  simp only [this,if_false]
  exact ⟨_,rfl,by omega⟩
 | m+1,j,acc,h,hac=>by
  rw [Zt]
  have h1:((j:Int) < (a.length:Int)):=by omega
  have w:W ((j:Int)+1)=((j+1:Nat):Int):=W_succ (by omega)
  obtain ⟨v,ev⟩:=perm_L2 a pm hp ha (j:Int) acc a.length 0 (-1) (by omega)
  simp only [Int.natCast_zero] at ev
  simp only [h1,if_true,ev,Qj,ap8 (show acc.length≤100000 by omega),w]
  exact ite_e (P:=fun (o:Option (List Int))=>∃ out,o=some out∧out.length≤a.length) (fun _=>perm_L1 a pm hp ha m (j+1) (acc++[v]) (by omega) (by simp; omega)) (fun _=>perm_L1 a pm hp ha m (j+1) acc (by omega) (by omega))
theorem permuted_tot (a pm:List Int) (hp:pm.length=a.length) (ha:a.length≤16):∃ r,Xf (pm,a)=some r∧rg r:=by
 obtain ⟨out,e,ho⟩:=perm_L1 a pm hp (by omega) a.length 0 [] (by omega) (by simp)
 simp only [Int.natCast_zero] at e
 unfold Xf
 simp only [e,Qj]
 exact ⟨_,rfl,by show out.length≤16; omega,by show a.length≤1000; omega,by show ([]:List Int).length≤1000; simp⟩
theorem flip_L1 (a:List Int):∀ (m:Nat) (acc:List Int),m+acc.length≤1000→∃ out,YG (a,acc,(m:Int) - 1)=some out∧out.length=acc.length+m
 | 0,acc,h=>by
  rw [YG]
  have:¬ (((0:Nat):Int) - 1≥0):=by omega
  simp only [this,if_false]
  exact ⟨_,rfl,rfl⟩
 | m+1,acc,h=>by
  rw [YG]
  have h1:((m+1:Nat):Int) - 1≥0:=by omega
  have w:W (((m+1:Nat):Int) - 1 - 1)=(m:Int) - 1:=by rw [W_ok (by omega) (by omega)]; omega
  obtain ⟨out,e,ho⟩:=flip_L1 a m (acc++[((m+1:Nat):Int) - 1]) (by simp; omega)
  simp only [h1,if_true,ap8 (show acc.length≤100000 by omega),Qj,w,e]
  exact ⟨out,rfl,by rw [ho]; simp; omega⟩
theorem Flip_tot (a:List Int) (ha:a.length≤16):∃ r,JM a=some r∧rg r:=by
 obtain ⟨out,e,ho⟩:=flip_L1 a a.length [] (by simp; omega)
 have w:W ((a.length:Int) - 1)=(a.length:Int) - 1:=W_ok (by omega) (by omega)
 obtain ⟨r,er,hr⟩:=permuted_tot a out (by simpa using ho) ha
 unfold JM
 simp only [w,e,Qj,er]
 exact ⟨r,rfl,hr⟩
theorem pmt_L1 (v:List Int) (hv:v.length≤1000) (sc:Bool):∀ (m j:Nat) (acc:List Int) (most:Int),j+m=v.length→acc.length=j→most < (v.length:Int)→∃ r,Zh ((v.length:Int),⟨v,sc⟩,acc,most,(j:Int))=some r∧∀ x y,r=.inr (x,y)→x.length=v.length∧y < (v.length:Int)
 | 0,j,acc,most,h,ha,hm=>by
  rw [Zh]
  have:¬ ((j:Int) < (v.length:Int)):=by omega
  simp only [this,if_false]
  exact ⟨_,rfl,fun x y e=>by cases e; exact ⟨by omega,hm⟩⟩
 | m+1,j,acc,most,h,ha,hm=>by
  rw [Zh]
  have h1:((j:Int) < (v.length:Int)):=by omega
  have hi:idx v (j:Int)=some v[j]:=idx_ok (by omega)
  have w:W ((j:Int)+1)=((j+1:Nat):Int):=W_succ (by omega)
  simp only [h1,if_true,hi,Qj,ite_some]
  by_cases hb:(if v[j] < 0 then true else decide (v[j]≥(v.length:Int)))=true
  ·simp only [hb,if_true]
   exact ⟨_,rfl,fun x y e=>by cases e⟩
  ·have hlt:v[j] < (v.length:Int):=by
    by_cases q:v[j] < 0
    ·omega
    ·rw [if_neg q] at hb; simpa using hb
   have hi2:idx (acc++[v[j]]) (j:Int)=some v[j]:=by
    have:=QS (p:=acc) (s:=[]) (x:=v[j])
    rw [ha] at this
    exact this
   obtain ⟨r,er,hr⟩:=pmt_L1 v hv sc m (j+1) (acc++[v[j]]) (if most < v[j] then v[j] else most) (by omega) (by simp; omega) (by split <;> omega)
   simp only [hb,if_false,ap8 (show acc.length≤100000 by omega),Qj,hi2,w,er]
   exact ⟨r,rfl,hr⟩
theorem pmt_L3 (n:Nat) (hn:n≤1000) (out:List Int) (ho:out.length=n) (k most:Int) (sp:QK):∀ (m j:Nat) (f:Bool),j+m=n→∃ b,Q8 ((n:Int),out,k,most,sp,f,(j:Int))=some b
 | 0,j,f,h=>by
  rw [Q8]
  have:¬ ((j:Int) < (n:Int)):=by omega
  simp only [this,if_false]
  exact ⟨_,rfl⟩
 | m+1,j,f,h=>by
  rw [Q8]
  have h1:((j:Int) < (n:Int)):=by omega
  have hi:idx out (j:Int)=some out[j]:=idx_ok (by omega)
  have w:W ((j:Int)+1)=((j+1:Nat):Int):=W_succ (by omega)
  simp only [h1,if_true,hi,Qj,w]
  exact ite_e (P:=fun o=>∃ b,o=some b) (fun _=>pmt_L3 n hn out ho k most sp m (j+1) _ (by omega)) (fun _=>pmt_L3 n hn out ho k most sp m (j+1) _ (by omega))
theorem pmt_L2 (n:Nat) (hn:n≤1000) (out:List Int) (ho:out.length=n) (most:Int) (hm:most < (n:Int)) (sp:QK):∀ (m k:Nat),most < (k:Int)+(m:Int)→k≤2000→∃ r,Zi (most,(n:Int),out,sp,(k:Int))=some r
 | 0,k,h,hk=>by
  rw [Zi]
  have:¬ ((k:Int)≤most):=by omega
  simp only [this,if_false]
  exact ⟨_,rfl⟩
 | m+1,k,h,hk=>by
  rw [Zi]
  by_cases h1:(k:Int)≤most
  ·obtain ⟨b,eb⟩:=pmt_L3 n hn out ho (k:Int) most sp n 0 false (by omega)
   simp only [Int.natCast_zero] at eb
   have w:W ((k:Int)+1)=((k+1:Nat):Int):=W_succ (by omega)
   simp only [h1,if_true,eb,Qj,w]
   exact ite_e (P:=fun o=>∃ r,o=some r) (fun _=>⟨_,rfl⟩) (fun _=>pmt_L2 n hn out ho most hm sp m (k+1) (by omega) (by omega))
  ·simp only [h1,if_false]
   exact ⟨_,rfl⟩
theorem Permutation_tot (v:List Int) (sc:Bool) (n:Nat) (hn:n≤16):∃ out e,Y3 (⟨v,sc⟩,(n:Int))=some (out,e)∧(e=0→out.length=n):=by
 unfold Y3
 dsimp only
 refine ite_e (P:=fun (o:Option (List Int × Int))=>∃ out e,o=some (out,e)∧(e=0→out.length=n)) (fun _=>⟨_,_,rfl,fun q=>absurd q (by decide)⟩) (fun hl=>?_)
 have hvn:v.length=n:=by omega
 subst hvn
 obtain ⟨r,er,hr⟩:=pmt_L1 v (by omega) sc v.length 0 [] (-1) (by omega) rfl (by omega)
 simp only [Int.natCast_zero] at er
 rw [er]
 simp only [Qj]
 cases r with
 | inl u=>exact ⟨_,_,rfl,fun q=>absurd q (by decide)⟩
 | inr u =>
  obtain ⟨x,y⟩:=u
  obtain ⟨h1,h2⟩:=hr x y rfl
  obtain ⟨r2,er2⟩:=pmt_L2 v.length (by omega) x h1 y h2 ⟨v,sc⟩ v.length 0 (by omega) (by omega)
  simp only [Int.natCast_zero] at er2
  simp only [er2,Qj]
  cases r2 with
  | inl u=>exact ⟨_,_,rfl,fun q=>absurd q (by decide)⟩
  | inr u=>exact ⟨_,_,rfl,fun _=>h1⟩
theorem Transpose_tot (v a:List Int) (ha:a.length≤16):ruleR (YV (v,a)):=by
 unfold YV
 dsimp only
 obtain ⟨pm,e,ep,hp⟩:=Permutation_tot v false a.length ha
 simp only [ep,Qj]
 refine ite_e (P:=ruleR) (fun h=>ruleR_err h _) (fun h=>?_)
 obtain ⟨r,er,hr⟩:=permuted_tot a pm (hp (by simpa using h)) ha
 simp only [er,Qj]
 exact ⟨_,_,rfl,fun _=>hr⟩
theorem dim_L1 (v:List Int) (sc:Bool) (hv:v.length≤1000):∀ (m j:Nat),j+m=v.length→∃ r,Zq (⟨v,sc⟩,(j:Int))=some r
 | 0,j,h=>by
  rw [Zq]
  have:¬ ((j:Int) < (v.length:Int)):=by omega
  simp only [this,if_false]
  exact ⟨_,rfl⟩
 | m+1,j,h=>by
  rw [Zq]
  have h1:((j:Int) < (v.length:Int)):=by omega
  have hi:idx v (j:Int)=some v[j]:=idx_ok (by omega)
  have w:W ((j:Int)+1)=((j+1:Nat):Int):=W_succ (by omega)
  simp only [h1,if_true,hi,Qj,w]
  exact ite_e (P:=fun o=>∃ r,o=some r) (fun _=>⟨_,rfl⟩) (fun _=>dim_L1 v sc hv m (j+1) (by omega))
theorem dim_L2 (v:List Int) (sc:Bool) (hv:v.length≤1000):∀ (m j:Nat) (acc:List Int),j+m=v.length→acc.length=j→∃ r,Zp (⟨v,sc⟩,acc,(j:Int))=some r∧∀ x,r=.inr x→x.length=v.length
 | 0,j,acc,h,ha=>by
  rw [Zp]
  have:¬ ((j:Int) < (v.length:Int)):=by omega
  simp only [this,if_false]
  exact ⟨_,rfl,fun x e=>by cases e; omega⟩
 | m+1,j,acc,h,ha=>by
  rw [Zp]
  have h1:((j:Int) < (v.length:Int)):=by omega
  have hi:idx v (j:Int)=some v[j]:=idx_ok (by omega)
  have w:W ((j:Int)+1)=((j+1:Nat):Int):=W_succ (by omega)
  obtain ⟨r,er,hr⟩:=dim_L2 v sc hv m (j+1) (acc++[v[j]]) (by omega) (by simp; omega)
  simp only [h1,if_true,hi,Qj,ite_some,ap8 (show acc.length≤100000 by omega),w,er]
  by_cases hb:(if (j:Int)≥16 then true else decide (v[j] > 65536))=true
  ·simp only [hb,if_true]
   exact ⟨_,rfl,fun x e=>by cases e⟩
  ·simp only [hb,if_false]
   exact ⟨r,rfl,hr⟩
theorem Reshape_tot (v a:List Int) (hv:v.length≤1000) (ha:a.length≤16):ruleR (Xy (v,a)):=by
 unfold Xy Jb
 dsimp only
 obtain ⟨r,er⟩:=dim_L1 v false hv v.length 0 (by omega)
 obtain ⟨r2,er2,hr2⟩:=dim_L2 v false hv v.length 0 [] (by omega) rfl
 simp only [Int.natCast_zero] at er er2
 rw [er]
 simp only [Qj]
 have n6:((6:Int)≠0):=by decide
 have n7:((7:Int)≠0):=by decide
 cases r with
 | inl u=>simp only [Qj,n6,ne_eq,not_false_eq_true,if_true]; exact ruleR_err n6 _
 | inr u =>
  simp only [er2,Qj]
  cases r2 with
  | inl u=>simp only [Qj,n7,ne_eq,not_false_eq_true,if_true]; exact ruleR_err n7 _
  | inr x =>
   have hx:=hr2 x rfl
   simp only [Check_ok x (Sm_of (show x.length≤1000 by omega)),Qj]
   by_cases hc:checkR x=0
   ·have n0:¬ ((0:Int)≠0):=by simp
    simp only [hc,n0,if_false,Qj]
    exact ⟨_,_,rfl,fun _=>⟨(checkR_ok hc).1,by show a.length≤1000; omega,by show ([]:List Int).length≤1000; simp⟩⟩
   ·simp only [hc,ne_eq,not_false_eq_true,if_true,Qj]
    exact ruleR_err hc _
theorem Ravel_tot (a:List Int) (ha:a.length≤16):∃ r,Jm a=some r∧rg r:=by
 unfold Jm
 simp only [Cells_ok a (Sm_of (show a.length≤1000 by omega)),Qj]
 exact ⟨_,rfl,by show ([_]:List Int).length≤16; simp,by show a.length≤1000; omega,by show ([]:List Int).length≤1000; simp⟩
theorem ins_L1 (s:List Int) (ax n:Int) (hs:s.length≤1000):∀ (m j:Nat) (acc:List Int),j+m=s.length+1→acc.length≤2 * j→∃ out,Zj (s,ax,n,acc,(j:Int))=some out∧out.length=acc.length+(s.length - j)+(if (j:Int)≤ax∧ax≤(s.length:Int) then 1 else 0)
 | 0,j,acc,h,ha=>by
  rw [Zj]
  have h1:¬ ((j:Int)≤(s.length:Int)):=by omega
  simp only [h1,if_false]
  exact ⟨_,rfl,by rw [if_neg (by omega)]; omega⟩
 | m+1,j,acc,h,ha=>by
  rw [Zj]
  have h1:((j:Int)≤(s.length:Int)):=by omega
  have w:W ((j:Int)+1)=((j+1:Nat):Int):=W_succ (by omega)
  have key:∀ acc2:List Int,acc2.length=acc.length+(if (j:Int)=ax then 1 else 0)→∃ out,(if (j:Int) < (s.length:Int) then idx s (j:Int)>>=fun v604=>app 8 acc2 ([v604]:List Int)>>=fun v605=>Zj (s,ax,n,v605,(W ((j:Int)+1))) else Zj (s,ax,n,acc2,(W ((j:Int)+1))))=some out∧out.length=acc.length+(s.length - j)+(if (j:Int)≤ax∧ax≤(s.length:Int) then 1 else 0):=by
   intro acc2 h2
   have hb:(if (j:Int)=ax then 1 else 0)≤1:=by split <;> omega
   rw [w]
   by_cases hj:(j:Int) < (s.length:Int)
   ·have hi:idx s (j:Int)=some s[j]:=idx_ok (by omega)
    obtain ⟨out,e,ho⟩:=ins_L1 s ax n hs m (j+1) (acc2++[s[j]]) (by omega) (by simp; omega)
    rw [if_pos hj,hi,Qj,ap8 (by omega),Qj,e]
    refine ⟨out,rfl,?_⟩
    rw [ho,List.length_append,List.length_singleton,h2]
    by_cases q1:(j:Int)=ax
    ·rw [if_pos q1,if_neg (by omega),if_pos (by omega)]; omega
    ·rw [if_neg q1]
     by_cases q2:((j:Int)≤ax∧ax≤(s.length:Int))
     ·rw [if_pos q2,if_pos (by omega)]; omega
     ·rw [if_neg q2,if_neg (by omega)]; omega
   ·obtain ⟨out,e,ho⟩:=ins_L1 s ax n hs m (j+1) acc2 (by omega) (by omega)
    rw [if_neg hj,e]
    refine ⟨out,rfl,?_⟩
    rw [ho,h2]
    by_cases q1:(j:Int)=ax
    ·rw [if_pos q1,if_neg (by omega),if_pos (by omega)]; omega
    ·rw [if_neg q1]
     by_cases q2:((j:Int)≤ax∧ax≤(s.length:Int))
     ·rw [if_pos q2,if_pos (by omega)]; omega
     ·rw [if_neg q2,if_neg (by omega)]; omega
  by_cases q1:(j:Int)=ax
  ·have:=key (acc++[n]) (by rw [if_pos q1]; simp)
   rw [if_pos h1,if_pos q1,ap8 (by omega),Qj,Qj]
   exact this
  ·have:=key acc (by rw [if_neg q1]; simp)
   rw [if_pos h1,if_neg q1,Qj]
   exact this
theorem Insert_tot (s:List Int) (ax n:Int) (hs:s.length≤1000):∃ out,Xk (s,ax,n)=some out∧out.length≤s.length+1∧(0≤ax→ax≤(s.length:Int)→out.length=s.length+1):=by
 obtain ⟨out,e,ho⟩:=ins_L1 s ax n hs (s.length+1) 0 [] (by omega) (by simp)
 simp only [Int.natCast_zero,List.length_nil,Nat.zero_add,Nat.sub_zero] at e ho
 unfold Xk
 simp only [e,Qj]
 refine ⟨out,rfl,?_,fun h0 h1=>?_⟩
 ·rw [ho]; split <;> omega
 ·rw [ho,if_pos ⟨h0,h1⟩]
theorem rem_L1 (s:List Int) (ax:Int) (hs:s.length≤1000):∀ (m j:Nat) (acc:List Int),j+m=s.length→acc.length≤j→∃ out,ZJ (s,ax,acc,(j:Int))=some out∧out.length+(if (j:Int)≤ax∧ax < (s.length:Int) then 1 else 0)=acc.length+(s.length - j)
 | 0,j,acc,h,ha=>by
  rw [ZJ]
  have h1:¬ ((j:Int) < (s.length:Int)):=by omega
  simp only [h1,if_false]
  exact ⟨_,rfl,by rw [if_neg (by omega)]; omega⟩
 | m+1,j,acc,h,ha=>by
  rw [ZJ]
  have h1:((j:Int) < (s.length:Int)):=by omega
  have w:W ((j:Int)+1)=((j+1:Nat):Int):=W_succ (by omega)
  have hi:idx s (j:Int)=some s[j]:=idx_ok (by omega)
  rw [if_pos h1,w]
  by_cases q1:(j:Int)=ax
  ·obtain ⟨out,e,ho⟩:=rem_L1 s ax hs m (j+1) acc (by omega) (by omega)
   rw [if_neg (by simp [q1]),e]
   refine ⟨out,rfl,?_⟩
   rw [if_pos (by omega)]
   rw [if_neg (by omega)] at ho
   omega
  ·obtain ⟨out,e,ho⟩:=rem_L1 s ax hs m (j+1) (acc++[s[j]]) (by omega) (by simp; omega)
   rw [if_pos q1,hi,Qj,ap8 (by omega),Qj,e]
   refine ⟨out,rfl,?_⟩
   rw [List.length_append,List.length_singleton] at ho
   by_cases q2:((j:Int)≤ax∧ax < (s.length:Int))
   ·rw [if_pos q2]; rw [if_pos (by omega)] at ho; omega
   ·rw [if_neg q2]; rw [if_neg (by omega)] at ho; omega
theorem put_tot (s:List Int) (ax n:Int) (hs:s.length≤100):∃ out,JA (s,ax,n)=some out∧out.length≤101∧(0≤ax→ax < (s.length:Int)→out.length=s.length):=by
 obtain ⟨o1,e1,h1⟩:=rem_L1 s ax (by omega) s.length 0 [] (by omega) (by simp)
 simp only [Int.natCast_zero,List.length_nil,Nat.zero_add,Nat.sub_zero] at e1 h1
 obtain ⟨o2,e2,h2,h3⟩:=Insert_tot o1 ax n (by split at h1 <;> omega)
 unfold JA QaJ
 simp only [e1,e2,Qj]
 refine ⟨o2,rfl,by split at h1 <;> omega,fun a b=>?_⟩
 rw [if_pos ⟨a,b⟩] at h1
 have:=h3 a (by omega)
 omega
theorem cat_L1 (a b:List Int) (ax:Int) (x y:List Int) (r:Nat) (hr:max (max (a.length:Int) (b.length:Int)) 1=(r:Int)) (hx:x.length=r) (hy:y.length=r) (hr2:r≤1000):∀ (m j:Nat),j+m=r→∃ o,ZH (a,b,ax,x,y,(j:Int))=some o
 | 0,j,h=>by
  rw [ZH,hr]
  have:¬ ((j:Int) < (r:Int)):=by omega
  simp only [this,if_false]
  exact ⟨_,rfl⟩
 | m+1,j,h=>by
  rw [ZH,hr]
  have h1:((j:Int) < (r:Int)):=by omega
  have hi:idx x (j:Int)=some x[j]:=idx_ok (by omega)
  have hi2:idx y (j:Int)=some y[j]:=idx_ok (by omega)
  have w:W ((j:Int)+1)=((j+1:Nat):Int):=W_succ (by omega)
  simp only [h1,if_true,hi,hi2,Qj,ite_some,w]
  exact ite_e (P:=fun o=>∃ q,o=some q) (fun _=>⟨_,rfl⟩) (fun _=>cat_L1 a b ax x y r hr hx hy hr2 m (j+1) (by omega))
theorem Catenate_tot (ax:Int) (a b:List Int) (hax:-1≤ax) (ha:a.length≤16) (hb:b.length≤16):ruleR (XS (ax,a,b)):=by
 unfold XS
 dsimp only
 obtain ⟨r,hr⟩:∃ r:Nat,max (max (a.length:Int) (b.length:Int)) 1=(r:Int):=⟨(max (max (a.length:Int) (b.length:Int)) 1).toNat,by omega⟩
 have hr1:1≤r:=by omega
 have hr16:r≤16:=by omega
 have hw:W ((r:Int) - 1)=(r:Int) - 1:=W_ok (by omega) (by omega)
 rw [hr,hw]
 refine ite_e (P:=ruleR) (fun _=>ruleR_err (by decide) _) (fun hl=>?_)
 simp only [ite_some,Qj]
 generalize hax2:(if ax < 0 then (r:Int) - 1 else ax)=x1
 have hx0:0≤x1∧x1 < (r:Int):=by rw [← hax2]; split <;> omega
 refine ite_e (P:=ruleR) (fun _=>ruleR_err (by decide) _) (fun hlow=>?_)
 have hlow2:min (a.length:Int) (b.length:Int)≥(r:Int) - 1∨min (a.length:Int) (b.length:Int)=0:=by
  by_cases q:(if (b.length:Int) < (a.length:Int) then (b.length:Int) else (a.length:Int)) < (r:Int) - 1
  ·rw [if_pos q] at hlow
   have:¬ ((if (b.length:Int) < (a.length:Int) then (b.length:Int) else (a.length:Int)) > 0):=by simpa using hlow
   right
   split at this <;> omega
  ·left
   split at q <;> omega
 obtain ⟨ia,ea,ha1,ha2⟩:=Insert_tot a x1 1 (by omega)
 obtain ⟨ib,eb,hb1,hb2⟩:=Insert_tot b x1 1 (by omega)
 simp only [ea,eb,Qj,ite_some]
 generalize hv3:(if (a.length:Int)=(r:Int) - 1 then ia else a)=v3
 generalize hv5:(if (b.length:Int)=(r:Int) - 1 then ib else b)=v5
 have h3:v3.length=r∨(v3.length=0∧a.length=0∧2≤r):=by
  rw [← hv3]
  split
  ·left; rw [ha2 hx0.1 (by omega)]; omega
  ·by_cases q:a.length=r
   ·exact Or.inl q
   ·right; omega
 have h5:v5.length=r∨(v5.length=0∧b.length=0∧2≤r):=by
  rw [← hv5]
  split
  ·left; rw [hb2 hx0.1 (by omega)]; omega
  ·by_cases q:b.length=r
   ·exact Or.inl q
   ·right; omega
 have h35:v3.length=r∨v5.length=r:=by
  rcases h3 with h|h
  ·exact Or.inl h
  ·rcases h5 with h'|h'
   ·exact Or.inr h'
   ·omega
 obtain ⟨p5,e5,hp5,hp5'⟩:=put_tot v5 x1 1 (by omega)
 simp only [e5,Qj,ite_some]
 generalize hv7:(if (v3.length:Int) < (r:Int) then p5 else v3)=v7
 have h7:v7.length=r:=by
  rw [← hv7]
  split
  ·have:v5.length=r:=by omega
   rw [hp5' hx0.1 (by omega)]; exact this
  ·omega
 obtain ⟨p7,e7,hp7,hp7'⟩:=put_tot v7 x1 1 (by omega)
 simp only [e7,Qj,ite_some]
 generalize hv9:(if (v5.length:Int) < (r:Int) then p7 else v5)=v9
 have h9:v9.length=r:=by
  rw [← hv9]
  split
  ·rw [hp7' hx0.1 (by omega)]; exact h7
  ·omega
 obtain ⟨o,eo⟩:=cat_L1 a b x1 v7 v9 r hr h7 h9 (by omega) r 0 (by omega)
 simp only [Int.natCast_zero] at eo
 rw [eo]
 simp only [Qj]
 cases o with
 | inl u=>exact ruleR_err (by decide) _
 | inr u =>
  have i7:idx v7 x1=some (v7.getD x1.toNat 0):=idx_getD hx0.1 (by omega)
  have i9:idx v9 x1=some (v9.getD x1.toNat 0):=idx_getD hx0.1 (by omega)
  obtain ⟨pf,ef,hpf,_⟩:=put_tot v7 x1 (W (v7.getD x1.toNat 0+v9.getD x1.toNat 0)) (by omega)
  simp only [i7,i9,Qj,ef,Check_ok pf (Sm_of (show pf.length≤1000 by omega))]
  refine ite_e (P:=fun p:Qu × Int=>ruleR (some p)) (fun _=>ruleR_err (by decide) _) (fun hc=>?_)
  exact ⟨_,_,rfl,fun _=>⟨(checkR_ok (by simpa using hc)).1,by show v9.length≤1000; omega,by show v7.length≤1000; omega⟩⟩
theorem smCs_mem:∀ {l:List Qa},smCs l→∀ k∈l,smC k
 | x::l,h,k,hk=>by
  rw [smCs] at h
  rcases List.mem_cons.1 hk with rfl|hk
  ·exact h.1
  ·exact smCs_mem h.2 k hk
 | [],_,_,hk=>by cases hk
theorem smC_f {c:Qa} (h:smC c):c.shape.length≤40∧c.starts.length≤40∧c.perm.length≤40∧c.kids.length≤600∧smCs c.kids:=by
 cases c; rw [smC] at h; exact h
theorem QfI {α:Type} {p s:List α} {x:α} (h:p.length+(x::s).length≤600):W ((p.length:Int)+1)=((p++[x]).length:Int):=by
 simp at h
 rw [W_ok (by omega) (by omega)]; simp
/-- the buffer of a node -/
def bufF (bs:List (List Int)) (c:Qa):Prop:=c.kind=1→idx bs c.buffer=some c.shape
theorem node_buf (c:Qa) (bs:List (List Int)) (hS:Sm c.shape.length) (h:Jh (c,bs)=some true):bufF bs c:=by
 intro c1
 simp only [Jh,ite_some,Qj,Check_ok _ hS] at h
 have g:∀ {B:Bool} {R:Option Bool},(if B=true then some false else R)=some true→R=some true:=fun {B} {R} h=>by
  cases B with
  | true=>cases h
  | false=>exact h
 replace h:=g (g h)
 rw [if_pos c1] at h
 by_cases hb':0≤c.buffer∧c.buffer < (bs.length:Int)
 ·have hi:c.buffer.toNat < bs.length:=by omega
  have e:idx bs c.buffer=some bs[c.buffer.toNat]:=by simp [idx,hb'.1,hi]
  simp only [show c.buffer≥0 from hb'.1,if_true,decide_eq_true hb'.2,e,Qj,Equal_ok' _ _ hS,Option.some.injEq,decide_eq_true_eq] at h
  rw [e,h]
 ·have hb:¬ (if c.buffer≥0 then decide (c.buffer < (bs.length:Int)) else false)=true:=by
   by_cases h0:c.buffer≥0
   ·simp only [h0,if_true,decide_eq_true_eq]; omega
   ·simp [h0]
  rw [if_neg hb] at h
  cases h
mutual
/-- all nodes -/
def nodesF (bs:List (List Int)):Qa→Prop
 | ⟨k,sh,b,st,ax,am,pe,ks⟩=>nodeF ⟨k,sh,b,st,ax,am,pe,ks⟩∧bufF bs ⟨k,sh,b,st,ax,am,pe,ks⟩∧nodesFs bs ks
def nodesFs (bs:List (List Int)):List Qa→Prop
 | []=>True
 | k::ks=>nodesF bs k∧nodesFs bs ks
end
theorem nodesFs_mem {bs:List (List Int)}:∀ {l:List Qa},nodesFs bs l→∀ k∈l,nodesF bs k
 | x::l,h,k,hk=>by
  rw [nodesFs] at h
  rcases List.mem_cons.1 hk with rfl|hk
  ·exact h.1
  ·exact nodesFs_mem h.2 k hk
 | [],_,_,hk=>by cases hk
theorem nodesF_f {bs:List (List Int)} {c:Qa} (h:nodesF bs c):nodeF c∧bufF bs c∧∀ k∈c.kids,nodesF bs k:=by
 cases c; rw [nodesF] at h; exact ⟨h.1,h.2.1,nodesFs_mem h.2.2⟩
mutual
theorem nodes_ok (bs:List (List Int)):∀ (c:Qa),smC c→∃ b,XK (c,bs)=some b∧(b=true→nodesF bs c)
 | ⟨k,sh,b,st,ax,am,pe,ks⟩,h=>by
  have hf:=smC_f h
  rw [XK]
  obtain ⟨v,e,hv⟩:=node_ok ⟨k,sh,b,st,ax,am,pe,ks⟩ bs hf.1 hf.2.1 (fun k hk=>(smC_f (smCs_mem hf.2.2.2.2 k hk)).1)
  simp only [e,Qj]
  cases v with
  | false=>exact ⟨false,rfl,fun h=>by cases h⟩
  | true =>
   have hbuf:=node_buf _ bs (Sm_of (show sh.length≤1000 by have:=hf.1; simp only at this; omega)) e
   obtain ⟨o,e2,ho⟩:=nodes_loop bs ks [] k sh b st ax am pe hf.2.2.2.2 (by have:=hf.2.2.2.1; simpa using this)
   simp only [List.nil_append,List.length_nil,Int.natCast_zero] at e2
   simp only [Bool.true_eq_false,if_false,e2,Qj]
   cases o with
   | inl _=>exact ⟨false,rfl,fun h=>by cases h⟩
   | inr _=>exact ⟨true,rfl,fun _=>by rw [nodesF]; exact ⟨hv rfl,hbuf,ho rfl⟩⟩
theorem nodes_loop (bs:List (List Int)):∀ (s p:List Qa) (k:Int) (sh:List Int) (b:Int) (st:List Int) (ax am:Int) (pe:List Int),smCs s→p.length+s.length≤600 →
  ∃ o,ZC (⟨k,sh,b,st,ax,am,pe,p++s⟩,bs,(p.length:Int))=some o∧(o=.inr ()→nodesFs bs s)
 | [],p,k,sh,b,st,ax,am,pe,h1,h2=>by
  rw [ZC]; simp only [Ya,if_false]
  exact ⟨_,rfl,fun _=>trivial⟩
 | x::s,p,k,sh,b,st,ax,am,pe,h1,h2=>by
  rw [ZC]
  rw [smCs] at h1
  obtain ⟨v,e,hv⟩:=nodes_ok bs x h1.1
  obtain ⟨o,e',ho⟩:=nodes_loop bs s (p++[x]) k sh b st ax am pe h1.2 (by simp at h2 ⊢; omega)
  rw [← QM] at e'
  simp only [Zm,if_true,QS,Qj,e,QfI h2,e']
  cases v with
  | false=>exact ⟨.inl (),rfl,fun h=>by cases h⟩
  | true=>exact ⟨o,rfl,fun h=>by rw [nodesFs]; exact ⟨hv rfl,ho h⟩⟩
end
mutual
theorem depth_ok:∀ (c:Qa),smC c→∃ d,XH c=some d
 | ⟨k,sh,b,st,ax,am,pe,ks⟩,h=>by
  have hf:=smC_f h
  rw [XH]
  obtain ⟨o,e2⟩:=depth_loop ks [] 0 k sh b st ax am pe hf.2.2.2.2 (by have:=hf.2.2.2.1; simpa using this)
  simp only [List.nil_append,List.length_nil,Int.natCast_zero] at e2
  simp only [e2,Qj]; exact ⟨_,rfl⟩
theorem depth_loop:∀ (s p:List Qa) (d k:Int) (sh:List Int) (b:Int) (st:List Int) (ax am:Int) (pe:List Int),smCs s→p.length+s.length≤600 →
  ∃ o,ZG (⟨k,sh,b,st,ax,am,pe,p++s⟩,d,(p.length:Int))=some o
 | [],p,d,k,sh,b,st,ax,am,pe,h1,h2=>by
  rw [ZG]; simp only [Ya,if_false]
  exact ⟨_,rfl⟩
 | x::s,p,d,k,sh,b,st,ax,am,pe,h1,h2=>by
  rw [ZG]
  rw [smCs] at h1
  obtain ⟨v,e⟩:=depth_ok x h1.1
  obtain ⟨o,e'⟩:=depth_loop s (p++[x]) (if d < v then v else d) k sh b st ax am pe h1.2 (by simp at h2 ⊢; omega)
  rw [← QM] at e'
  simp only [Zm,if_true,QS,Qj,e,QfI h2,e']
  exact ⟨_,rfl⟩
end
/-- the product of the dimensions, where none counts less than one -/
def pmI:List Int→Int
 | []=>1
 | n::s=>(if n < 1 then 1 else n) * pmI s
theorem small_L1 (most:Int) (hm:0≤most∧most≤1000000):∀ (s p:List Int) (v:Int),p.length+s.length≤600→(∀ n∈s,n≤65536)→1≤v→v≤100000000→∃ o,ZY (p++s,most,v,(p.length:Int))=some o∧(o=.inr ()→s=[]∨v * pmI s≤100 * most)
 | [],p,v,h,hd,h1,h2=>by
  refine ⟨.inr (),?_,fun _=>Or.inl rfl⟩; rw [ZY]; simp only [Ya,if_false]
 | x::s,p,v,h,hd,h1,h2=>by
  rw [ZY]
  have w1:W (100 * most)=100 * most:=W_ok (by omega) (by omega)
  have hx:=hd x (List.mem_cons_self ..)
  have hx2:1≤(if x < 1 then 1 else x)∧(if x < 1 then 1 else x)≤65536:=by split <;> omega
  have b1:=Int.mul_le_mul h2 hx2.2 (by omega) (by omega)
  have b2:=Int.mul_le_mul h1 hx2.1 (by omega) (by omega)
  have w2:W (v * (if x < 1 then 1 else x))=v * (if x < 1 then 1 else x):=W_ok (by omega) (by omega)
  simp only [Zm,if_true,QS,Qj,QfI h,w1,w2]
  by_cases hg:v * (if x < 1 then 1 else x) > 100 * most
  ·exact ⟨_,if_pos hg,fun h=>by cases h⟩
  ·obtain ⟨o,e,ho⟩:=small_L1 most hm s (p++[x]) (v * (if x < 1 then 1 else x)) (by simp at h ⊢; omega) (fun n hn=>hd n (List.mem_cons_of_mem _ hn)) (by omega) (by omega)
   rw [← QM] at e
   rw [if_neg hg]
   refine ⟨o,e,fun h=>Or.inr ?_⟩
   rw [pmI,← Int.mul_assoc]
   rcases ho h with rfl|h
   ·rw [pmI,Int.mul_one]; omega
   ·exact h
/-- a small shape -/
def smallS (m:Int) (l:List Int):Prop:=l.length≤6∧checkR l=0∧prodI l≤m∧(l=[]∨pmI l≤100 * m)
theorem small_ok (l:List Int) (most:Int) (hm:0≤most∧most≤1000000) (h:l.length≤40):∃ b,Jn (l,most)=some b∧(b=true→smallS most l):=by
 have hS:Sm l.length:=Sm_of (show l.length≤1000 by omega)
 simp only [Jn,Check_ok _ hS,Cells_ok _ hS,Qj,ite_some]
 by_cases g1:(l.length:Int) > 6
 ·exact ⟨false,by simp [g1],fun h=>by cases h⟩
 by_cases g2:checkR l=0
 ·have hc:cellsR l=prodI l:=by rw [cellsR,if_pos g2]
  by_cases g3:cellsR l > most
  ·exact ⟨false,by simp [g1,g2,g3],fun h=>by cases h⟩
  ·obtain ⟨o,e,ho⟩:=small_L1 most hm l [] 1 (by simp; omega) (fun n hn=>((checkR_ok g2).2.2 n hn).2) (by omega) (by omega)
   have e':ZY (l,most,1,0)=some o:=e
   simp only [g1,g2,g3,e',if_false,bne_self_eq_false,Bool.false_eq_true,decide_false,Qj]
   cases o with
   | inl _=>exact ⟨_,rfl,fun h=>by cases h⟩
   | inr _=>exact ⟨_,rfl,fun _=>⟨by omega,g2,by omega,by rcases ho rfl with h|h; exact Or.inl h; exact Or.inr (by omega)⟩⟩
 ·exact ⟨false,by simp [g1,g2],fun h=>by cases h⟩
mutual
def cellsF (m:Int):Qa→Prop
 | ⟨k,sh,b,st,ax,am,pe,ks⟩=>smallS m sh∧cellsFs m ks
def cellsFs (m:Int):List Qa→Prop
 | []=>True
 | k::ks=>cellsF m k∧cellsFs m ks
end
theorem cellsFs_mem {m:Int}:∀ {l:List Qa},cellsFs m l→∀ k∈l,cellsF m k
 | x::l,h,k,hk=>by
  rw [cellsFs] at h
  rcases List.mem_cons.1 hk with rfl|hk
  ·exact h.1
  ·exact cellsFs_mem h.2 k hk
 | [],_,_,hk=>by cases hk
theorem cellsF_f {m:Int} {c:Qa} (h:cellsF m c):smallS m c.shape∧∀ k∈c.kids,cellsF m k:=by
 cases c; rw [cellsF] at h; exact ⟨h.1,cellsFs_mem h.2⟩
mutual
theorem cells_ok (m:Int) (hm:0≤m∧m≤1000000):∀ (c:Qa),smC c→∃ d,XG (c,m)=some d∧(d=true→cellsF m c)
 | ⟨k,sh,b,st,ax,am,pe,ks⟩,h=>by
  have hf:=smC_f h
  rw [XG]
  obtain ⟨v,e,hv⟩:=small_ok sh m hm hf.1
  obtain ⟨o,e2,ho⟩:=cells_loop m hm ks [] k sh b st ax am pe hf.2.2.2.2 (by have:=hf.2.2.2.1; simpa using this)
  simp only [List.nil_append,List.length_nil,Int.natCast_zero] at e2
  simp only [e,e2,Qj]
  cases v
  ·exact ⟨_,rfl,fun h=>by cases h⟩
  ·cases o
   ·exact ⟨_,rfl,fun h=>by cases h⟩
   ·exact ⟨_,rfl,fun _=>by rw [cellsF]; exact ⟨hv rfl,ho rfl⟩⟩
theorem cells_loop (m:Int) (hm:0≤m∧m≤1000000):∀ (s p:List Qa) (k:Int) (sh:List Int) (b:Int) (st:List Int) (ax am:Int) (pe:List Int),smCs s→p.length+s.length≤600 →
  ∃ o,ZD (⟨k,sh,b,st,ax,am,pe,p++s⟩,m,(p.length:Int))=some o∧(o=.inr ()→cellsFs m s)
 | [],p,k,sh,b,st,ax,am,pe,h1,h2=>by
  rw [ZD]; simp only [Ya,if_false]
  exact ⟨_,rfl,fun _=>trivial⟩
 | x::s,p,k,sh,b,st,ax,am,pe,h1,h2=>by
  rw [ZD]
  rw [smCs] at h1
  obtain ⟨v,e,hv⟩:=cells_ok m hm x h1.1
  obtain ⟨o,e',ho⟩:=cells_loop m hm s (p++[x]) k sh b st ax am pe h1.2 (by simp at h2 ⊢; omega)
  rw [← QM] at e'
  simp only [Zm,if_true,QS,Qj,e,QfI h2,e']
  cases v
  ·exact ⟨_,rfl,fun h=>by cases h⟩
  ·exact ⟨o,rfl,fun h=>by rw [cellsFs]; exact ⟨hv rfl,ho h⟩⟩
end
theorem Small_ok (c:Qa) (bs:List (List Int)) (m:Int) (hm:0≤m∧m≤1000000):∃ b,J5 (c,bs,m)=some b∧(b=true→smC c∧nodesF bs c∧cellsF m c∧(szC c:Int)≤60∧bs.length≤20):=by
 simp only [J5]
 have eta:(⟨c.kind,c.shape,c.buffer,c.starts,c.axis,c.amount,c.perm,c.kids⟩:Qa)=c:=by cases c; rfl
 try rw [eta]
 by_cases h1:(bs.length:Int)≤20
 ·obtain ⟨b,e,hb⟩:=Few_ok c 60 (by omega) (by omega)
  simp only [h1,if_true,e,Qj]
  cases b with
  | false=>exact ⟨false,by simp [Qj],fun h=>by cases h⟩
  | true =>
   obtain ⟨hs,hz⟩:=hb rfl
   obtain ⟨d,e2⟩:=depth_ok c hs
   obtain ⟨v,e3,hv⟩:=nodes_ok bs c hs
   obtain ⟨x,e4,hx⟩:=cells_ok m hm c hs
   simp only [if_true,Qbg,e2,Qj]
   by_cases hd:d≤300
   ·simp only [hd,if_true,e3,Qj]
    cases v with
    | false=>exact ⟨false,by simp [Qj],fun h=>by cases h⟩
    | true =>
     simp only [if_true,e4,Qj]
     exact ⟨x,rfl,fun h=>⟨hs,hv rfl,hx h,hz,by omega⟩⟩
   ·simp only [hd,if_false,Qj,Bool.false_eq_true]
    exact ⟨false,rfl,fun h=>by cases h⟩
 ·exact ⟨false,by simp [h1,Qj],fun h=>by cases h⟩
theorem conv_shape:∀ k:Qa,(conv k).shape=k.shape
 | ⟨_,_,_,_,_,_,_,_⟩=>rfl
theorem clone_ok {l:List Int} (h:l.length≤1000):Q2 l=some l:=by
 have:app 8 ([]:List Int) l=some ([]++l):=app_ok (by
  have:(1000:Nat) * 8≤room:=by decide +kernel
  simp; omega)
 rw [Q2,this]; rfl
theorem app0_ok {l:List Int} (h:l.length≤1000):app 8 ([]:List Int) l=some l:=clone_ok h
theorem guard_bind {p:Prop} [Decidable p] {β:Type} {f:Unit→Option β} {r:Option β} (h:p) (h2:f ()=r):(Zo p>>=f)=r:=by rw [Zo,if_pos h]; exact h2
/-- the shape of the first operand -/
def kidS (c:Qa):List Int:=match c.kids with|[]=>[]|k::_=>k.shape
/-- a step from a cell of an expression that is no buffer -/
def stepV (c:Qa) (i:List Int):Int × List Int × Bool :=
 if c.kind=2 then (0,if vld (kidS c) (addW i c.starts)=true then addW i c.starts else [],vld (kidS c) (addW i c.starts))
 else if c.kind=3 then (0,i.set c.axis.toNat ((kidS c).getD c.axis.toNat 0 - 1 - i.getD c.axis.toNat 0),true)
 else if c.kind=4 then (0,i.set c.axis.toNat ((i.getD c.axis.toNat 0+c.amount) % (kidS c).getD c.axis.toNat 0),true)
 else if c.kind=5 then (0,pick i c.perm,true)
 else if c.kind=6 then (if prodI (kidS c)=0 then (0,[],false) else (0,dig (kidS c) (dotp c.shape i % prodI (kidS c)),true))
 else if i.getD c.axis.toNat 0 < (kidS c).getD c.axis.toNat 0 then (0,i,true) else (1,i.set c.axis.toNat (i.getD c.axis.toNat 0 - (kidS c).getD c.axis.toNat 0),true)
def stepF (c:Qa) (i:List Int):Int × List Int × Bool:=if c.kind=1 then (0,[],false) else if vld c.shape i=true then stepV c i else (0,[],false)
theorem stepF_v {c:Qa} {i:List Int} (h1:c.kind≠1) (hv:vld c.shape i=true):stepF c i=stepV c i:=by rw [stepF,if_neg h1,if_pos hv]
theorem stepV2 {c:Qa} {i:List Int} (h:c.kind=2):stepV c i=(0,if vld (kidS c) (addW i c.starts)=true then addW i c.starts else [],vld (kidS c) (addW i c.starts)):=if_pos h
theorem stepV3 {c:Qa} {i:List Int} (h:c.kind=3):stepV c i=(0,i.set c.axis.toNat ((kidS c).getD c.axis.toNat 0 - 1 - i.getD c.axis.toNat 0),true):=by
 rw [stepV,if_neg (by omega),if_pos h]
theorem stepV4 {c:Qa} {i:List Int} (h:c.kind=4):stepV c i=(0,i.set c.axis.toNat ((i.getD c.axis.toNat 0+c.amount) % (kidS c).getD c.axis.toNat 0),true):=by
 rw [stepV,if_neg (by omega),if_neg (by omega),if_pos h]
theorem stepV5 {c:Qa} {i:List Int} (h:c.kind=5):stepV c i=(0,pick i c.perm,true):=by
 rw [stepV,if_neg (by omega),if_neg (by omega),if_neg (by omega),if_pos h]
theorem stepV6 {c:Qa} {i:List Int} (h:c.kind=6):stepV c i=if prodI (kidS c)=0 then (0,[],false) else (0,dig (kidS c) (dotp c.shape i % prodI (kidS c)),true):=by
 rw [stepV,if_neg (by omega),if_neg (by omega),if_neg (by omega),if_neg (by omega),if_pos h]
theorem stepV7 {c:Qa} {i:List Int} (h:c.kind=7):stepV c i=if i.getD c.axis.toNat 0 < (kidS c).getD c.axis.toNat 0 then (0,i,true) else (1,i.set c.axis.toNat (i.getD c.axis.toNat 0 - (kidS c).getD c.axis.toNat 0),true):=by
 rw [stepV,if_neg (by omega),if_neg (by omega),if_neg (by omega),if_neg (by omega),if_neg (by omega)]
def stepP (c:Qa) (i:List Int):Prop:=∃ k l ok,stepF c i=(k,l,ok)∧Z6 (conv c,i)=some (k,l,ok)∧ZA (c,i)=some (k,l,ok)∧l.length≤1000 ∧
 (ok=true→∃ kid,idx c.kids k=some kid∧vld kid.shape l=true∧kid.shape.length≤40)
section
variable {sh:List Int} {bu:Int} {st:List Int} {ax am:Int} {pe:List Int} {ks:List Qa} {i:List Int}
theorem set_len {l:List Int} {j:Nat} {v:Int}:(l.set j v).length=l.length:=by simp
theorem step2 (h:smC ⟨2,sh,bu,st,ax,am,pe,ks⟩) (hn:nodeF ⟨2,sh,bu,st,ax,am,pe,ks⟩) (hi:i.length≤40) (hv:vld sh i=true):stepP ⟨2,sh,bu,st,ax,am,pe,ks⟩ i:=by
 obtain ⟨f1,f2,f3,f4,f5⟩:=smC_f h
 simp only at f1 f2 f3 f4 f5
 obtain ⟨kid,hk⟩:=kids_one (c:=⟨2,sh,bu,st,ax,am,pe,ks⟩) (by rw [hn.kids]; simp)
 simp only at hk
 subst hk
 obtain ⟨n1,n2,n3⟩:=hn.win rfl
 have n3:kid.shape.length=sh.length:=n3 kid [] rfl
 have n1:st.length=sh.length:=n1
 have hl:=vld_len hv
 have e1:=rWin_L1 i i kid 2 sh bu ax am pe [kid] st i [] [] (by omega) rfl rfl (Sm_of (show ([]++st).length≤1000 by simp; omega))
 have e2:=gWin_L1 i 2 sh bu ax am pe [conv kid] st i [] [] (by omega) rfl rfl (Sm_of (show ([]++st).length≤1000 by simp; omega))
 simp only [List.nil_append,List.length_nil,Int.natCast_zero] at e1 e2
 have al:(addW i st).length=i.length:=addW_len (by omega)
 have v1:=gValid_ok kid.shape (addW i st) (Sm_of (show (addW i st).length≤1000 by omega))
 have v2:=rValid_ok kid.shape (addW i st) (Sm_of (show kid.shape.length≤1000 by omega))
 have b1:=gValid_ok sh i (Sm_of (show i.length≤1000 by omega))
 have b2:=rValid_ok sh i (Sm_of (show sh.length≤1000 by omega))
 have i1:idx [conv kid] 0=some (conv kid):=rfl
 have i2:idx [kid] 0=some kid:=rfl
 have g8:∀ inst:Decidable (0≤(2:Int)∧(2:Int) < 8),@Zo (0≤(2:Int)∧(2:Int) < 8) inst=some ():=fun inst=>@guardM_ok _ inst ⟨by omega,by omega⟩
 have gl:Zo ((addW i st).length=i.length)=some ():=guardM_ok al
 refine ⟨0,if vld kid.shape (addW i st)=true then addW i st else [],vld kid.shape (addW i st),(stepF_v (show (2:Int)≠1 by decide) hv).trans (stepV2 rfl),?_,?_,?_,fun hok=>⟨kid,rfl,?_,by omega⟩⟩
 ·simp only [conv,convs,Z6,b1,hv,Qj,Bool.true_eq_false,if_false,g8,show ¬ ((2:Int)=0) by decide,show ¬ ((2:Int)=1) by decide,if_true,clone_ok (show i.length≤1000 by omega),YY,e2,i1,gl,conv_shape,v1]
  refine guard_bind ⟨by show (0:Int)≤2; omega,by show (2:Int) < 8; omega⟩ ?_
  cases vld kid.shape (addW i st)
  ·rfl
  ·simp only [if_true,Bool.true_eq_false,if_false,Qj,gl]
 ·simp only [ZA,b2,hv,Qj,Bool.not_true,Bool.false_eq_true,if_false,show ¬ ((2:Int)=1) by decide,if_true,app0_ok (show i.length≤1000 by omega),e1,i2,gl,v2]
  cases vld kid.shape (addW i st)
  ·rfl
  ·simp only [if_true,Bool.true_eq_false,if_false,Qj,gl]
 ·split
  ·omega
  ·simp
 ·rw [hok,if_pos rfl]; exact hok
theorem getD_set {l:List Int} {j k:Nat} {v:Int} (hj:j < l.length):(l.set j v).getD k 0=if k=j then v else l.getD k 0:=by
 by_cases h:k=j
 ·subst h; simp [hj]
 ·simp [h,List.getElem?_set,Ne.symm h]
theorem step3 (h:smC ⟨3,sh,bu,st,ax,am,pe,ks⟩) (hn:nodeF ⟨3,sh,bu,st,ax,am,pe,ks⟩) (hi:i.length≤40) (hv:vld sh i=true):stepP ⟨3,sh,bu,st,ax,am,pe,ks⟩ i:=by
 obtain ⟨f1,f2,f3,f4,f5⟩:=smC_f h
 simp only at f1 f2 f3 f4 f5
 obtain ⟨kid,hk⟩:=kids_one (c:=⟨3,sh,bu,st,ax,am,pe,ks⟩) (by rw [hn.kids]; simp)
 simp only at hk
 subst hk
 obtain ⟨n1,n2,n3⟩:=hn.rev (Or.inl rfl) kid [] rfl
 have n1:kid.shape=sh:=n1
 have n2:0≤ax:=n2
 have n3:ax < (sh.length:Int):=n3
 have hl:=vld_len hv
 obtain ⟨c1,c2,c3⟩:=checkR_ok hn.chk
 simp only at c1 c2 c3
 obtain ⟨j,rfl⟩:=Int.eq_ofNat_of_zero_le n2
 have hj:j < sh.length:=by omega
 have g:=vld_get hv j hj
 have d:sh.getD j 0≤65536:=by
  rw [List.getD_eq_getElem?_getD,List.getElem?_eq_getElem hj]
  exact (c3 _ (List.getElem_mem _)).2
 have i1:idx sh (j:Int)=some (sh.getD j 0):=by rw [idx_getD n2 n3]; simp
 have i2:idx i (j:Int)=some (i.getD j 0):=by rw [idx_getD (l:=i) n2 (by omega)]; simp
 have w:W (W (sh.getD j 0 - 1) - i.getD j 0)=sh.getD j 0 - 1 - i.getD j 0:=by
  rw [show W (sh.getD j 0 - 1)=sh.getD j 0 - 1 from W_ok (by omega) (by omega),W_ok (by omega) (by omega)]
 have b1:=gValid_ok sh i (Sm_of (show i.length≤1000 by omega))
 have b2:=rValid_ok sh i (Sm_of (show sh.length≤1000 by omega))
 have hs:setM i (j:Int) (sh.getD j 0 - 1 - i.getD j 0)=some (i.set j (sh.getD j 0 - 1 - i.getD j 0)):=setM_ok (by omega)
 have k2:idx [kid] 0=some kid:=rfl
 have g8:∀ inst:Decidable (0≤(3:Int)∧(3:Int) < 8),@Zo (0≤(3:Int)∧(3:Int) < 8) inst=some ():=fun inst=>@guardM_ok _ inst ⟨by omega,by omega⟩
 have gl:Zo ((i.set j (sh.getD j 0 - 1 - i.getD j 0)).length=i.length)=some ():=guardM_ok set_len
 refine ⟨0,i.set j (sh.getD j 0 - 1 - i.getD j 0),true,(stepF_v (show (3:Int)≠1 by decide) hv).trans ((stepV3 rfl).trans (by show (0,i.set j (kid.shape.getD j 0 - 1 - i.getD j 0),true)=_; rw [n1])),?_,?_,by rw [set_len]; omega,fun _=>⟨kid,rfl,?_,by rw [n1]; omega⟩⟩
 ·simp only [conv,convs,Z6,b1,hv,Qj,Bool.true_eq_false,if_false,g8,show ¬ ((3:Int)=0) by decide,show ¬ ((3:Int)=1) by decide,show ¬ ((3:Int)=2) by decide,if_true,clone_ok (show i.length≤1000 by omega),YK,i1,i2,w,hs,gl]
  exact guard_bind ⟨by show (0:Int)≤3; omega,by show (3:Int) < 8; omega⟩ rfl
 ·simp only [ZA,b2,hv,Qj,Bool.not_true,Bool.false_eq_true,if_false,show ¬ ((3:Int)=1) by decide,show ¬ ((3:Int)=2) by decide,if_true,app0_ok (show i.length≤1000 by omega),k2,n1,i1,i2,w,hs,gl]
 ·rw [n1]
  refine vld_of (by rw [set_len]; omega) fun k hk=>?_
  rw [getD_set (l:=i) (j:=j) (hl ▸ hj)]
  by_cases hkj:k=j
  ·rw [if_pos hkj,hkj]; obtain ⟨ga,gb⟩:=g; show 0≤sh.getD j 0 - 1 - i.getD j 0∧sh.getD j 0 - 1 - i.getD j 0 < sh.getD j 0; exact ⟨by omega,by omega⟩
  ·rw [if_neg hkj]; exact vld_get hv k hk
end
section
variable {sh:List Int} {bu:Int} {st:List Int} {ax am:Int} {pe:List Int} {ks:List Qa} {i:List Int}
theorem Mod_ok {a b:Int} (ha:0≤a) (hb:1≤b):Qas (a,b)=some (a % b):=by
 have h:=Int.emod_nonneg a (show b≠0 by omega)
 simp only [Qas,show ¬ b≤0 by omega,if_false,remM_ok ha hb,Qj,show ¬ a % b < 0 by omega]
theorem step4 (h:smC ⟨4,sh,bu,st,ax,am,pe,ks⟩) (hn:nodeF ⟨4,sh,bu,st,ax,am,pe,ks⟩) (hi:i.length≤40) (hv:vld sh i=true):stepP ⟨4,sh,bu,st,ax,am,pe,ks⟩ i:=by
 obtain ⟨f1,f2,f3,f4,f5⟩:=smC_f h
 simp only at f1 f2 f3 f4 f5
 obtain ⟨kid,hk⟩:=kids_one (c:=⟨4,sh,bu,st,ax,am,pe,ks⟩) (by rw [hn.kids]; simp)
 simp only at hk
 subst hk
 obtain ⟨n1,n2,n3⟩:=hn.rev (Or.inr rfl) kid [] rfl
 obtain ⟨m1,m2⟩:=hn.rot rfl
 have n1:kid.shape=sh:=n1
 have n2:0≤ax:=n2
 have n3:ax < (sh.length:Int):=n3
 have m1:0≤am:=m1
 have m2:am=0∨am < sh.getD ax.toNat 0:=m2
 have hl:=vld_len hv
 obtain ⟨c1,c2,c3⟩:=checkR_ok hn.chk
 simp only at c1 c2 c3
 obtain ⟨j,rfl⟩:=Int.eq_ofNat_of_zero_le n2
 have hj:j < sh.length:=by omega
 have g:=vld_get hv j hj
 have m2:am=0∨am < sh.getD j 0:=by simpa using m2
 have d:sh.getD j 0≤65536:=by
  rw [List.getD_eq_getElem?_getD,List.getElem?_eq_getElem hj]
  exact (c3 _ (List.getElem_mem _)).2
 have i1:idx sh (j:Int)=some (sh.getD j 0):=by rw [idx_getD n2 n3]; simp
 have i2:idx i (j:Int)=some (i.getD j 0):=by rw [idx_getD (l:=i) n2 (by omega)]; simp
 have w:W (i.getD j 0+am)=i.getD j 0+am:=W_ok (by omega) (by omega)
 have b1:=gValid_ok sh i (Sm_of (show i.length≤1000 by omega))
 have b2:=rValid_ok sh i (Sm_of (show sh.length≤1000 by omega))
 have hM:=Mod_ok (a:=i.getD j 0+am) (b:=sh.getD j 0) (by omega) (by omega)
 have hR:=remM_ok (a:=i.getD j 0+am) (b:=sh.getD j 0) (by omega) (by omega)
 have r1:=Int.emod_nonneg (i.getD j 0+am) (show sh.getD j 0≠0 by omega)
 have r2:=Int.emod_lt_of_pos (i.getD j 0+am) (show 0 < sh.getD j 0 by omega)
 have hs:setM i (j:Int) ((i.getD j 0+am) % sh.getD j 0)=some (i.set j ((i.getD j 0+am) % sh.getD j 0)):=setM_ok (by omega)
 have k2:idx [kid] 0=some kid:=rfl
 have gl:Zo ((i.set j ((i.getD j 0+am) % sh.getD j 0)).length=i.length)=some ():=guardM_ok set_len
 refine ⟨0,i.set j ((i.getD j 0+am) % sh.getD j 0),true,(stepF_v (show (4:Int)≠1 by decide) hv).trans ((stepV4 rfl).trans (by show (0,i.set j ((i.getD j 0+am) % kid.shape.getD j 0),true)=_; rw [n1])),?_,?_,by rw [set_len]; omega,fun _=>⟨kid,rfl,?_,by rw [n1]; omega⟩⟩
 ·simp only [conv,convs,Z6,b1,hv,Qj,Bool.true_eq_false,if_false,show ¬ ((4:Int)=0) by decide,show ¬ ((4:Int)=1) by decide,show ¬ ((4:Int)=2) by decide,show ¬ ((4:Int)=3) by decide,if_true,clone_ok (show i.length≤1000 by omega),YW,i1,i2,w,hM,hs,gl]
  exact guard_bind ⟨by show (0:Int)≤4; omega,by show (4:Int) < 8; omega⟩ rfl
 ·simp only [ZA,b2,hv,Qj,Bool.not_true,Bool.false_eq_true,if_false,show ¬ ((4:Int)=1) by decide,show ¬ ((4:Int)=2) by decide,show ¬ ((4:Int)=3) by decide,if_true,app0_ok (show i.length≤1000 by omega),k2,n1,i1,i2,w,hR,hs,gl]
 ·rw [n1]
  refine vld_of (by rw [set_len]; omega) fun k hk=>?_
  rw [getD_set (l:=i) (j:=j) (hl ▸ hj)]
  by_cases hkj:k=j
  ·rw [if_pos hkj,hkj]; exact ⟨r1,r2⟩
  ·rw [if_neg hkj]; exact vld_get hv k hk
theorem pick_len {l p:List Int}:(pick l p).length=p.length:=by simp [pick]
theorem pick_get {l p:List Int} {k:Nat} (h:k < p.length):(pick l p).getD k 0=l.getD (p.getD k 0).toNat 0:=by simp [pick,h]
theorem step5 (h:smC ⟨5,sh,bu,st,ax,am,pe,ks⟩) (hn:nodeF ⟨5,sh,bu,st,ax,am,pe,ks⟩) (hks:∀ k∈ks,nodeF k) (hi:i.length≤40) (hv:vld sh i=true):stepP ⟨5,sh,bu,st,ax,am,pe,ks⟩ i:=by
 obtain ⟨f1,f2,f3,f4,f5⟩:=smC_f h
 simp only at f1 f2 f3 f4 f5
 obtain ⟨kid,hk⟩:=kids_one (c:=⟨5,sh,bu,st,ax,am,pe,ks⟩) (by rw [hn.kids]; simp)
 simp only at hk
 subst hk
 obtain ⟨n1,n2⟩:=hn.tra rfl kid [] rfl
 have n1:pe.length=kid.shape.length:=n1
 obtain ⟨c1,c2,c3⟩:=checkR_ok (hks kid (by simp)).chk
 have n2:∀ j,j < kid.shape.length→0≤pe.getD j 0∧pe.getD j 0 < (sh.length:Int)∧sh.getD (pe.getD j 0).toNat 0≤kid.shape.getD j 0:=n2 fun n hm=>(c3 n hm).1
 have hl:=vld_len hv
 have hp:∀ x∈pe,0≤x∧x < (i.length:Int):=fun x hx=>by
  obtain ⟨k,hk,e⟩:=List.getElem_of_mem hx
  have:=n2 k (by omega)
  rw [List.getD_eq_getElem?_getD,List.getElem?_eq_getElem hk] at this
  simp only [Option.getD_some,e] at this
  exact ⟨this.1,by omega⟩
 have e1:=rTr_L2 kid ⟨5,sh,bu,st,ax,am,pe,[kid]⟩ i i hp kid.shape pe [] [] [] rfl rfl n1.symm rfl (by simp; omega) rfl
 have e2:=gTr_L1 i 5 sh bu st ax am [conv kid] pe [] [] hp (by simp; omega) rfl
 simp only [List.nil_append,List.length_nil,Int.natCast_zero] at e1 e2
 have b1:=gValid_ok sh i (Sm_of (show i.length≤1000 by omega))
 have b2:=rValid_ok sh i (Sm_of (show sh.length≤1000 by omega))
 have k2:idx [kid] 0=some kid:=rfl
 refine ⟨0,pick i pe,true,(stepF_v (show (5:Int)≠1 by decide) hv).trans (stepV5 rfl),?_,?_,by rw [pick_len]; omega,fun _=>⟨kid,rfl,?_,by omega⟩⟩
 ·simp only [conv,convs,Z6,b1,hv,Qj,Bool.true_eq_false,if_false,show ¬ ((5:Int)=0) by decide,show ¬ ((5:Int)=1) by decide,show ¬ ((5:Int)=2) by decide,show ¬ ((5:Int)=3) by decide,show ¬ ((5:Int)=4) by decide,if_true,clone_ok (show i.length≤1000 by omega),Yw,e2]
  exact guard_bind ⟨by show (0:Int)≤5; omega,by show (5:Int) < 8; omega⟩ rfl
 ·simp only [ZA,b2,hv,Qj,Bool.not_true,Bool.false_eq_true,if_false,show ¬ ((5:Int)=1) by decide,show ¬ ((5:Int)=2) by decide,show ¬ ((5:Int)=3) by decide,show ¬ ((5:Int)=4) by decide,if_true,app0_ok (show i.length≤1000 by omega),k2,e1]
 ·refine vld_of (by rw [pick_len]; omega) fun k hk=>?_
  rw [pick_get (by omega)]
  have a:=n2 k hk
  have b:=vld_get hv (pe.getD k 0).toNat (by omega)
  exact ⟨b.1,by omega⟩
end
theorem getD_le {l:List Int} {k:Nat} (h:∀ n∈l,0≤n∧n≤65536) (hk:k < l.length):0≤l.getD k 0∧l.getD k 0≤65536:=by
 rw [List.getD_eq_getElem?_getD,List.getElem?_eq_getElem hk]
 exact h _ (List.getElem_mem _)
section
variable {sh:List Int} {bu:Int} {st:List Int} {ax am:Int} {pe:List Int} {ks:List Qa} {i:List Int}
theorem step7 (h:smC ⟨7,sh,bu,st,ax,am,pe,ks⟩) (hn:nodeF ⟨7,sh,bu,st,ax,am,pe,ks⟩) (hks:∀ k∈ks,nodeF k) (hi:i.length≤40) (hv:vld sh i=true):stepP ⟨7,sh,bu,st,ax,am,pe,ks⟩ i:=by
 obtain ⟨f1,f2,f3,f4,f5⟩:=smC_f h
 simp only at f1 f2 f3 f4 f5
 obtain ⟨a,b,hk⟩:=kids_two (c:=⟨7,sh,bu,st,ax,am,pe,ks⟩) (by rw [hn.kids]; simp)
 simp only at hk
 subst hk
 obtain ⟨n1,n2,n3,n4,n5⟩:=hn.cat rfl a b [] rfl
 have n2:a.shape.length=sh.length:=n2
 have n3:0≤ax:=n3
 have n4:ax < (a.shape.length:Int):=n4
 have n5:∀ j,j < a.shape.length→catA ax sh a.shape b.shape j:=n5
 obtain ⟨c1,c2,c3⟩:=checkR_ok (hks a (by simp)).chk
 obtain ⟨d1,d2,d3⟩:=checkR_ok (hks b (by simp)).chk
 have hl:=vld_len hv
 obtain ⟨j,rfl⟩:=Int.eq_ofNat_of_zero_le n3
 have hj:j < a.shape.length:=by omega
 have g:=vld_get hv j (by omega)
 have ga:=getD_le c3 hj
 have gb:=getD_le d3 (show j < b.shape.length by omega)
 have gs:sh.getD j 0=a.shape.getD j 0+b.shape.getD j 0:=by rw [(n5 j hj).1 rfl,W_ok (by omega) (by omega)]
 have i1:idx a.shape (j:Int)=some (a.shape.getD j 0):=by rw [idx_getD (l:=a.shape) n3 n4]; simp
 have i2:idx i (j:Int)=some (i.getD j 0):=by rw [idx_getD (l:=i) n3 (by omega)]; simp
 have b1:=gValid_ok sh i (Sm_of (show i.length≤1000 by omega))
 have b2:=rValid_ok sh i (Sm_of (show sh.length≤1000 by omega))
 have k1:idx [conv a,conv b] 0=some (conv a):=rfl
 have k2:idx [a,b] 0=some a:=rfl
 by_cases hlt:i.getD j 0 < a.shape.getD j 0
 ·have gl:Zo (i.length=i.length)=some ():=guardM_ok rfl
  refine ⟨0,i,true,(stepF_v (show (7:Int)≠1 by decide) hv).trans ((stepV7 rfl).trans (if_pos hlt)),?_,?_,by omega,fun _=>⟨a,rfl,?_,by omega⟩⟩
  ·simp only [conv,convs,Z6,b1,hv,Qj,Bool.true_eq_false,if_false,show ¬ ((7:Int)=0) by decide,show ¬ ((7:Int)=1) by decide,show ¬ ((7:Int)=2) by decide,show ¬ ((7:Int)=3) by decide,show ¬ ((7:Int)=4) by decide,show ¬ ((7:Int)=5) by decide,show ¬ ((7:Int)=6) by decide,if_true,clone_ok (show i.length≤1000 by omega),Z3,k1,conv_shape,i1,i2,hlt]
   exact guard_bind ⟨by show (0:Int)≤7; omega,by show (7:Int) < 8; omega⟩ (guard_bind trivial rfl)
  ·simp only [ZA,b2,hv,Qj,Bool.not_true,Bool.false_eq_true,if_false,show ¬ ((7:Int)=1) by decide,show ¬ ((7:Int)=2) by decide,show ¬ ((7:Int)=3) by decide,show ¬ ((7:Int)=4) by decide,show ¬ ((7:Int)=5) by decide,show ¬ ((7:Int)=6) by decide,if_true,app0_ok (show i.length≤1000 by omega),k2,i1,i2,show ¬ (i.getD j 0≥a.shape.getD j 0) by omega]
  ·refine vld_of (by omega) fun k hk=>?_
   have v:=vld_get hv k (by omega)
   by_cases hkj:k=j
   ·subst hkj; exact ⟨v.1,hlt⟩
   ·have e:=((n5 k hk).2 (by omega)).2
    exact ⟨v.1,by omega⟩
 ·have w:W (i.getD j 0 - a.shape.getD j 0)=i.getD j 0 - a.shape.getD j 0:=W_ok (by omega) (by omega)
  have hs:setM i (j:Int) (i.getD j 0 - a.shape.getD j 0)=some (i.set j (i.getD j 0 - a.shape.getD j 0)):=setM_ok (by omega)
  refine ⟨1,i.set j (i.getD j 0 - a.shape.getD j 0),true,(stepF_v (show (7:Int)≠1 by decide) hv).trans ((stepV7 rfl).trans (if_neg hlt)),?_,?_,by rw [set_len]; omega,fun _=>⟨b,rfl,?_,by omega⟩⟩
  ·simp only [conv,convs,Z6,b1,hv,Qj,Bool.true_eq_false,if_false,show ¬ ((7:Int)=0) by decide,show ¬ ((7:Int)=1) by decide,show ¬ ((7:Int)=2) by decide,show ¬ ((7:Int)=3) by decide,show ¬ ((7:Int)=4) by decide,show ¬ ((7:Int)=5) by decide,show ¬ ((7:Int)=6) by decide,if_true,clone_ok (show i.length≤1000 by omega),Z3,k1,conv_shape,i1,i2,hlt,w,hs]
   exact guard_bind ⟨by show (0:Int)≤7; omega,by show (7:Int) < 8; omega⟩ (guard_bind set_len rfl)
  ·simp only [ZA,b2,hv,Qj,Bool.not_true,Bool.false_eq_true,if_false,show ¬ ((7:Int)=1) by decide,show ¬ ((7:Int)=2) by decide,show ¬ ((7:Int)=3) by decide,show ¬ ((7:Int)=4) by decide,show ¬ ((7:Int)=5) by decide,show ¬ ((7:Int)=6) by decide,if_true,app0_ok (show i.length≤1000 by omega),k2,i1,i2,show (i.getD j 0≥a.shape.getD j 0) by omega,w,hs]
   exact guard_bind set_len rfl
  ·refine vld_of (by rw [set_len]; omega) fun k hk=>?_
   rw [getD_set (l:=i) (j:=j) (by omega)]
   by_cases hkj:k=j
   ·rw [if_pos hkj,hkj]; exact ⟨by omega,by omega⟩
   ·rw [if_neg hkj]
    have v:=vld_get hv k (by omega)
    have e:=(n5 k (by omega)).2 (by omega)
    exact ⟨v.1,by omega⟩
end
section
variable {sh:List Int} {bu:Int} {st:List Int} {ax am:Int} {pe:List Int} {ks:List Qa} {i:List Int}
theorem step6 (h:smC ⟨6,sh,bu,st,ax,am,pe,ks⟩) (hn:nodeF ⟨6,sh,bu,st,ax,am,pe,ks⟩) (hks:∀ k∈ks,nodeF k) (hi:i.length≤40) (hv:vld sh i=true):stepP ⟨6,sh,bu,st,ax,am,pe,ks⟩ i:=by
 obtain ⟨f1,f2,f3,f4,f5⟩:=smC_f h
 simp only at f1 f2 f3 f4 f5
 obtain ⟨kid,hk⟩:=kids_one (c:=⟨6,sh,bu,st,ax,am,pe,ks⟩) (by rw [hn.kids]; simp)
 simp only at hk
 subst hk
 have hc:=(hks kid (by simp)).chk
 obtain ⟨c1,c2,c3⟩:=checkR_ok hc
 have hcs:checkR sh=0:=hn.chk
 obtain ⟨e1,e2,e3⟩:=checkR_ok hcs
 have hl:=vld_len hv
 obtain ⟨r1,r2⟩:=dotp_range hv
 have hK:Sm kid.shape.length:=Sm_of (show kid.shape.length≤1000 by omega)
 have b1:=gValid_ok sh i (Sm_of (show i.length≤1000 by omega))
 have b2:=rValid_ok sh i (Sm_of (show sh.length≤1000 by omega))
 have k1:idx [conv kid] 0=some (conv kid):=rfl
 have k2:idx [kid] 0=some kid:=rfl
 have hce:cellsR kid.shape=prodI kid.shape:=by rw [cellsR,if_pos hc]
 by_cases hz:prodI kid.shape=0
 ·have hM:Qas (dotp sh i,0)=some 0:=rfl
  have hI:Xc (kid.shape,0)=some ([],false):=by
   simp only [Xc,show ¬ ((0:Int) < 0) by decide,if_false,gCells_ok _ hK,hce,hz,Qj]; rfl
  refine ⟨0,[],false,(stepF_v (show (6:Int)≠1 by decide) hv).trans ((stepV6 rfl).trans (if_pos hz)),?_,?_,by simp,fun h=>by cases h⟩
  ·simp only [conv,convs,Z6,b1,hv,Qj,Bool.true_eq_false,if_false,show ¬ ((6:Int)=0) by decide,show ¬ ((6:Int)=1) by decide,show ¬ ((6:Int)=2) by decide,show ¬ ((6:Int)=3) by decide,show ¬ ((6:Int)=4) by decide,show ¬ ((6:Int)=5) by decide,if_true,clone_ok (show i.length≤1000 by omega),Ye,gOffset_ok hv hcs,k1,conv_shape,gCells_ok _ hK,hce,hz,hM,hI]
   exact guard_bind ⟨by show (0:Int)≤6; omega,by show (6:Int) < 8; omega⟩ rfl
  ·simp only [ZA,b2,hv,Qj,Bool.not_true,Bool.false_eq_true,if_false,show ¬ ((6:Int)=1) by decide,show ¬ ((6:Int)=2) by decide,show ¬ ((6:Int)=3) by decide,show ¬ ((6:Int)=4) by decide,show ¬ ((6:Int)=5) by decide,if_true,app0_ok (show i.length≤1000 by omega),k2,Cells_ok _ hK,hce,hz]
 ·have hpos:∀ n∈kid.shape,1≤n:=fun n hm=>by
   have:=c3 n hm
   have h0:n≠0:=fun e=>hz (prodI_zero (e ▸ hm))
   omega
  have hp:=prodI_pos hpos
  have o1:=Int.emod_nonneg (dotp sh i) (show prodI kid.shape≠0 from hz)
  have o2:=Int.emod_lt_of_pos (dotp sh i) (show 0 < prodI kid.shape by omega)
  have hM:=Mod_ok r1 hp
  have hR:=remM_ok r1 hp
  have hI:=gIndex_ok hc hpos o1 o2
  have hJ:=rIndex_ok (show kid.shape.length≤1000 by omega) hpos o1 o2 (by omega)
  refine ⟨0,dig kid.shape (dotp sh i % prodI kid.shape),true,(stepF_v (show (6:Int)≠1 by decide) hv).trans ((stepV6 rfl).trans (if_neg hz)),?_,?_,by rw [dig_len]; omega,fun _=>⟨kid,rfl,vld_dig hpos o1 o2,by omega⟩⟩
  ·simp only [conv,convs,Z6,b1,hv,Qj,Bool.true_eq_false,if_false,show ¬ ((6:Int)=0) by decide,show ¬ ((6:Int)=1) by decide,show ¬ ((6:Int)=2) by decide,show ¬ ((6:Int)=3) by decide,show ¬ ((6:Int)=4) by decide,show ¬ ((6:Int)=5) by decide,if_true,clone_ok (show i.length≤1000 by omega),Ye,gOffset_ok hv hcs,k1,conv_shape,gCells_ok _ hK,hce,hM,hI]
   exact guard_bind ⟨by show (0:Int)≤6; omega,by show (6:Int) < 8; omega⟩ rfl
  ·simp only [ZA,b2,hv,Qj,Bool.not_true,Bool.false_eq_true,if_false,show ¬ ((6:Int)=1) by decide,show ¬ ((6:Int)=2) by decide,show ¬ ((6:Int)=3) by decide,show ¬ ((6:Int)=4) by decide,show ¬ ((6:Int)=5) by decide,if_true,app0_ok (show i.length≤1000 by omega),k2,Cells_ok _ hK,hce,hz,rOffset_ok hv e2 (Sm_of (show sh.length≤1000 by omega)),hR,hJ]
end
theorem step_ok:∀ (c:Qa) (i:List Int),smC c→nodeF c→(∀ k∈c.kids,nodeF k)→i.length≤40→stepP c i
 | ⟨kd,sh,bu,st,ax,am,pe,ks⟩,i,h,hn,hks,hi=>by
  obtain ⟨f1,f2,f3,f4,f5⟩:=smC_f h
  have f1:sh.length≤40:=f1
  have b1:=gValid_ok sh i (Sm_of (show i.length≤1000 by omega))
  have b2:=rValid_ok sh i (Sm_of (show sh.length≤1000 by omega))
  obtain ⟨q1,q2⟩:=hn.kind
  have q1:1≤kd:=q1
  have q2:kd≤7:=q2
  cases hv:vld sh i with
  | false =>
   refine ⟨0,[],false,by simp [stepF,hv],?_,?_,by simp,fun h=>by cases h⟩
   ·simp only [conv,Z6,b1,hv,Qj,if_true]
   ·by_cases h1:kd=1
    ·simp only [ZA,h1,if_true,Qj]
    ·simp only [ZA,h1,if_false,b2,hv,Qj,Bool.not_false,if_true]
  | true =>
   have hc:kd=1∨kd=2∨kd=3∨kd=4∨kd=5∨kd=6∨kd=7:=by omega
   rcases hc with rfl|rfl|rfl|rfl|rfl|rfl|rfl
   ·refine ⟨0,[],false,by simp [stepF],?_,?_,by simp,fun h=>by cases h⟩
    ·simp only [conv,Z6,b1,hv,Qj,Bool.true_eq_false,if_false,show ¬ ((1:Int)=0) by decide,if_true,clone_ok (show i.length≤1000 by omega),Je]
     exact guard_bind ⟨by show (0:Int)≤1; omega,by show (1:Int) < 8; omega⟩ rfl
    ·simp only [ZA,if_true,Qj]
   ·exact step2 h hn hi hv
   ·exact step3 h hn hi hv
   ·exact step4 h hn hi hv
   ·exact step5 h hn hks hi hv
   ·exact step6 h hn hks hi hv
   ·exact step7 h hn hks hi hv
theorem app_le {α:Type} {b:Nat} {l es:List α} (h:l.length+es.length≤100000000) (hb:b≤1000):app b l es=some (l++es):=app_ok (by
 have h1:(l.length+es.length) * b≤100000000 * 1000:=Nat.mul_le_mul h hb
 have h2:100000000 * 1000≤room:=by decide +kernel
 omega)
def rowI (n:Int) (a:List Int):List (List Int):=(List.range n.toNat).map fun (k:Nat)=>a++[(k:Int)]
def extI (out:List (List Int)) (n:Int):List (List Int):=out.flatMap (rowI n)
/-- all indices -/
def allL:List Int→List (List Int)
 | []=>[[]]
 | n::s=>(List.range n.toNat).flatMap fun (k:Nat)=>(allL s).map ((k:Int)::·)
theorem foldl_ext:∀ (s:List Int) (out:List (List Int)),s.foldl extI out=out.flatMap fun a=>(allL s).map (a++·)
 | [],out=>by
  simp only [List.foldl_nil,allL,List.map_cons,List.append_nil,List.map_nil]
  induction out with
  | nil=>rfl
  | cons a o ih=>rw [List.flatMap_cons,← ih]; rfl
 | n::s,out=>by
  rw [List.foldl_cons,foldl_ext s,extI,List.flatMap_assoc]
  congr 1
  funext a
  rw [rowI,List.flatMap_map,allL,List.map_flatMap]
  congr 1
  funext k
  rw [List.map_map]
  congr 1
  funext x
  simp
theorem allI_eq (s:List Int):s.foldl extI [[]]=allL s:=by rw [foldl_ext]; simp
/-- the product of the dimensions, where none counts less than one -/
def pm:List Int→Nat
 | []=>1
 | n::s=>max n.toNat 1 * pm s
theorem pm_pos:∀ s:List Int,1≤pm s
 | []=>Nat.le_refl _
 | n::s=>by
  have:=pm_pos s
  rw [pm]
  exact Nat.mul_le_mul (show 1≤max n.toNat 1 by omega) this
theorem rowI_len (n:Int) (a:List Int):(rowI n a).length=n.toNat:=by simp [rowI]
theorem extI_len (n:Int):∀ out:List (List Int),(extI out n).length=out.length * n.toNat
 | []=>by simp [extI]
 | a::o=>by
  have:=extI_len n o
  unfold extI at this ⊢
  rw [List.flatMap_cons,List.length_append,rowI_len,this,List.length_cons,Nat.add_mul,Nat.one_mul]; omega
theorem all_L3 (p:List Int) (i:Nat) (n:Int) (hi:idx p (i:Int)=some n) (out:List (List Int)) (k:Nat) (a:List Int) (hk:idx out (k:Int)=some a) (ha:a.length≤1000) (base:List (List Int)) :
  ∀ (m j:Nat),j+m=n.toNat→base.length+n.toNat≤1000000→YS (p,(i:Int),out,(k:Int),base++((List.range j).map fun (x:Nat)=>a++[(x:Int)]),(j:Int))=some (base++rowI n a)
 | 0,j,h1,h2=>by
  rw [YS]
  have:¬ ((j:Int) < n):=by omega
  simp only [hi,Qj,this,if_false]
  rw [rowI,← h1]; rfl
 | m+1,j,h1,h2=>by
  rw [YS]
  have ht:((j:Int) < n):=by omega
  have ih:=all_L3 p i n hi out k a hk ha base m (j+1) (by omega) h2
  have w:W ((j:Int)+1)=((j+1:Nat):Int):=W_succ (by omega)
  have a1:app 8 ([]:List Int) a=some a:=by rw [app_le (by simp; omega) (by omega)]; rfl
  have a2:app 8 a [(j:Int)]=some (a++[(j:Int)]):=app_le (by simp; omega) (by omega)
  have a3:app 24 (base++((List.range j).map fun (x:Nat)=>a++[(x:Int)])) [a++[(j:Int)]]=some (base++((List.range (j+1)).map fun (x:Nat)=>a++[(x:Int)])):=by
   rw [app_le (by simp; omega) (by omega),List.range_succ]; simp
  simp only [hi,Qj,ht,if_true,hk,a1,a2,a3,w,ih]
theorem all_L2 (p:List Int) (i:Nat) (n:Int) (hi:idx p (i:Int)=some n):∀ (s q:List (List Int)),(∀ a∈s,a.length≤1000)→((q++s).length+1) * (max n.toNat 1)≤1000000 →
  Yv (q++s,p,(i:Int),extI q n,(q.length:Int))=some (extI (q++s) n)
 | [],q,h1,h2=>by
  rw [Yv]; simp only [List.append_nil,Int.lt_irrefl,if_false]
 | a::s,q,h1,h2=>by
  rw [Yv]
  have hm:(q++a::s).length+1≤1000000:=Nat.le_trans (Nat.le_mul_of_pos_right _ (by omega)) h2
  have hb:(extI q n).length+n.toNat≤1000000:=by
   rw [extI_len]
   have e1:q.length * n.toNat+n.toNat=(q.length+1) * n.toNat:=by rw [Nat.add_mul,Nat.one_mul]
   rw [e1]
   refine Nat.le_trans (Nat.mul_le_mul ?_ ?_) h2
   ·simp
   ·omega
  have e:=all_L3 p i n hi (q++a::s) q.length a QS (h1 a (List.mem_cons_self ..)) (extI q n) n.toNat 0 (by omega) hb
  have ih:=all_L2 p i n hi s (q++[a]) (fun x hx=>h1 x (List.mem_cons_of_mem _ hx)) (by rw [← QM]; exact h2)
  rw [← QM] at ih
  simp only [List.range_zero,List.map_nil,List.append_nil,Int.natCast_zero] at e
  have ee:extI (q++[a]) n=extI q n++rowI n a:=by unfold extI; rw [List.flatMap_append]; simp
  simp only [Zm,if_true,e,Qj,mid_W (Sm_of (show (q++a::s).length≤1000000 by omega)),← ee,ih]
theorem mem_ext_len {out:List (List Int)} {n:Int} {m:Nat} (h:∀ a∈out,a.length=m):∀ a∈extI out n,a.length=m+1:=fun a ha=>by
 unfold extI at ha
 obtain ⟨b,hb,hc⟩:=List.mem_flatMap.1 ha
 unfold rowI at hc
 obtain ⟨k,_,rfl⟩:=List.mem_map.1 hc
 simp [h b hb]
theorem all_L1:∀ (s p:List Int) (out:List (List Int)),(p++s).length≤900→(∀ a∈out,a.length=p.length)→(out.length+1) * pm s≤500000→Yt (p++s,out,(p.length:Int))=some (s.foldl extI out)
 | [],p,out,hs,h1,h2=>by
  rw [Yt]; simp only [Ya,if_false,List.foldl_nil]
 | n::s,p,out,hs,h1,h2=>by
  rw [Yt]
  have hp:=pm_pos s
  rw [pm,← Nat.mul_assoc] at h2
  have b1:(out.length+1) * max n.toNat 1≤500000:=Nat.le_trans (Nat.le_mul_of_pos_right _ hp) h2
  have e:Yv (out,p++n::s,(p.length:Int),[],0)=some (extI out n):=all_L2 (p++n::s) p.length n QS out [] (fun a ha=>by have:=h1 a ha; simp at hs; omega) (Nat.le_trans b1 (by omega))
  have ih:=all_L1 s (p++[n]) (extI out n) (by rw [← QM]; exact hs) (fun a ha=>by rw [mem_ext_len h1 a ha]; simp) (by
   refine Nat.le_trans (Nat.mul_le_mul_right _ ?_) h2
   rw [extI_len,Nat.add_mul,Nat.one_mul]
   have:=Nat.mul_le_mul_left out.length (show n.toNat≤max n.toNat 1 by omega)
   omega)
  rw [← QM] at ih
  simp only [Zm,if_true,e,Qj,mid_W (Sm_of hs),ih,List.foldl_cons]
theorem All_ok {s:List Int} (hs:s.length≤900) (h:pm s≤250000):X3 s=some (allL s):=by
 have e:Yt (s,[[]],0)=some (s.foldl extI [[]]):=all_L1 s [] [[]] hs (by simp) (by simpa using by omega)
 simp only [X3,e,Qj,allI_eq]
theorem mem_allL:∀ {s x:List Int},x∈allL s↔vld s x=true
 | [],x=>by
  cases x with
  | nil=>simp [allL,vld]
  | cons a x=>simp [allL,vld]
 | n::s,x=>by
  rw [allL,List.mem_flatMap]
  constructor
  ·rintro ⟨k,hk,h⟩
   obtain ⟨y,hy,rfl⟩:=List.mem_map.1 h
   have:=List.mem_range.1 hk
   simp only [vld,Bool.and_eq_true,decide_eq_true_eq]
   exact ⟨by omega,mem_allL.1 hy⟩
  ·intro h
   cases x with
   | nil=>cases h
   | cons a x =>
    simp only [vld,Bool.and_eq_true,decide_eq_true_eq] at h
    refine ⟨a.toNat,List.mem_range.2 (by omega),List.mem_map.2 ⟨x,mem_allL.2 h.2,?_⟩⟩
    rw [Int.toNat_of_nonneg h.1.1]
theorem nodup_flat:∀ (m:Nat) (l:List (List Int)),l.Nodup→((List.range m).flatMap fun (k:Nat)=>l.map ((k:Int)::·)).Nodup
 | 0,l,h=>by simp
 | m+1,l,h=>by
  rw [List.range_succ,List.flatMap_append,List.nodup_append]
  refine ⟨nodup_flat m l h,?_,?_⟩
  ·simp only [List.flatMap_cons,List.flatMap_nil,List.append_nil]
   refine List.Pairwise.map _ (fun a b hab=>?_) h
   intro e
   exact hab (List.cons.inj e).2
  ·intro a ha b hb e
   subst e
   obtain ⟨k,hk,h1⟩:=List.mem_flatMap.1 ha
   obtain ⟨k2,hk2,h2⟩:=List.mem_flatMap.1 hb
   obtain ⟨y,_,rfl⟩:=List.mem_map.1 h1
   obtain ⟨y2,_,e2⟩:=List.mem_map.1 h2
   have e3:=(List.cons.inj e2).1
   have:=List.mem_range.1 hk
   have:k2=m:=by simpa using hk2
   omega
theorem allL_nodup:∀ s:List Int,(allL s).Nodup
 | []=>by simp [allL]
 | n::s=>by rw [allL]; exact nodup_flat _ _ (allL_nodup s)
theorem flat_len {α:Type} (f:Nat→List α) (c:Nat) (h:∀ k,(f k).length=c):∀ m:Nat,((List.range m).flatMap f).length=m * c
 | 0=>by simp
 | m+1=>by rw [List.range_succ,List.flatMap_append,List.length_append,flat_len f c h m]; simp [h,Nat.add_mul]
theorem allL_len:∀ {s:List Int},(∀ n∈s,0≤n)→((allL s).length:Int)=prodI s
 | [],_=>by simp [allL,prodI]
 | n::s,h=>by
  have ih:=allL_len (s:=s) fun m hm=>h m (List.mem_cons_of_mem _ hm)
  have h0:=h n (List.mem_cons_self ..)
  rw [allL,flat_len _ (allL s).length (fun k=>by simp),Int.natCast_mul,ih,prodI_cons,Int.toNat_of_nonneg h0]
theorem flat_get {α:Type} (f:Nat→List α) (c:Nat) (h:∀ k,(f k).length=c) (hc:1≤c):∀ (m j:Nat),j < m * c→((List.range m).flatMap f)[j]? = (f (j / c))[j % c]?
 | 0,j,hj=>by simp at hj
 | m+1,j,hj=>by
  rw [List.range_succ,List.flatMap_append,List.getElem?_append]
  have hl:=flat_len f c h m
  rw [hl]
  by_cases hlt:j < m * c
  ·rw [if_pos hlt]; exact flat_get f c h hc m j hlt
  ·rw [if_neg hlt]
   have e1:j / c=m:=Nat.div_eq_of_lt_le (by omega) (by omega)
   have e2:j % c=j - m * c:=by
    have:=Nat.div_add_mod j c
    rw [e1,Nat.mul_comm] at this
    omega
   rw [e1,e2]; simp
theorem allL_get:∀ {s:List Int},(∀ n∈s,1≤n)→∀ j:Nat,(j:Int) < prodI s→(allL s)[j]? = some (dig s (j:Int))
 | [],_,j,hj=>by
  have:j=0:=by simp [prodI] at hj; omega
  subst this; rfl
 | n::s,h,j,hj=>by
  have hs:∀ m∈s,1≤m:=fun m hm=>h m (List.mem_cons_of_mem _ hm)
  have h0:=h n (List.mem_cons_self ..)
  have hl:=allL_len (s:=s) fun m hm=>by have:=hs m hm; omega
  have hp:=prodI_pos hs
  rw [prodI_cons] at hj
  have hc:1≤(allL s).length:=by omega
  have hj2:j < n.toNat * (allL s).length:=by
   have:((n.toNat * (allL s).length:Nat):Int)=n * prodI s:=by rw [Int.natCast_mul,hl,Int.toNat_of_nonneg (by omega)]
   omega
  rw [allL,flat_get _ (allL s).length (fun k=>by simp) hc _ _ hj2,List.getElem?_map]
  have hm:((j % (allL s).length:Nat):Int)=(j:Int) % prodI s:=by rw [Int.natCast_emod,hl]
  have hd:((j / (allL s).length:Nat):Int)=(j:Int) / prodI s:=by rw [Int.natCast_ediv,hl]
  rw [allL_get hs (j % (allL s).length) (by rw [hm]; exact Int.emod_lt_of_pos _ (by omega)),Option.map_some,hm,hd,dig]
theorem dig_dotp:∀ {s x:List Int},vld s x=true→dig s (dotp s x)=x
 | [],[],_=>rfl
 | n::s,a::x,h=>by
  simp only [vld,Bool.and_eq_true,decide_eq_true_eq] at h
  obtain ⟨r1,r2⟩:=dotp_range h.2
  have hp:0 < prodI s:=by omega
  rw [dotp,dig]
  have e1:(a * prodI s+dotp s x) / prodI s=a:=by
   rw [Int.add_comm,Int.add_mul_ediv_right _ _ (by omega),Int.ediv_eq_zero_of_lt r1 r2,Int.zero_add]
  have e2:(a * prodI s+dotp s x) % prodI s=dotp s x:=by
   rw [Int.add_comm,Int.add_mul_emod_self_right,Int.emod_eq_of_lt r1 r2]
  rw [e1,e2,dig_dotp h.2]
 | [],_::_,h=>by cases h
 | _::_,[],h=>by cases h
theorem pm_pmI:∀ s:List Int,((pm s:Nat):Int)=pmI s
 | []=>rfl
 | n::s=>by
  rw [pm,pmI,Int.natCast_mul,pm_pmI s]
  congr 1
  split <;> omega
theorem small_pm {m:Int} {s:List Int} (h:smallS m s) (hm:1≤m):(pm s:Int)≤100 * m:=by
 rcases h.2.2.2 with rfl|h
 ·simp [pm]; omega
 ·rw [pm_pmI]; exact h
theorem small_All {m:Int} {s:List Int} (h:smallS m s) (hm:1≤m∧m≤2500):X3 s=some (allL s):=All_ok (by have:=h.1; omega) (by have:=small_pm h hm.1; omega)
theorem etaC (d:Qi):(⟨d.kind,d.shape,d.buffer,d.starts,d.axis,d.amount,d.perm,d.kids⟩:Qi)=d:=by cases d; rfl
theorem etaR (c:Qa):(⟨c.kind,c.shape,c.buffer,c.starts,c.axis,c.amount,c.perm,c.kids⟩:Qa)=c:=by cases c; rfl
theorem convF (c:Qa):(conv c).kind=c.kind∧(conv c).shape=c.shape∧(conv c).buffer=c.buffer∧(conv c).kids=convs c.kids:=by
 cases c; exact ⟨rfl,rfl,rfl,rfl⟩
theorem convs_map:∀ l:List Qa,convs l=l.map conv
 | []=>rfl
 | k::ks=>by rw [convs,convs_map ks]; rfl
theorem idx_convs {l:List Qa} {k:Int} {kid:Qa} (h:idx l k=some kid):idx (convs l) k=some (conv kid):=by
 rw [convs_map]
 unfold idx at h ⊢
 split at h
 ·rename_i h0; rw [if_pos h0,List.getElem?_map,h]; rfl
 ·cases h
theorem szC_mem:∀ {l:List Qa} {k:Qa},k∈l→szC k≤szCs l
 | x::l,k,h=>by
  rw [szCs]
  rcases List.mem_cons.1 h with rfl|h
  ·omega
  ·have:=szC_mem h; omega
theorem szC_f (c:Qa):szC c=1+szCs c.kids:=by cases c; rw [szC]
theorem idx_mem {α:Type} {l:List α} {k:Int} {a:α} (h:idx l k=some a):a∈l:=by
 unfold idx at h
 split at h
 ·exact List.mem_of_getElem? h
 ·cases h
def noC:Qa:=⟨0,[],0,[],0,0,[],[]⟩
/-- where a cell comes from: filled, buffer, offset -/
def origF:Nat→Qa→List Int→Bool × Int × Int
 | 0,_,_=>(true,0,0)
 | n+1,c,i=>if c.kind=1 then (false,c.buffer,dotp c.shape i) else if (stepF c i).2.2=true then origF n (c.kids.getD (stepF c i).1.toNat noC) (stepF c i).2.1 else (true,0,0)
theorem idx_getd {α:Type} {l:List α} {k:Int} {a d:α} (h:idx l k=some a):l.getD k.toNat d=a:=by
 unfold idx at h
 split at h
 ·rw [List.getD_eq_getElem?_getD,h]; rfl
 ·cases h
theorem smC_kid {c kid:Qa} (h:smC c) (hk:kid∈c.kids):smC kid:=smCs_mem (smC_f h).2.2.2.2 kid hk
/-- where a cell comes from: in the program and in the reference -/
def origP (bs:List (List Int)) (c:Qa) (i:List Int) (t:Bool × Int × Int):Prop :=
 (∃ x1 x2 x3 x4 x5 x6 x7 x8,Yj (c.kind,c.shape,c.buffer,c.starts,c.axis,c.amount,c.perm,convs c.kids,i)=some (x1,x2,x3,x4,x5,x6,x7,x8,t.1,t.2.1,t.2.2)) ∧
 ZM (c,i)=some ⟨t.1,t.2.1,t.2.2⟩∧(t.1=false→∃ sh,idx bs t.2.1=some sh∧0≤t.2.2∧t.2.2 < prodI sh∧checkR sh=0)
theorem conv_eta (c:Qa):(⟨c.kind,c.shape,c.buffer,c.starts,c.axis,c.amount,c.perm,convs c.kids⟩:Qi)=conv c:=by cases c; rfl
theorem orig_L (bs:List (List Int)):∀ (n:Nat) (c:Qa) (i:List Int),szC c≤n→smC c→nodesF bs c→vld c.shape i=true→origP bs c i (origF n c i)
 | 0,c,i,hz,_,_,_=>by have:=szC_pos c; omega
 | n+1,c,i,hz,hs,hN,hv=>by
  obtain ⟨hn,hb,hk⟩:=nodesF_f hN
  have hsh:=(smC_f hs).1
  have hl:=vld_len hv
  have hSh:Sm c.shape.length:=Sm_of (show c.shape.length≤1000 by omega)
  by_cases h1:c.kind=1
  ·have e:=gOffset_ok hv hn.chk
   have e2:=rOffset_ok hv (checkR_ok hn.chk).2.1 hSh
   rw [origF,if_pos h1]
   refine ⟨⟨c.kind,c.shape,c.buffer,c.starts,c.axis,c.amount,c.perm,convs c.kids,?_⟩,?_,fun _=>⟨c.shape,hb h1,(dotp_range hv).1,(dotp_range hv).2,hn.chk⟩⟩
   ·rw [Yj]
    simp only [h1,if_true,e,Qj] <;> rfl
   ·rw [ZM]
    simp only [h1,if_true,e2,Qj]
  ·obtain ⟨k,l,ok,ef,es,er,hl2,hok⟩:=step_ok c i hs hn (fun k hm=>(nodesF_f (hk k hm)).1) (by omega)
   rw [origF,if_neg h1,ef]
   cases ok with
   | false =>
    refine ⟨⟨c.kind,c.shape,c.buffer,c.starts,c.axis,c.amount,c.perm,convs c.kids,?_⟩,?_,fun h=>by cases h⟩
    ·rw [Yj]
     simp only [h1,if_false,conv_eta,es,Qj,if_true] <;> rfl
    ·rw [ZM]
     simp only [h1,if_false,etaR,er,Qj,if_true] <;> rfl
   | true =>
    obtain ⟨kid,ik,vk,hkl⟩:=hok rfl
    have hm:=idx_mem ik
    have hsz:szC kid≤n:=by
     have:=szC_mem hm
     have:=szC_f c
     omega
    obtain ⟨⟨x1,x2,x3,x4,x5,x6,x7,x8,ih1⟩,ih2,ih3⟩:=orig_L bs n kid l hsz (smC_kid hs hm) (hk kid hm) vk
    obtain ⟨q1,q2,q3,q4⟩:=convF kid
    have ec:conv kid=⟨kid.kind,kid.shape,kid.buffer,kid.starts,kid.axis,kid.amount,kid.perm,convs kid.kids⟩:=(conv_eta kid).symm
    simp only [if_true,idx_getd ik]
    refine ⟨⟨x1,x2,x3,x4,x5,x6,x7,x8,?_⟩,?_,ih3⟩
    ·rw [Yj]
     simp only [h1,if_false,conv_eta,es,Qj,Bool.true_eq_false,idx_convs ik]
     rw [ec]
     exact ih1
    ·rw [ZM]
     simp only [h1,if_false,etaR,er,Qj,Bool.true_eq_false,ik,ih2]
def cellP (t:Bool × Int × Int):Z4:=⟨t.1,t.2.1,t.2.2⟩
def cellQ (t:Bool × Int × Int):QH:=⟨t.1,t.2.1,t.2.2⟩
theorem pOrigin_ok {bs:List (List Int)} {c:Qa} {i:List Int} (hs:smC c) (hN:nodesF bs c) (hi:i.length≤1000):QaS (conv c,i)=some (if vld c.shape i=true then (cellP (origF (szC c) c i),true) else (⟨false,0,0⟩,false)):=by
 obtain ⟨q1,q2,q3,q4⟩:=convF c
 simp only [QaS,q2,gValid_ok c.shape i (Sm_of hi),Qj]
 cases hv:vld c.shape i with
 | false=>rfl
 | true =>
  obtain ⟨⟨x1,x2,x3,x4,x5,x6,x7,x8,h⟩,_,_⟩:=orig_L bs (szC c) c i (Nat.le_refl _) hs hN hv
  have hq:(conv c).starts=c.starts∧(conv c).axis=c.axis∧(conv c).amount=c.amount∧(conv c).perm=c.perm:=by cases c; exact ⟨rfl,rfl,rfl,rfl⟩
  simp only [Bool.true_eq_false,if_false,q1,q3,q4,hq.1,hq.2.1,hq.2.2.1,hq.2.2.2,h,Qj,if_true]
  rfl
theorem rOrigin_ok {bs:List (List Int)} {c:Qa} {i:List Int} (hs:smC c) (hN:nodesF bs c) (hv:vld c.shape i=true):ZM (c,i)=some (cellQ (origF (szC c) c i)):=(orig_L bs (szC c) c i (Nat.le_refl _) hs hN hv).2.1
theorem vld_pos' {s:List Int} (h:∀ n∈s,0≤n) (hp:0 < prodI s):∀ n∈s,1≤n:=fun n hn=>by
 have h0:=h n hn
 have:n≠0:=fun e=>by rw [prodI_zero (e ▸ hn)] at hp; omega
 omega
theorem len_allL {s:List Int} (h:checkR s=0):((allL s).length:Int)=prodI s:=allL_len fun n hn=>((checkR_ok h).2.2 n hn).1
theorem get_allL {s:List Int} (h:checkR s=0) {j:Nat} (hj:j < (allL s).length):(allL s)[j]? = some (dig s (j:Int)):=by
 have hl:=len_allL h
 exact allL_get (vld_pos' (fun n hn=>((checkR_ok h).2.2 n hn).1) (by omega)) j (by omega)
theorem vld_get_allL {s:List Int} (h:checkR s=0) {j:Nat} (hj:j < (allL s).length):vld s (dig s (j:Int))=true:=mem_allL.1 (List.mem_of_getElem? (get_allL h hj))
theorem rOrigins_L1 {bs:List (List Int)} {c:Qa} (hs:smC c) (hN:nodesF bs c):∀ (s p:List (List Int)),(∀ i∈s,vld c.shape i=true)→(p++s).length≤100000 →
  Zy (p++s,c,p.map (fun i=>cellQ (origF (szC c) c i)),(p.length:Int))=some ((p++s).map fun i=>cellQ (origF (szC c) c i))
 | [],p,h,hp=>by
  rw [Zy]; simp only [List.append_nil,Int.lt_irrefl,if_false]
 | x::s,p,h,hp=>by
  rw [Zy]
  have ih:=rOrigins_L1 hs hN s (p++[x]) (fun i hi=>h i (List.mem_cons_of_mem _ hi)) (by rw [← QM]; exact hp)
  rw [← QM,List.map_append] at ih
  have ea:app 24 (p.map (fun i=>cellQ (origF (szC c) c i))) [cellQ (origF (szC c) c x)]=some (p.map (fun i=>cellQ (origF (szC c) c i))++[cellQ (origF (szC c) c x)]):=app_le (by simp at hp ⊢; omega) (by omega)
  simp only [Zm,if_true,QS,Qj,etaR,rOrigin_ok hs hN (h x (List.mem_cons_self ..)),ea,mid_W (Sm_of hp)]
  exact ih
theorem rOrigins_ok {bs:List (List Int)} {c:Qa} (hs:smC c) (hN:nodesF bs c) (hA:X3 c.shape=some (allL c.shape)) (hp:(allL c.shape).length≤100000):Jk c=some ((allL c.shape).map fun i=>cellQ (origF (szC c) c i)):=by
 have e:Zy (allL c.shape,c,[],0)=_:=rOrigins_L1 hs hN (allL c.shape) [] (fun i hi=>mem_allL.1 hi) hp
 simp only [Jk,hA,Qj,e,List.nil_append]
theorem dotp_dig {s:List Int} {o:Int} (hpos:∀ n∈s,1≤n) (h0:0≤o) (h1:o < prodI s):dotp s (dig s o)=o:=by
 have hv:=vld_dig hpos h0 h1
 have hr:=dotp_range hv
 have e1:=allL_get hpos o.toNat (by omega)
 have e2:=allL_get hpos (dotp s (dig s o)).toNat (by omega)
 rw [show ((o.toNat:Nat):Int)=o by omega] at e1
 rw [show (((dotp s (dig s o)).toNat:Nat):Int)=dotp s (dig s o) by omega,dig_dotp hv] at e2
 have hn:=allL_nodup s
 obtain ⟨l1,g1⟩:=List.getElem?_eq_some_iff.1 e1
 obtain ⟨l2,g2⟩:=List.getElem?_eq_some_iff.1 e2
 have hne:=List.pairwise_iff_getElem.1 hn
 rcases Nat.lt_trichotomy o.toNat (dotp s (dig s o)).toNat with h|h|h
 ·exact absurd (g1.trans g2.symm) (hne _ _ l1 l2 h)
 ·omega
 ·exact absurd (g2.trans g1.symm) (hne _ _ l2 l1 h)
/-- data in order: the cells by their indices -/
theorem data_map {s data:List Int} (hc:checkR s=0) (hd:(data.length:Int)=prodI s):(allL s).map (fun i=>data.getD (dotp s i).toNat 0)=data:=by
 have hl:=len_allL hc
 apply List.ext_getElem
 ·rw [List.length_map]; omega
 ·intro j h1 h2
  rw [List.getElem_map]
  have hj:j < (allL s).length:=by rw [List.length_map] at h1; exact h1
  have e:=get_allL hc hj
  obtain ⟨_,g⟩:=List.getElem?_eq_some_iff.1 e
  have hv:=vld_get_allL hc hj
  rw [g,dotp_dig (vld_pos hv) (by omega) (by omega)]
  simp [h2]
theorem map_get {s:List Int} {g:List Int→Int} (hc:checkR s=0) {i:List Int} (hv:vld s i=true):((allL s).map g)[(dotp s i).toNat]? = some (g i):=by
 have hr:=dotp_range hv
 have hl:=len_allL hc
 have hj:(dotp s i).toNat < (allL s).length:=by omega
 rw [List.getElem?_map,get_allL hc hj]
 rw [show (((dotp s i).toNat:Nat):Int)=dotp s i by omega,dig_dotp hv]
 rfl
def noS:Ql:=⟨ByteArray.empty,⟨[],[]⟩⟩
/-- the value of an origin -/
def rdF (ss:List Ql) (t:Bool × Int × Int):Int:=if t.1=true then 0 else ((ss.getD t.2.1.toNat noS).value.data).getD t.2.2.toNat 0
def valF (ss:List Ql) (c:Qa) (i:List Int):Int:=rdF ss (origF (szC c) c i)
def arrF (ss:List Ql) (c:Qa):Qo:=⟨c.shape,(allL c.shape).map (valF ss c)⟩
theorem origF_any {bs:List (List Int)} {n:Nat} {c:Qa} {i:List Int} (hz:szC c≤n) (hs:smC c) (hN:nodesF bs c) (hv:vld c.shape i=true):origF n c i=origF (szC c) c i:=by
 have h1:=(orig_L bs n c i hz hs hN hv).2.1
 have h2:=(orig_L bs (szC c) c i (Nat.le_refl _) hs hN hv).2.1
 rw [h1] at h2
 have h3:=Option.some.inj h2
 simp only [QH.mk.injEq] at h3
 exact Prod.ext h3.1 (Prod.ext h3.2.1 h3.2.2)
section
variable {bs:List (List Int)} {ss:List Ql} {c kid:Qa} {i l:List Int} {k:Int}
theorem val_ok (hs:smC c) (hN:nodesF bs c) (h1:c.kind≠1) (ef:stepF c i=(k,l,true)) (ik:idx c.kids k=some kid) (vk:vld kid.shape l=true):valF ss c i=valF ss kid l:=by
 have hm:=idx_mem ik
 have hz:szC kid≤szCs c.kids:=szC_mem hm
 have e:origF (szC c) c i=origF (szCs c.kids) kid l:=by
  rw [szC_f c,Nat.add_comm,origF,if_neg h1,ef]
  simp only [if_true,idx_getd ik]
 unfold valF
 rw [e,origF_any hz (smC_kid hs hm) ((nodesF_f hN).2.2 kid hm) vk]
theorem val_no (h1:c.kind≠1) (ef:stepF c i=(k,l,false)):valF ss c i=0:=by
 unfold valF
 rw [szC_f c,Nat.add_comm,origF,if_neg h1,ef]
 rfl
theorem rOff_no {s j:List Int} (h:vld s j=false) (hs:Sm s.length):Yf (s,j)=some (-1):=by
 unfold Yf
 simp only [rValid_ok s j hs,h,Qj,if_true]
theorem cell_ok (hc:checkR kid.shape=0) (j:List Int):Yz (arrF ss kid,j)=some (if vld kid.shape j=true then valF ss kid j else 0):=by
 obtain ⟨c1,c2,c3⟩:=checkR_ok hc
 have hS:Sm kid.shape.length:=Sm_of (show kid.shape.length≤1000 by omega)
 unfold Yz arrF
 dsimp only
 cases hv:vld kid.shape j with
 | false =>
  simp only [rOff_no hv hS,Qj,show ((-1:Int) < 0) by decide,if_true,Bool.false_eq_true,if_false]
 | true =>
  have hr:=dotp_range hv
  have hn:¬ (dotp kid.shape j < 0):=by omega
  have hi:idx ((allL kid.shape).map (valF ss kid)) (dotp kid.shape j)=some (valF ss kid j):=by
   unfold idx
   rw [if_pos hr.1,map_get hc hv]
  simp only [rOffset_ok hv c2 hS,Qj,hn,if_false,hi,if_true]
/-! one node -/
theorem aWin_L2 (v4:List Int) (p0:Qa) (p1:List Qo) (v1:List (List Int)) (n0:Int) (v6 v2:List Int) (a:Qo):∀ (s t p q:List Int),p0.starts=p++s→s.length=t.length→p.length=q.length→(q++t).length=v4.length→Sm (p++s).length →
  Ym (v4,p0,p1,v1,n0,v6,v2,a,q++t,(p.length:Int))=some (q++addW t s)
 | [],[],p,q,e0,_,h2,h3,hs=>by
  rw [Ym]
  have:¬ ((p.length:Int) < (v4.length:Int)):=by simp at h3; omega
  simp only [this,if_false]; simp [addW]
 | n::s,x::t,p,q,e0,h1,h2,h3,hs=>by
  rw [Ym]
  have ih:=aWin_L2 v4 p0 p1 v1 n0 v6 v2 a s t (p++[n]) (q++[W (x+n)]) (by rw [e0]; simp) (by simpa using h1) (by simp [h2]) (by simpa using h3) (by rw [← QM]; exact hs)
  have hl:((p.length:Int) < (v4.length:Int)):=by simp at h3; omega
  have hi:idx (q++x::t) (p.length:Int)=some x:=by rw [h2]; exact QS
  have hst:idx p0.starts (p.length:Int)=some n:=by rw [e0]; exact QS
  have hset:setM (q++x::t) (p.length:Int) (W (x+n))=some ((q++[W (x+n)])++t):=by rw [h2,setM_ok (by simp),mid_set]
  simp only [hl,if_true,guardM_ok h3,Qj,hi,hst,hset,mid_W hs,ih]
  simp [addW]
 | [],_::_,_,_,_,h,_,_,_=>by cases h
 | _::_,[],_,_,_,h,_,_,_=>by cases h
theorem aTr_L3 (p0:Qa) (v1:List (List Int)) (n0:Int) (p1:List Qo) (v2 v3 v4:List Int) (a0:Qo) (i:List Int) (hv1:idx v1 n0=some i):∀ (t q:List Int) (a:List Int) (g:Nat),p0.perm=q++t→(∀ x∈t,0≤x∧x < (i.length:Int))→(q++t).length≤1000→a.length=q.length →
  ∃ g',Yq (p0,v1,n0,p1,v2,v3,v4,a0,g,a,(q.length:Int))=some (g',a++pick i t)
 | [],q,a,g,e0,_,hs,ha=>by
  rw [Yq]
  refine ⟨g,?_⟩
  simp only [e0,Ya,if_false]; simp [pick]
 | x::t,q,a,g,e0,hp,hs,ha=>by
  rw [Yq]
  have hx:=hp x (List.mem_cons_self ..)
  obtain ⟨g',ih⟩:=aTr_L3 p0 v1 n0 p1 v2 v3 v4 a0 i hv1 t (q++[x]) (a++[i.getD x.toNat 0]) (gb g ([i.getD x.toNat 0]:List Int).isEmpty) (by rw [e0]; simp) (fun y hy=>hp y (List.mem_cons_of_mem _ hy)) (by rw [← QM]; exact hs) (by simp [ha])
  have hap:app 8 a [i.getD x.toNat 0]=some (a++[i.getD x.toNat 0]):=app_ok (by
   have:1002 * 8≤room:=by decide +kernel
   simp at hs ⊢; omega)
  refine ⟨g',?_⟩
  have hix:idx (q++x::t) (q.length:Int)=some x:=QS
  have hlt:((q.length:Int) < ((q++x::t).length:Int)):=Zm
  simp only [e0,hlt,if_true,hv1,hix,Qj,mid_W (Sm_of hs),idx_getD hx.1 hx.2,hap,ih]
  simp [pick]
theorem idx_nat {l:List Int} {j:Nat} (h:j < l.length):idx l (j:Int)=some (l.getD j 0):=by
 rw [idx_getD (by omega) (by omega)]; simp
theorem app_step (hs:smC c) (hN:nodesF bs c) (hc2:∀ k∈c.kids,smallS 400 k.shape) (h1:c.kind≠1) {p s:List (List Int)} {i:List Int} (hall:allL c.shape=p++i::s) (hlen:(allL c.shape).length≤100000) (acc:List Int) (hacc:acc.length≤100000) :
  QZ (allL c.shape,c.kids.map (arrF ss),c,acc,(p.length:Int))=QZ (allL c.shape,c.kids.map (arrF ss),c,acc++[valF ss c i],((p++[i]).length:Int)):=by
 obtain ⟨hn,hb,hkN⟩:=nodesF_f hN
 obtain ⟨f1,f2,f3,f4,f5⟩:=smC_f hs
 have hv:vld c.shape i=true:=mem_allL.1 (by rw [hall]; simp)
 have hl:=vld_len hv
 obtain ⟨k0,l0,ok,ef,_,_,hl2,hok⟩:=step_ok c i hs hn (fun k hm=>(nodesF_f (hkN k hm)).1) (by omega)
 have e0:=stepF_v h1 hv
 have hkd:=hn.kids
 rw [if_neg h1] at hkd
 have hne:∃ kid r,c.kids=kid::r:=by
  match e:c.kids with
  | []=>rw [e] at hkd; split at hkd <;> simp at hkd
  | kid::r=>exact ⟨kid,r,rfl⟩
 obtain ⟨kid,r,hk⟩:=hne
 have hkm:kid∈c.kids:=by rw [hk]; simp
 have hck:checkR kid.shape=0:=(nodesF_f (hkN kid hkm)).1.chk
 have hks:kidS c=kid.shape:=by unfold kidS; rw [hk]
 have i0:idx c.kids 0=some kid:=by rw [hk]; rfl
 have hn6:=hc2 kid hkm
 have hx:idx (allL c.shape) (p.length:Int)=some i:=by rw [hall]; exact QS
 have hlt:((p.length:Int) < ((allL c.shape).length:Int)):=by rw [hall]; exact Zm
 have ha0:app 8 ([]:List Int) i=some i:=app0_ok (by omega)
 have ia:idx (c.kids.map (arrF ss)) 0=some (arrF ss kid):=by rw [hk]; rfl
 have hw:W ((p.length:Int)+1)=((p++[i]).length:Int):=by
  have:p.length < (allL c.shape).length:=by omega
  rw [W_ok (by omega) (by omega)]; simp
 have hap:∀ v:Int,app 8 acc [v]=some (acc++[v]):=fun v=>app_le (by simp; omega) (by omega)
 have hcell:=fun j=>cell_ok (ss:=ss) (kid:=kid) hck j
 have hsh:(arrF ss kid).shape=kid.shape:=rfl
 have hkind:=hn.kind
 rw [QZ]
 simp only [hlt,if_true,hx,ha0,ia,Qj]
 by_cases h2:c.kind=2
 ·obtain ⟨n1,n2,n3⟩:=hn.win h2
  have n3:=n3 kid r hk
  have hL:=aWin_L2 i c (c.kids.map (arrF ss)) (allL c.shape) (p.length:Int) i acc (arrF ss kid) c.starts i [] [] rfl (by omega) rfl rfl (Sm_of (show ([]++c.starts).length≤1000 by simp; omega))
  simp only [List.nil_append,List.length_nil,Int.natCast_zero] at hL
  have hg:(addW i c.starts).length=i.length:=addW_len (by omega)
  have hval:(if vld kid.shape (addW i c.starts)=true then valF ss kid (addW i c.starts) else 0)=valF ss c i:=by
   have e:=e0.trans (stepV2 h2)
   rw [hks] at e
   by_cases hvv:vld kid.shape (addW i c.starts)=true
   ·rw [if_pos hvv] at e ⊢
    rw [hvv] at e
    exact (val_ok hs hN h1 e i0 hvv).symm
   ·rw [if_neg hvv] at e ⊢
    have hvf:vld kid.shape (addW i c.starts)=false:=by simpa using hvv
    rw [hvf] at e
    exact (val_no h1 e).symm
  simp only [h2,if_true,hL,Qj,guardM_ok hg,hcell,hval,hap,hw]
 ·simp only [h2,if_false]
  by_cases h3:c.kind=3
  ·obtain ⟨n1,n2,n3⟩:=hn.rev (Or.inl h3) kid r hk
   have e:=e0.trans (stepV3 h3)
   rw [e] at ef
   cases ef
   obtain ⟨kid',ik',vk,_⟩:=hok rfl
   rw [i0] at ik'; cases ik'
   have hvv:=val_ok (ss:=ss) hs hN h1 e i0 vk
   obtain ⟨j,hj⟩:=Int.eq_ofNat_of_zero_le n2
   have hjl:j < c.shape.length:=by omega
   have g:=vld_get hv j hjl
   obtain ⟨_,_,c3⟩:=checkR_ok hn.chk
   have d:c.shape.getD j 0≤65536:=by
    rw [List.getD_eq_getElem?_getD,List.getElem?_eq_getElem hjl]
    exact (c3 _ (List.getElem_mem _)).2
   have w:W (W (c.shape.getD j 0 - 1) - i.getD j 0)=c.shape.getD j 0 - 1 - i.getD j 0:=by
    rw [show W (c.shape.getD j 0 - 1)=c.shape.getD j 0 - 1 from W_ok (by omega) (by omega),W_ok (by omega) (by omega)]
   have hst:setM i (j:Int) (c.shape.getD j 0 - 1 - i.getD j 0)=some (i.set j (c.shape.getD j 0 - 1 - i.getD j 0)):=setM_ok (by omega)
   rw [hks,n1,hj,Int.toNat_natCast] at vk hvv
   simp only [h3,if_true,hsh,n1,hj,idx_nat hjl,idx_nat (l:=i) (show j < i.length by omega),Qj,w,hst,guardM_ok set_len,hcell,hap,hw]
   rw [vk,if_pos rfl,hvv]
  ·simp only [h3,if_false]
   by_cases h4:c.kind=4
   ·obtain ⟨n1,n2,n3⟩:=hn.rev (Or.inr h4) kid r hk
    obtain ⟨a1,a2⟩:=hn.rot h4
    have e:=e0.trans (stepV4 h4)
    rw [e] at ef
    cases ef
    obtain ⟨kid',ik',vk,_⟩:=hok rfl
    rw [i0] at ik'; cases ik'
    have hvv:=val_ok (ss:=ss) hs hN h1 e i0 vk
    obtain ⟨j,hj⟩:=Int.eq_ofNat_of_zero_le n2
    have hjl:j < c.shape.length:=by omega
    have g:=vld_get hv j hjl
    obtain ⟨_,_,c3⟩:=checkR_ok hn.chk
    have d:c.shape.getD j 0≤65536:=by
     rw [List.getD_eq_getElem?_getD,List.getElem?_eq_getElem hjl]
     exact (c3 _ (List.getElem_mem _)).2
    rw [hj,Int.toNat_natCast] at a2
    have w:W (i.getD j 0+c.amount)=i.getD j 0+c.amount:=W_ok (by omega) (by omega)
    have hst:∀ v:Int,setM i (j:Int) v=some (i.set j v):=fun v=>setM_ok (by omega)
    have hrem:remM (i.getD j 0+c.amount) (c.shape.getD j 0)=some ((i.getD j 0+c.amount) % c.shape.getD j 0):=remM_ok (by omega) (by omega)
    rw [hks,n1,hj,Int.toNat_natCast] at vk hvv
    simp only [h4,if_true,hsh,n1,hj,idx_nat hjl,idx_nat (l:=i) (show j < i.length by omega),Qj,w,hrem,hst,guardM_ok set_len,hcell,hap,hw]
    rw [vk,if_pos rfl,hvv]
   ·simp only [h4,if_false]
    by_cases h5:c.kind=5
    ·obtain ⟨n1,n2⟩:=hn.tra h5 kid r hk
     have e:=e0.trans (stepV5 h5)
     rw [e] at ef
     cases ef
     obtain ⟨kid',ik',vk,_⟩:=hok rfl
     rw [i0] at ik'; cases ik'
     have hvv:=val_ok (ss:=ss) hs hN h1 e i0 vk
     have hpm:∀ x∈c.perm,0≤x∧x < (i.length:Int):=by
      intro x hx
      obtain ⟨j,hj,rfl⟩:=List.getElem_of_mem hx
      have:=n2 (fun n hn=>((checkR_ok hck).2.2 n hn).1) j (by omega)
      rw [List.getD_eq_getElem?_getD,List.getElem?_eq_getElem hj,Option.getD_some] at this
      omega
     obtain ⟨g',hL⟩:=aTr_L3 c (allL c.shape) (p.length:Int) (c.kids.map (arrF ss)) acc i i (arrF ss kid) i hx c.perm [] [] 0 rfl hpm (by simp; omega) rfl
     simp only [List.nil_append,List.length_nil,Int.natCast_zero] at hL
     simp only [h5,if_true,hL,Qj,hcell,hap,hw]
     rw [vk,if_pos rfl,hvv]
    ·simp only [h5,if_false]
     by_cases h6:c.kind=6
     ·have e:=e0.trans (stepV6 h6)
      rw [hks] at e
      have hdl:(arrF ss kid).data.length=(allL kid.shape).length:=by unfold arrF; simp
      have hal:=len_allL hck
      have hr:=dotp_range hv
      have hpos:dotp c.shape i=(p.length:Int):=by
       have hj:p.length < (allL c.shape).length:=by omega
       have g:=get_allL hn.chk hj
       rw [hall] at g
       simp at g
       have h0:(p.length:Int) < prodI c.shape:=by have:=len_allL hn.chk; omega
       rw [g,dotp_dig (vld_pos hv) (by omega) h0]
      simp only [h6,if_true]
      by_cases hz:prodI kid.shape=0
      ·have hz2:((arrF ss kid).data.length:Int)=0:=by omega
       rw [if_pos hz] at e
       simp only [hz2,if_true,hap,Qj,hw,val_no (ss:=ss) h1 e]
      ·have hz2:¬ ((arrF ss kid).data.length:Int)=0:=by omega
       rw [if_neg hz] at e
       rw [e] at ef
       cases ef
       obtain ⟨kid',ik',vk,_⟩:=hok rfl
       rw [i0] at ik'; cases ik'
       have hvv:=val_ok (ss:=ss) hs hN h1 e i0 vk
       have hm0:=Int.emod_nonneg (p.length:Int) hz
       have hm1:=Int.emod_lt_of_pos (p.length:Int) (show 0 < prodI kid.shape by omega)
       have hrem:remM (p.length:Int) ((arrF ss kid).data.length:Int)=some ((p.length:Int) % prodI kid.shape):=by
        rw [show ((arrF ss kid).data.length:Int)=prodI kid.shape by omega]
        exact remM_ok (by omega) (by omega)
       have hid:idx (arrF ss kid).data ((p.length:Int) % prodI kid.shape)=some (valF ss c i):=by
        have hj:((p.length:Int) % prodI kid.shape).toNat < (allL kid.shape).length:=by omega
        unfold idx arrF
        rw [if_pos hm0,List.getElem?_map,get_allL hck hj,Int.toNat_of_nonneg hm0,hvv,hpos]
        rfl
       simp only [hz2,if_false,hrem,Qj,hid,hap,hw]
     ·have h7:c.kind=7:=by omega
      have gT:∀ inst:Decidable True,@Zo True inst=some ():=fun inst=>@guardM_ok _ inst trivial
      simp only [h6,if_false]
      simp only [h7,if_true]
      rw [if_pos h7] at hkd
      obtain ⟨k2,r2,hr2⟩:∃ k2 r2,r=k2::r2:=by
       cases r with
       | nil=>rw [hk] at hkd; simp at hkd
       | cons k2 r2=>exact ⟨k2,r2,rfl⟩
      rw [hr2] at hk
      obtain ⟨n1,n2,n3,n4,n5⟩:=hn.cat h7 kid k2 r2 hk
      obtain ⟨j,hj⟩:=Int.eq_ofNat_of_zero_le n3
      have hjl:j < kid.shape.length:=by omega
      have ia1:idx (c.kids.map (arrF ss)) 1=some (arrF ss k2):=by rw [hk]; rfl
      have i1:idx c.kids 1=some k2:=by rw [hk]; rfl
      have hck2:checkR k2.shape=0:=(nodesF_f (hkN k2 (by rw [hk]; simp))).1.chk
      have e:=e0.trans (stepV7 h7)
      rw [hks,hj,Int.toNat_natCast] at e
      have g:=vld_get hv j (by omega)
      have d:0≤kid.shape.getD j 0∧kid.shape.getD j 0≤65536:=by
       rw [List.getD_eq_getElem?_getD,List.getElem?_eq_getElem hjl]
       exact (checkR_ok hck).2.2 _ (List.getElem_mem _)
      have d2:c.shape.getD j 0≤65536:=by
       have hjc:j < c.shape.length:=by omega
       rw [List.getD_eq_getElem?_getD,List.getElem?_eq_getElem hjc]
       exact ((checkR_ok hn.chk).2.2 _ (List.getElem_mem _)).2
      simp only [hj,idx_nat (l:=i) (show j < i.length by omega),hsh,idx_nat hjl,Qj]
      by_cases hge:i.getD j 0 < kid.shape.getD j 0
      ·rw [if_pos hge] at e
       rw [e] at ef
       cases ef
       obtain ⟨kid',ik',vk,_⟩:=hok rfl
       rw [i0] at ik'; cases ik'
       have hvv:=val_ok (ss:=ss) hs hN h1 e i0 vk
       have hnge:¬ (i.getD j 0≥kid.shape.getD j 0):=by omega
       have hgg:i.length=i.length:=rfl
       have hc0:=hcell i
       rw [vk,if_pos rfl,← hvv] at hc0
       have hc1:Yz ((⟨kid.shape,(arrF ss kid).data⟩:Qo),i)=some (valF ss c i):=hc0
       simp only [hnge,if_false,Qj,gT,hc1,hap,hw]
      ·rw [if_neg hge] at e
       rw [e] at ef
       cases ef
       obtain ⟨kid',ik',vk,_⟩:=hok rfl
       rw [i1] at ik'; cases ik'
       have hvv:=val_ok (ss:=ss) hs hN h1 e i1 vk
       have hnge:(i.getD j 0≥kid.shape.getD j 0):=by omega
       have w:W (i.getD j 0 - kid.shape.getD j 0)=i.getD j 0 - kid.shape.getD j 0:=W_ok (by omega) (by omega)
       have hst:setM i (j:Int) (i.getD j 0 - kid.shape.getD j 0)=some (i.set j (i.getD j 0 - kid.shape.getD j 0)):=setM_ok (by omega)
       have hc0:=cell_ok (ss:=ss) hck2 (i.set j (i.getD j 0 - kid.shape.getD j 0))
       rw [vk,if_pos rfl,← hvv] at hc0
       have hc1:Yz ((⟨(arrF ss k2).shape,(arrF ss k2).data⟩:Qo),i.set j (i.getD j 0 - kid.shape.getD j 0))=some (valF ss c i):=hc0
       simp only [hnge,if_true,Qj,w,hst,ia1,guardM_ok set_len,hc1,hap,hw]
end
/-- sources that are right -/
structure srcF (bs:List (List Int)) (ss:List Ql):Prop where
 shp:bs=ss.map fun s=>s.value.shape
 dat:∀ s∈ss,(s.value.data.length:Int)=prodI s.value.shape
def elS (s:Ql):QB:=⟨s.name,s.value⟩
theorem src_get {bs:List (List Int)} {ss:List Ql} (h:srcF bs ss) {k:Int} {sh:List Int} (hk:idx bs k=some sh):∃ s,idx ss k=some s∧s.value.shape=sh∧(s.value.data.length:Int)=prodI sh∧ss.getD k.toNat noS=s:=by
 rw [h.shp] at hk
 unfold idx at hk
 split at hk
 ·rename_i h0
  rw [List.getElem?_map] at hk
  obtain ⟨s,e,rfl⟩:=Option.map_eq_some_iff.1 hk
  refine ⟨s,by unfold idx; rw [if_pos h0,e],rfl,h.dat s (List.mem_of_getElem? e),?_⟩
  rw [List.getD_eq_getElem?_getD,e]; rfl
 ·cases hk
theorem data_get {l:List Int} {o n:Int} (hl:(l.length:Int)=n) (h0:0≤o) (h1:o < n):idx l o=some (l.getD o.toNat 0):=idx_getD h0 (by omega)
section
variable {bs:List (List Int)} {ss:List Ql} {c:Qa}
theorem read_ok (hS:srcF bs ss) {t:Bool × Int × Int} (ht:t.1=false→∃ sh,idx bs t.2.1=some sh∧0≤t.2.2∧t.2.2 < prodI sh∧checkR sh=0) (cc:Qi) (rc:Qa) :
  Qb8 (⟨cc,ss.map elS⟩,cellP t)=some (rdF ss t)∧QaR (⟨rc,ss⟩,cellQ t)=some (rdF ss t):=by
 obtain ⟨f,b,o⟩:=t
 cases f with
 | true=>exact ⟨rfl,rfl⟩
 | false =>
  obtain ⟨sh,g1,g2,g3,g4⟩:=ht rfl
  simp only at g1 g2 g3
  obtain ⟨s,e1,e2,e3,e4⟩:=src_get hS g1
  have e5:idx (ss.map elS) b=some (elS s):=by
   unfold idx at e1 ⊢
   split at e1
   ·rename_i h0
    rw [if_pos h0,List.getElem?_map,e1]; rfl
   ·cases e1
  have e6:=data_get e3 g2 g3
  constructor
  ·simp only [Qb8,cellP,Bool.false_eq_true,if_false,e5,Qj,elS,e6,rdF,e4]
  ·simp only [QaR,cellQ,Bool.false_eq_true,if_false,e1,Qj,e6,rdF,e4]
theorem app_L1 (hs:smC c) (hN:nodesF bs c) (hc2:∀ k∈c.kids,smallS 400 k.shape) (h1:c.kind≠1) (hlen:(allL c.shape).length≤100000):∀ (s p:List (List Int)),allL c.shape=p++s →
  QZ (allL c.shape,c.kids.map (arrF ss),c,p.map (valF ss c),(p.length:Int))=some ((allL c.shape).map (valF ss c))
 | [],p,e=>by
  rw [List.append_nil] at e
  rw [QZ]
  have:¬ ((p.length:Int) < ((allL c.shape).length:Int)):=by rw [e]; omega
  rw [if_neg this,e]
 | i::s,p,e=>by
  have ih:=app_L1 hs hN hc2 h1 hlen s (p++[i]) (by rw [e]; simp)
  rw [app_step hs hN hc2 h1 e hlen _ (by rw [List.length_map]; rw [e] at hlen; simp at hlen; omega)]
  rw [List.map_append] at ih
  exact ih
theorem Apply_ok (hs:smC c) (hN:nodesF bs c) (hC:cellsF 400 c) (h1:c.kind≠1):J6 (c,c.kids.map (arrF ss))=some (arrF ss c):=by
 obtain ⟨hsh,hk⟩:=cellsF_f hC
 have hc:=(nodesF_f hN).1.chk
 have hl:=len_allL hc
 have hp:(allL c.shape).length≤100000:=by have:=hsh.2.2.1; omega
 have hA:=small_All hsh (by omega)
 have e:=app_L1 (ss:=ss) hs hN (fun k hk2=>(cellsF_f (hk k hk2)).1) h1 hp (allL c.shape) [] rfl
 simp only [List.map_nil,List.length_nil,Int.natCast_zero] at e
 unfold J6
 simp only [hA,Qj,e]
 rfl
theorem dir_L1 (rc:Qa) (hk:∀ k∈c.kids,YU (⟨rc,ss⟩,k)=some (arrF ss k)) (hl:c.kids.length≤1000):∀ (s p:List Qa),c.kids=p++s →
  Zv (c,⟨rc,ss⟩,p.map (arrF ss),(p.length:Int))=some (c.kids.map (arrF ss))
 | [],p,e=>by
  rw [Zv]
  rw [List.append_nil] at e
  have:¬ ((p.length:Int) < (c.kids.length:Int)):=by rw [e]; omega
  rw [if_neg this,e]
 | k::s,p,e=>by
  rw [Zv]
  have ih:=dir_L1 rc hk hl s (p++[k]) (by rw [e]; simp)
  have hkk:=hk k (by rw [e]; simp)
  have hlen:(p++k::s).length≤1000:=by rw [← e]; exact hl
  have hlt:((p.length:Int) < (c.kids.length:Int)):=by rw [e]; exact Zm
  have hi:idx c.kids (p.length:Int)=some k:=by rw [e]; exact QS
  have ha:app 48 (p.map (arrF ss)) ([arrF ss k]:List Qo)=some ((p++[k]).map (arrF ss)):=by
   rw [app_le (by simp at hlen ⊢; omega) (by omega),List.map_append]; rfl
  simp only [hlt,if_true,hi,Qj,hkk,ha,mid_W (Sm_of hlen),ih]
theorem Direct_ok (hS:srcF bs ss) (rc:Qa):∀ (n:Nat) (c:Qa),szC c≤n→smC c→nodesF bs c→cellsF 400 c→YU (⟨rc,ss⟩,c)=some (arrF ss c):=by
 intro n
 induction n with
 | zero=>intro c hz; have:=szC_pos c; omega
 | succ n ih =>
  intro c hz hs hN hC
  obtain ⟨hn,hb,hkN⟩:=nodesF_f hN
  rw [YU]
  by_cases h1:c.kind=1
  ·obtain ⟨s,e1,e2,e3,e4⟩:=src_get hS (hb h1)
   simp only [h1,if_true,e1,Qj]
   congr 1
   have hv:∀ i,valF ss c i=s.value.data.getD (dotp c.shape i).toNat 0:=by
    intro i
    unfold valF rdF
    rw [szC_f c,Nat.add_comm,origF,if_pos h1]
    simp only [Bool.false_eq_true,if_false,e4]
   have hd:=data_map (data:=s.value.data) hn.chk e3
   unfold arrF
   have:(allL c.shape).map (valF ss c)=s.value.data:=by
    rw [← hd]
    exact List.map_congr_left (fun i _=>hv i)
   rw [this,← e2]
  ·have hkl:c.kids.length≤1000:=by have:=(smC_f hs).2.2.2.1; omega
   have e:=dir_L1 (c:=c) (ss:=ss) rc (fun k hk=>ih k (by have:=szC_mem hk; have:=szC_f c; omega) (smC_kid hs hk) (hkN k hk) ((cellsF_f hC).2 k hk)) hkl c.kids [] rfl
   simp only [List.map_nil,List.length_nil,Int.natCast_zero] at e
   simp only [h1,if_false,e,Qj,etaR,Apply_ok (ss:=ss) hs hN hC h1]
theorem Value_ok (hS:srcF bs ss) (hs:smC c) (hN:nodesF bs c) {i:List Int} (hi:i.length≤1000):Qav (⟨conv c,ss.map elS⟩,i)=some (if vld c.shape i=true then (valF ss c i,true) else (0,false)):=by
 unfold Qav
 simp only [etaC,pOrigin_ok hs hN hi,Qj]
 cases hv:vld c.shape i with
 | false=>rfl
 | true =>
  have hr:=(read_ok hS (orig_L bs (szC c) c i (Nat.le_refl _) hs hN hv).2.2 (conv c) c).1
  unfold cellP at hr
  simp only [if_true,Bool.true_eq_false,if_false,cellP,hr,Qj]
  rfl
theorem At_ok (hN:nodesF bs c) (i:List Int):Qa8 (arrF ss c,i)=some (if vld c.shape i=true then (valF ss c i,true) else (0,false)):=by
 have hc:=(nodesF_f hN).1.chk
 obtain ⟨c1,c2,c3⟩:=checkR_ok hc
 have hS:Sm c.shape.length:=Sm_of (show c.shape.length≤1000 by omega)
 unfold Qa8 arrF
 dsimp only
 cases hv:vld c.shape i with
 | false =>
  simp only [rOff_no hv hS,Qj,show ((-1:Int) < 0) by decide,if_true,Bool.false_eq_true,if_false]
 | true =>
  have hr:=dotp_range hv
  have hn:¬ (dotp c.shape i < 0):=by omega
  have hi:idx ((allL c.shape).map (valF ss c)) (dotp c.shape i)=some (valF ss c i):=by
   unfold idx
   rw [if_pos hr.1,map_get hc hv]
  simp only [rOffset_ok hv c2 hS,Qj,hn,if_false,hi,if_true]
theorem den_L1 (hS:srcF bs ss) (hs:smC c) (hN:nodesF bs c) (rc:Qa):∀ (s p:List (List Int)),(∀ i∈s,vld c.shape i=true)→(p++s).length≤100000 →
  Z8 ((p++s).map (fun i=>cellQ (origF (szC c) c i)),⟨rc,ss⟩,p.map (valF ss c),(p.length:Int))=some ((p++s).map (valF ss c))
 | [],p,h,hp=>by
  rw [Z8]
  have:¬ ((p.length:Int) < (((p++[]).map (fun i=>cellQ (origF (szC c) c i))).length:Int)):=by simp
  rw [if_neg this,List.append_nil]
 | x::s,p,h,hp=>by
  rw [Z8]
  have ih:=den_L1 hS hs hN rc s (p++[x]) (fun i hi=>h i (List.mem_cons_of_mem _ hi)) (by rw [← QM]; exact hp)
  rw [← QM,List.map_append (l₁:=p) (l₂:=[x])] at ih
  have hlt:((p.length:Int) < (((p++x::s).map (fun i=>cellQ (origF (szC c) c i))).length:Int)):=by rw [List.length_map]; exact Zm
  have hi:idx ((p++x::s).map (fun i=>cellQ (origF (szC c) c i))) (p.length:Int)=some (cellQ (origF (szC c) c x)):=by simp [idx]
  have hr:=(read_ok hS (orig_L bs (szC c) c x (Nat.le_refl _) hs hN (h x (List.mem_cons_self ..))).2.2 (conv c) rc).2
  have ha:app 8 (p.map (valF ss c)) [rdF ss (origF (szC c) c x)]=some (p.map (valF ss c)++[x].map (valF ss c)):=by
   rw [app_le (by simp at hp ⊢; omega) (by omega)]; rfl
  simp only [hlt,if_true,hi,Qj,hr,ha,mid_W (Sm_of hp)]
  exact ih
theorem rDenote_ok (hS:srcF bs ss) (hs:smC c) (hN:nodesF bs c) (hC:cellsF 400 c):JC ⟨c,ss⟩=some (arrF ss c):=by
 obtain ⟨hsh,_⟩:=cellsF_f hC
 have hc:=(nodesF_f hN).1.chk
 have hl:=len_allL hc
 have hp:(allL c.shape).length≤100000:=by have:=hsh.2.2.1; omega
 have e2:=rOrigins_ok hs hN (small_All hsh (by omega)) hp
 have e:=den_L1 (ss:=ss) hS hs hN c (allL c.shape) [] (fun i hi=>mem_allL.1 hi) hp
 simp only [List.map_nil,List.length_nil,Int.natCast_zero,List.nil_append] at e
 unfold JC
 simp only [etaR,e2,Qj,e]
 rfl
/-! the program's denotation -/
theorem each_L1 (hS:srcF bs ss) (hs:smC c) (hN:nodesF bs c) (v4:List Int) (hv4:v4.length=(allL c.shape).length) (hp:(allL c.shape).length≤100000):∀ (s p:List (List Int)),allL c.shape=p++s →
  Zr (v4,c.shape,c.kind,c.shape,c.buffer,c.starts,c.axis,c.amount,c.perm,convs c.kids,ss.map elS,p.map (valF ss c)++List.replicate s.length 0,(p.length:Int))=some ((allL c.shape).map (valF ss c))
 | [],p,e=>by
  rw [List.append_nil] at e
  rw [Zr]
  have:¬ ((p.length:Int) < (v4.length:Int)):=by rw [hv4,e]; omega
  rw [if_neg this,List.length_nil,List.replicate_zero,List.append_nil,e]
 | x::s,p,e=>by
  rw [Zr]
  have hc:=(nodesF_f hN).1.chk
  have hl:=len_allL hc
  have ih:=each_L1 hS hs hN v4 hv4 hp s (p++[x]) (by rw [e]; simp)
  have hj:p.length < (allL c.shape).length:=by rw [e]; simp
  have hx:vld c.shape x=true:=mem_allL.1 (by rw [e]; simp)
  have hg:=get_allL hc hj
  have hxd:x=dig c.shape (p.length:Int):=by
   rw [e] at hg; simp at hg; exact hg
  have hgi:=gIndex_ok hc (vld_pos hx) (show (0:Int)≤(p.length:Int) by omega) (show (p.length:Int) < prodI c.shape by omega)
  rw [← hxd] at hgi
  have hlt:((p.length:Int) < (v4.length:Int)):=by rw [hv4]; omega
  have hxl:=vld_len hx
  have hc1:=(checkR_ok hc).1
  have hV:=Value_ok (c:=c) hS hs hN (i:=x) (by omega)
  rw [hx,if_pos rfl] at hV
  have he:YR (x,c.kind,c.shape,c.buffer,c.starts,c.axis,c.amount,c.perm,convs c.kids,ss.map elS,p.map (valF ss c)++List.replicate (x::s).length 0,c.shape,v4.length)=some (valF ss c x):=by
   unfold YR
   simp only [conv_eta,hV,Qj]
  have hlen:(p.map (valF ss c)++List.replicate (x::s).length (0:Int)).length=v4.length:=by rw [hv4,e]; simp
  have hset:setM (p.map (valF ss c)++List.replicate (x::s).length (0:Int)) (p.length:Int) (valF ss c x)=some ((p++[x]).map (valF ss c)++List.replicate s.length 0):=by
   rw [setM_ok (by simp)]
   congr 1
   rw [List.length_cons,List.replicate_succ]
   have:=mid_set (p:=p.map (valF ss c)) (s:=List.replicate s.length (0:Int)) (x:=0) (y:=valF ss c x)
   rw [List.length_map] at this
   rw [this]; simp
  have hidx:∃ v,idx (p.map (valF ss c)++List.replicate (x::s).length (0:Int)) (p.length:Int)=some v:=by
   have h2:p.length < (p.map (valF ss c)++List.replicate (x::s).length (0:Int)).length:=by simp
   exact ⟨_,idx_ok h2⟩
  obtain ⟨v,hidx⟩:=hidx
  have hT:Yb ((p.length:Int),x,c.kind,c.shape,c.buffer,c.starts,c.axis,c.amount,c.perm,convs c.kids,ss.map elS,p.map (valF ss c)++List.replicate (x::s).length 0,c.shape,v4.length)=some ((p++[x]).map (valF ss c)++List.replicate s.length 0):=by
   unfold Yb
   simp only [he,Qj,guardM_ok hlen,hidx,hset]
  have hw:W ((p.length:Int)+1)=((p++[x]).length:Int):=by
   rw [W_ok (by omega) (by omega)]; simp
  simp only [hlt,if_true,hgi,Qj,hT,hw]
  exact ih
theorem make_le {n:Int} (h0:0≤n) (h:n≤100000):makeM 8 n (0:Int)=some (List.replicate n.toNat 0):=by
 have hr:100000 * 8≤room:=by decide +kernel
 unfold makeM
 rw [if_pos ⟨h0,by show n * 8≤(room:Int); omega,by omega⟩]
theorem Denote_ok (hS:srcF bs ss) (hs:smC c) (hN:nodesF bs c) (hC:cellsF 400 c):QaE ⟨conv c,ss.map elS⟩=some (arrF ss c):=by
 obtain ⟨hsh,_⟩:=cellsF_f hC
 have hc:=(nodesF_f hN).1.chk
 obtain ⟨c1,c2,c3⟩:=checkR_ok hc
 have hl:=len_allL hc
 have hp:(allL c.shape).length≤100000:=by have:=hsh.2.2.1; omega
 have hSm:Sm c.shape.length:=Sm_of (show c.shape.length≤1000 by omega)
 have e0:=each_L1 (ss:=ss) hS hs hN (List.replicate (prodI c.shape).toNat 0) (by simp; omega) hp (allL c.shape) [] rfl
 simp only [List.map_nil,List.length_nil,Int.natCast_zero,List.nil_append] at e0
 rw [show (allL c.shape).length=(prodI c.shape).toNat by omega] at e0
 have hcp:Xn c.shape=some c.shape:=by
  unfold Xn
  have hcc:cpM (List.replicate c.shape.length (0:Int)) c.shape=c.shape:=by unfold cpM; simp
  have hg:c.shape.length=(List.replicate c.shape.length (0:Int)).length:=by simp
  simp only [make_ok (show c.shape.length≤1000 by omega),Qj,guardM_ok hg,hcc]
 have hcells:YN c.shape=some (prodI c.shape):=by rw [gCells_ok c.shape hSm,cellsR,if_pos hc]
 have hmk:=make_le (n:=prodI c.shape) (by omega) (by omega)
 have hq:=convF c
 have hq2:(conv c).starts=c.starts∧(conv c).axis=c.axis∧(conv c).amount=c.amount∧(conv c).perm=c.perm:=by cases c; exact ⟨rfl,rfl,rfl,rfl⟩
 have hn0:¬ ((0:Int)≠0):=by simp
 unfold QaE Xa X9
 simp only [hq.1,hq.2.1,hq.2.2.1,hq.2.2.2,hq2.1,hq2.2.1,hq2.2.2.1,hq2.2.2.2,shapeCheck_ok c.shape hSm,hc,hn0,if_false,Qj,hcp,hcells,hmk,e0]
 rw [guardM_ok (by simp; omega)]
 rfl
theorem eqA_L1 (a:Qo) (hs:a.data.length≤1000000):∀ m i:Nat,i+m=a.data.length→Yo (a,a,(i:Int))=some (.inr ())
 | 0,i,h=>by
  rw [Yo]
  have:¬ ((i:Int) < (a.data.length:Int)):=by omega
  simp only [this,if_false]
 | m+1,i,h=>by
  rw [Yo]
  have h1:((i:Int) < (a.data.length:Int)):=by omega
  have e:=eqA_L1 a hs m (i+1) (by omega)
  have w:W ((i:Int)+1)=((i+1:Nat):Int):=W_succ (by omega)
  have hi:idx a.data (i:Int)=some a.data[i]:=idx_ok (by omega)
  simp only [h1,if_true,hi,Qj,ne_eq,not_true_eq_false,if_false,w,e]
theorem eqA (a:Qo) (h1:a.shape.length≤1000) (h2:a.data.length≤1000000):XI (a,a)=some true:=by
 unfold XI
 have e:=eqA_L1 a h2 a.data.length 0 (by omega)
 simp only [Int.natCast_zero] at e
 simp only [Equal_ok' a.shape a.shape (Sm_of h1),decide_true,Qj,Bool.true_eq_false,if_false,bne_self_eq_false,Bool.false_eq_true,e]
theorem prog_L1 (p0:Qv) (cc:Qi) (hl:p0.sources.length≤1000):∀ (s p:List Ql),p0.sources=p++s→ZN (p0,cc,p.map elS,(p.length:Int))=some (p0.sources.map elS)
 | [],p,e=>by
  rw [ZN]
  rw [List.append_nil] at e
  have:¬ ((p.length:Int) < (p0.sources.length:Int)):=by rw [e]; omega
  rw [if_neg this,e]
 | k::s,p,e=>by
  rw [ZN]
  have ih:=prog_L1 p0 cc hl s (p++[k]) (by rw [e]; simp)
  have hlen:(p++k::s).length≤1000:=by rw [← e]; exact hl
  have hlt:((p.length:Int) < (p0.sources.length:Int)):=by rw [e]; exact Zm
  have hi:idx p0.sources (p.length:Int)=some k:=by rw [e]; exact QS
  have ha:app 64 (p.map elS) ([(⟨k.name,k.value⟩:QB)]:List QB)=some ((p++[k]).map elS):=by
   rw [app_le (by simp at hlen ⊢; omega) (by omega),List.map_append]; rfl
  simp only [hlt,if_true,hi,Qj,ha,mid_W (Sm_of hlen),ih]
theorem Program_ok (hs:smC c) (hl:ss.length≤1000):Jl ⟨c,ss⟩=some ⟨conv c,ss.map elS⟩:=by
 have e:=prog_L1 ⟨c,ss⟩ (conv c) hl ss [] rfl
 simp only [List.map_nil,List.length_nil,Int.natCast_zero] at e
 unfold Jl
 simp only [etaR,Core_ok c hs,Qj,e]
end
mutual
def szT:Qh→Nat
 | ⟨_,_,_,_,_,kids⟩=>1+szTs kids
def szTs:List Qh→Nat
 | []=>0
 | k::ks=>szT k+szTs ks
end
mutual
def numT:Qh→Nat
 | ⟨_,_,_,_,nums,kids⟩=>nums.length+numTs kids
def numTs:List Qh→Nat
 | []=>0
 | k::ks=>numT k+numTs ks
end
mutual
def depT:Qh→Nat
 | ⟨_,_,_,_,_,kids⟩=>depTs kids+1
def depTs:List Qh→Nat
 | []=>0
 | k::ks=>max (depT k) (depTs ks)
end
theorem szT_pos:∀ t:Qh,1≤szT t
 | ⟨_,_,_,_,_,kids⟩=>by rw [szT]; omega
theorem szTs_len:∀ l:List Qh,l.length≤szTs l
 | []=>Nat.zero_le _
 | k::ks=>by have:=szTs_len ks; have:=szT_pos k; rw [szTs]; simp only [List.length_cons]; omega
mutual
theorem depT_le:∀ t:Qh,depT t≤szT t
 | ⟨_,_,_,_,_,kids⟩=>by have:=depTs_le kids; rw [depT,szT]; omega
theorem depTs_le:∀ l:List Qh,depTs l≤szTs l
 | []=>Nat.le_refl _
 | k::ks=>by have:=depT_le k; have:=depTs_le ks; rw [depTs,szTs]; omega
end
mutual
theorem tleft_ok:∀ (t:Qh) (n:Int),0≤n→n≤600→Ja (t,n)=some (max (n - (szT t:Int)) (-1))
 | ⟨k,f,a,nm,nu,ks⟩,n,h1,h2=>by
  rw [Ja]
  have w:W (n - 1)=n - 1:=W_ok (by omega) (by omega)
  have e:=tleft_loop ks [] (n - 1) k f a nm nu (by omega) (by simp; omega)
  simp only [List.nil_append,List.length_nil,Int.natCast_zero] at e
  rw [w,e,Qj,szT]
  congr 1; omega
theorem tleft_loop:∀ (s p:List Qh) (n:Int) (k f a:Int) (nm:ByteArray) (nu:List Int),-1≤n→(p.length:Int)+n≤600 →
  ZQ (⟨k,f,a,nm,nu,p++s⟩,n,(p.length:Int))=some (max (n - (szTs s:Int)) (-1))
 | [],p,n,k,f,a,nm,nu,h1,h2=>by
  rw [ZQ]
  simp only [Ya,if_false,Qj,Bool.false_eq_true,szTs]
  congr 1; omega
 | x::s,p,n,k,f,a,nm,nu,h1,h2=>by
  rw [ZQ]
  simp only [Zm,if_true,Qj]
  by_cases hn:n≥0
  ·rw [decide_eq_true hn]
   have e:=tleft_ok x n hn (by omega)
   have e':=tleft_loop s (p++[x]) (max (n - (szT x:Int)) (-1)) k f a nm nu (by omega) (by have:=szT_pos x; simp; omega)
   rw [← QM] at e'
   have w:W ((p.length:Int)+1)=((p++[x]).length:Int):=by rw [W_ok (by omega) (by omega)]; simp
   simp only [if_true,QS,Qj,e,w,e',szTs]
   congr 1; omega
  ·rw [decide_eq_false hn]
   simp only [Bool.false_eq_true,if_false,szTs]
   congr 1; omega
end
mutual
theorem tdep_ok:∀ (t:Qh),szT t≤600→Xd t=some (depT t:Int)
 | ⟨k,f,a,nm,nu,ks⟩,h=>by
  rw [Xd]
  rw [szT] at h
  have e:=tdep_loop ks [] 0 k f a nm nu (by have:=szTs_len ks; simp; omega) (by omega) (by omega)
  simp only [List.nil_append,List.length_nil,Int.natCast_zero] at e
  have:=depTs_le ks
  simp only [e,Qj,depT]
  rw [W_ok (by omega) (by omega)]
  congr 1
  first|done|omega
theorem tdep_loop:∀ (s p:List Qh) (m:Nat) (k f a:Int) (nm:ByteArray) (nu:List Int),(p++s).length≤600→szTs s≤600→m≤600 →
  ZF (⟨k,f,a,nm,nu,p++s⟩,(m:Int),(p.length:Int))=some ((max m (depTs s):Nat):Int)
 | [],p,m,k,f,a,nm,nu,h1,h2,h3=>by
  rw [ZF]
  simp only [Ya,if_false,depTs,Nat.max_zero]
 | x::s,p,m,k,f,a,nm,nu,h1,h2,h3=>by
  rw [ZF]
  rw [szTs] at h2
  have e:=tdep_ok x (by omega)
  have hd:=depT_le x
  have e':=tdep_loop s (p++[x]) (max m (depT x)) k f a nm nu (by simpa using h1) (by omega) (by omega)
  rw [← QM] at e'
  have w:W ((p.length:Int)+1)=((p++[x]).length:Int):=mid_W (Sm_of h1)
  have hx:(if (m:Int) < (depT x:Int) then (depT x:Int) else (m:Int))=((max m (depT x):Nat):Int):=by split <;> omega
  simp only [Zm,if_true,QS,Qj,e,w,hx,e',depTs]
  congr 1; omega
end
mutual
theorem tnum_ok:∀ (t:Qh),szT t≤600→numT t≤1000000000000000000→Y0 t=some (numT t:Int)
 | ⟨k,f,a,nm,nu,ks⟩,h,h2=>by
  rw [Y0]
  rw [szT] at h
  rw [numT] at h2
  have e:=tnum_loop ks [] nu.length k f a nm nu (by have:=szTs_len ks; simp; omega) (by omega) (by omega)
  simp only [List.nil_append,List.length_nil,Int.natCast_zero] at e
  simp only [e,Qj,numT]
theorem tnum_loop:∀ (s p:List Qh) (m:Nat) (k f a:Int) (nm:ByteArray) (nu:List Int),(p++s).length≤600→szTs s≤600→m+numTs s≤1000000000000000000 →
  Zk (⟨k,f,a,nm,nu,p++s⟩,(m:Int),(p.length:Int))=some ((m+numTs s:Nat):Int)
 | [],p,m,k,f,a,nm,nu,h1,h2,h3=>by
  rw [Zk]
  simp only [Ya,if_false,numTs,Nat.add_zero]
 | x::s,p,m,k,f,a,nm,nu,h1,h2,h3=>by
  rw [Zk]
  rw [szTs] at h2
  rw [numTs] at h3
  have e:=tnum_ok x (by omega) (by omega)
  have e':=tnum_loop s (p++[x]) (m+numT x) k f a nm nu (by simpa using h1) (by omega) (by omega)
  rw [← QM] at e'
  have w:W ((p.length:Int)+1)=((p++[x]).length:Int):=mid_W (Sm_of h1)
  have hx:W ((m:Int)+(numT x:Int))=((m+numT x:Nat):Int):=by rw [W_ok (by omega) (by omega)]; omega
  simp only [Zm,if_true,QS,Qj,e,w,hx,e',numTs,Nat.add_assoc]
end
/-- few nodes and numbers -/
def fewT (t:Qh):Prop:=szT t≤40∧depT t≤150∧numT t≤400
theorem tFew_ok (t:Qh) (hb:numT t≤szT t * 140737488351232):∃ b,Qbt (t,40)=some b∧(b=true↔fewT t):=by
 unfold Qbt
 simp only [tleft_ok t 40 (by omega) (by omega),Qj]
 by_cases h:szT t≤40
 ·have h0:max ((40:Int) - (szT t:Int)) (-1)≥0:=by omega
  have hn:numT t≤1000000000000000000:=Nat.le_trans hb (Nat.le_trans (Nat.mul_le_mul_right _ h) (by decide))
  have w:W (10 * 40)=400:=by decide
  simp only [h0,if_true,tdep_ok t (by omega),tnum_ok t (by omega) hn,Qj,w]
  by_cases hd:(depT t:Int)≤150
  ·rw [decide_eq_true hd]
   simp only [if_true]
   refine ⟨_,rfl,?_⟩
   unfold fewT
   simp only [decide_eq_true_eq]
   omega
  ·rw [decide_eq_false hd]
   simp only [Bool.false_eq_true,if_false]
   exact ⟨_,rfl,fun h=>(by cases h),fun h=>by unfold fewT at h; omega⟩
 ·have h0:¬ max ((40:Int) - (szT t:Int)) (-1)≥0:=by omega
  simp only [h0,if_false,Qj,Bool.false_eq_true]
  exact ⟨_,rfl,fun h=>(by cases h),fun h'=>by unfold fewT at h'; omega⟩
theorem ite_som {c:Prop} [Decidable c] {α:Type} (a b:α):(if c then some a else some b)=some (if c then a else b):=by split <;> rfl
theorem letter_tot (v:Int):∃ b,XZ v=some b:=by
 unfold XZ
 simp only [ite_som,Qj]
 exact ⟨_,rfl⟩
theorem digit_tot (v:Int):∃ b,J4 v=some b:=by
 unfold J4
 simp only [ite_som,Qj]
 exact ⟨_,rfl⟩
theorem sidx_ok {b:ByteArray} {i:Nat} (h:i < b.size):∃ v,sidx b (i:Int)=some v:=by
 unfold sidx
 rw [if_pos (by omega)]
 have h2:((i:Int)).toNat < b.data.size:=by have:b.data.size=b.size:=rfl; omega
 rw [Array.getElem?_eq_getElem h2]
 exact ⟨_,rfl⟩
theorem end_tot (s:ByteArray) (hs:s.size≤1000000000000000000):∀ m i:Nat,i+m=s.size→∃ r,YQ (s,(i:Int))=some r
 | 0,i,h=>by
  rw [YQ]
  have:¬ ((i:Int) < (s.size:Int)):=by omega
  simp only [this,if_false,Qj,Bool.false_eq_true]
  exact ⟨_,rfl⟩
 | m+1,i,h=>by
  rw [YQ]
  have h1:((i:Int) < (s.size:Int)):=by omega
  obtain ⟨v,e⟩:=sidx_ok (b:=s) (i:=i) (by omega)
  obtain ⟨b,eb⟩:=letter_tot v
  obtain ⟨c,ec⟩:=digit_tot v
  obtain ⟨r,er⟩:=end_tot s hs m (i+1) (by omega)
  have w:W ((i:Int)+1)=((i+1:Nat):Int):=W_succ (by omega)
  simp only [h1,if_true,e,eb,ec,Qj,w,er,ite_som]
  split
  ·exact ⟨_,rfl⟩
  ·exact ⟨_,rfl⟩
theorem name_tot (s:ByteArray) (hs:s.size≤1000000000000000000):∃ b,X5 s=some b:=by
 unfold X5
 simp only []
 by_cases h:(s.size:Int) > 0
 ·obtain ⟨v,e⟩:=sidx_ok (b:=s) (i:=0) (by omega)
  simp only [Int.natCast_zero] at e
  obtain ⟨b,eb⟩:=letter_tot v
  obtain ⟨r,er⟩:=end_tot s hs s.size 0 (by omega)
  simp only [Int.natCast_zero] at er
  simp only [h,if_true,e,eb,Qj]
  cases b
  ·simp only [Bool.false_eq_true,if_false]; exact ⟨_,rfl⟩
  ·simp only [if_true,Qch,er,Qj]; exact ⟨_,rfl⟩
 ·simp only [h,if_false,Qj,Bool.false_eq_true]; exact ⟨_,rfl⟩
def noT:Qh:=⟨0,0,0,ByteArray.empty,[],[]⟩
def axF (a:Int):Prop:=0≤a∧a≤15
/-- a node as the chapter permits -/
def formF (t:Qh):Prop :=
 (t.kind=1∧t.fn=0∧t.axis=-1∧t.name=ByteArray.empty∧t.kids.length=0) ∨
 (t.kind=2∧t.fn=0∧t.axis=-1∧X5 t.name=some true∧t.nums.length=0∧t.kids.length=0) ∨
 (t.kind=3∧t.name=ByteArray.empty∧t.nums.length=0∧t.kids.length=1∧((t.fn=3∧(t.axis=-1∨axF t.axis))∨((t.fn=4∨t.fn=6)∧t.axis=-1))) ∨
 (t.kind=4∧t.name=ByteArray.empty∧t.nums.length=0∧t.kids.length=2∧1≤t.fn∧t.fn≤6∧(t.axis=-1∨(axF t.axis∧(t.fn=3∨t.fn=6)))∧(t.fn=6∨(t.kids.getD 0 noT).kind=1∨(t.kids.getD 0 noT).kind=2))
set_option maxHeartbeats 4000000 in
theorem tnode_ok (t:Qh) (hs:t.name.size≤1000000000000000000):∃ b,QaI t=some b∧(b=true↔formF t):=by
 obtain ⟨k,f,a,nm,nu,ks⟩:=t
 obtain ⟨nb,en⟩:=name_tot nm hs
 unfold QaI
 simp only [ite_som,Qj]
 by_cases h1:k=1
 ·subst h1
  simp only [if_true,ite_som,Qj]
  refine ⟨_,rfl,?_⟩
  simp only [formF,axF]
  by_cases c1:f=0 <;> by_cases c2:a=-1 <;> by_cases c3:nm=ByteArray.empty <;> simp [c1,c2,c3] <;> omega
 ·by_cases h2:k=2
  ·subst h2
   simp only [if_neg h1,if_true,ite_som,Qj,en]
   refine ⟨_,rfl,?_⟩
   simp only [formF,axF,en]
   cases nb <;> by_cases c1:f=0 <;> by_cases c2:a=-1 <;> by_cases c3:nu=[] <;> simp [c1,c2,c3]
  ·by_cases h3:k=3
   ·subst h3
    simp only [if_neg h1,if_neg h2,if_true,ite_som,Qj]
    refine ⟨_,rfl,?_⟩
    simp only [formF,axF]
    by_cases c1:nm=ByteArray.empty <;> by_cases c2:nu=[] <;> by_cases c3:ks.length=1 <;> by_cases c4:f=3 <;> by_cases c5:a=-1 <;> simp [c1,c2,c3,c4,c5] <;> (try omega)
   ·by_cases h4:k=4
    ·subst h4
     simp only [if_neg h1,if_neg h2,if_neg h3,if_true,ite_som,Qj]
     match ks with
     | [x,y] =>
      have i0:idx [x,y] 0=some x:=rfl
      simp only [i0,ite_som,Qj]
      refine ⟨_,rfl,?_⟩
      simp only [formF,axF]
      by_cases c1:nm=ByteArray.empty <;> by_cases c2:nu=[] <;> by_cases c3:f=6 <;> by_cases c4:f=3 <;> by_cases c5:a=-1 <;> simp [c1,c2,c3,c4,c5] <;> (try omega)
     | [] =>
      simp [formF]
     | [x]=>
      simp [formF]
     | x::y::z::r =>
      simp [formF]
      intro _ _ h
      omega
    ·simp only [if_neg h1,if_neg h2,if_neg h3,if_neg h4]
     exact ⟨_,rfl,fun h=>(by cases h),fun h=>by simp only [formF] at h; omega⟩
mutual
def good:Qh→Prop
 | ⟨k,f,a,nm,nu,ks⟩=>formF ⟨k,f,a,nm,nu,ks⟩∧goods ks
def goods:List Qh→Prop
 | []=>True
 | k::ks=>good k∧goods ks
end
/-- names are no longer than a machine can hold -/
def nmOk (n:Nat):Prop:=n≤1000000000000000000
mutual
def namesOk:Qh→Prop
 | ⟨_,_,_,nm,_,ks⟩=>nmOk nm.size∧namesOks ks
def namesOks:List Qh→Prop
 | []=>True
 | k::ks=>namesOk k∧namesOks ks
end
mutual
theorem tnodes_ok:∀ (t:Qh),szT t≤600→namesOk t→∃ b,XE t=some b∧(b=true↔good t)
 | ⟨k,f,a,nm,nu,ks⟩,h,hn=>by
  rw [szT] at h
  rw [namesOk] at hn
  obtain ⟨b,e,hb⟩:=tnode_ok ⟨k,f,a,nm,nu,ks⟩ hn.1
  have hl:=szTs_len ks
  obtain ⟨r,e2,hr⟩:=tnodes_loop ks [] k f a nm nu (by simp; omega) (by omega) hn.2
  simp only [List.nil_append,List.length_nil,Int.natCast_zero] at e2
  rw [XE]
  simp only [e,Qj,good,← hb,← hr]
  cases b with
  | false=>exact ⟨_,rfl,fun h=>(by cases h),fun h=>(by cases h.1)⟩
  | true =>
   simp only [Bool.true_eq_false,if_false,e2,Qj,true_and]
   cases r with
   | inl u=>exact ⟨_,rfl,fun h=>(by cases h),fun h=>(by cases h)⟩
   | inr u=>exact ⟨_,rfl,fun _=>rfl,fun _=>rfl⟩
theorem tnodes_loop:∀ (s p:List Qh) (k f a:Int) (nm:ByteArray) (nu:List Int),(p++s).length≤600→szTs s≤600→namesOks s →
  ∃ r,ZE (⟨k,f,a,nm,nu,p++s⟩,(p.length:Int))=some r∧(r=.inr ()↔goods s)
 | [],p,k,f,a,nm,nu,h1,h2,h3=>by
  rw [ZE]
  simp only [Ya,if_false,goods]
  exact ⟨_,rfl,fun _=>trivial,fun _=>rfl⟩
 | x::s,p,k,f,a,nm,nu,h1,h2,h3=>by
  rw [ZE]
  rw [szTs] at h2
  rw [namesOks] at h3
  obtain ⟨b,e,hb⟩:=tnodes_ok x (by omega) h3.1
  obtain ⟨r,e',hr⟩:=tnodes_loop s (p++[x]) k f a nm nu (by simpa using h1) (by omega) h3.2
  rw [← QM] at e'
  have w:W ((p.length:Int)+1)=((p++[x]).length:Int):=mid_W (Sm_of h1)
  simp only [Zm,if_true,QS,Qj,e,w,goods,← hb,← hr]
  cases b with
  | false=>exact ⟨_,rfl,fun h=>(by cases h),fun h=>(by cases h.1)⟩
  | true=>exact ⟨r,e',fun h=>⟨rfl,h⟩,fun h=>h.2⟩
end
theorem etaT (t:Qh):(⟨t.kind,t.fn,t.axis,t.name,t.nums,t.kids⟩:Qh)=t:=by cases t; rfl
theorem tRight_ok (t:Qh) (h:szT t≤300) (hn:namesOk t):∃ b,Qab t=some b∧(b=true↔depT t≤100∧good t):=by
 obtain ⟨b,e,hb⟩:=tnodes_ok t (by omega) hn
 unfold Qab
 simp only [tdep_ok t (by omega),Qj]
 by_cases hd:(depT t:Int)≤100
 ·simp only [hd,if_true,etaT,e,Qj]
  exact ⟨_,rfl,by rw [hb]; exact ⟨fun h=>⟨by omega,h⟩,fun h=>h.2⟩⟩
 ·simp only [hd,if_false]
  exact ⟨_,rfl,fun h=>(by cases h),fun h=>(by omega)⟩
theorem tSmall_ok (t:Qh) (hb:numT t≤szT t * 140737488351232) (hn:namesOk t):∃ b,J8 (t,40)=some b∧(b=true↔fewT t∧depT t≤100∧good t):=by
 obtain ⟨b,e,h⟩:=tFew_ok t hb
 unfold J8
 simp only [e,Qj]
 cases b with
 | false=>
  simp only [Bool.false_eq_true,if_false]
  exact ⟨_,rfl,fun h=>(by cases h),fun h'=>h.2 h'.1⟩
 | true =>
  obtain ⟨c,e2,h2⟩:=tRight_ok t (by have:=(h.1 rfl).1; omega) hn
  simp only [if_true,etaT,e2,Qj]
  exact ⟨_,rfl,by rw [h2]; exact ⟨fun h'=>⟨h.1 rfl,h'⟩,fun h'=>h'.2⟩⟩
theorem szT_f (t:Qh):szT t=1+szTs t.kids:=by cases t; rw [szT]
theorem numT_f (t:Qh):numT t=t.nums.length+numTs t.kids:=by cases t; rw [numT]
theorem good_f {t:Qh}:good t↔formF t∧goods t.kids:=by cases t; rw [good]
theorem kids1 {t:Qh} (h:t.kids.length=1):∃ k,t.kids=[k]:=by
 match e:t.kids,h with
 | [k],_=>exact ⟨k,rfl⟩
theorem kids2 {t:Qh} (h:t.kids.length=2):∃ l k,t.kids=[l,k]:=by
 match e:t.kids,h with
 | [l,k],_=>exact ⟨l,k,rfl⟩
theorem goods1 {k:Qh}:goods [k]↔good k:=by rw [goods,goods]; simp
theorem goods2 {l k:Qh}:goods [l,k]↔good l∧good k:=by rw [goods,goods,goods]; simp
theorem sz1 (k:Qh):szTs [k]=szT k∧numTs [k]=numT k∧depTs [k]=depT k:=by simp [szTs,numTs,depTs]
theorem sz2 (l k:Qh):szTs [l,k]=szT l+szT k∧numTs [l,k]=numT l+numT k∧depTs [l,k]=max (depT l) (depT k):=by simp [szTs,numTs,depTs]
/-- right bindings -/
def bndF (l:List Qn):Prop:=l.length≤12∧∀ b∈l,(b.value.data.length:Int)=prodI b.value.shape∧b.value.shape.length≤16∧b.value.data.length≤300
theorem get_tot (l:List Qn) (nm:ByteArray) (hl:l.length≤1000):∀ m j:Nat,j+m=l.length→∃ r,YT (l,nm,(j:Int))=some r∧∀ x y,r=.inl (x,y)→∃ b∈l,x=b.value.shape∧y=b.value.data
 | 0,j,h=>by
  rw [YT]
  have:¬ ((j:Int) < (l.length:Int)):=by omega
  simp only [this,if_false]
  exact ⟨_,rfl,fun x y e=>by cases e⟩
 | m+1,j,h=>by
  rw [YT]
  have h1:((j:Int) < (l.length:Int)):=by omega
  have hi:idx l (j:Int)=some l[j]:=idx_ok (by omega)
  have w:W ((j:Int)+1)=((j+1:Nat):Int):=W_succ (by omega)
  simp only [h1,if_true,hi,Qj,w]
  by_cases hn:l[j].name=nm
  ·simp only [hn,if_true]
   exact ⟨_,rfl,fun x y e=>by cases e; exact ⟨l[j],List.getElem_mem _,rfl,rfl⟩⟩
  ·simp only [hn,if_false]
   exact get_tot l nm hl m (j+1) (by omega)
theorem Get_ok (l:List Qn) (nm:ByteArray) (hl:bndF l):∃ a ok,Qaw (l,nm)=some (a,ok)∧(ok=true→∃ b∈l,a=b.value):=by
 obtain ⟨r,e,hr⟩:=get_tot l nm (by have:=hl.1; omega) l.length 0 (by omega)
 simp only [Int.natCast_zero] at e
 unfold Qaw
 simp only [e,Qj]
 cases r with
 | inl u =>
  obtain ⟨x,y⟩:=u
  obtain ⟨b,hb,rfl,rfl⟩:=hr x y rfl
  exact ⟨_,_,rfl,fun _=>⟨b,hb,rfl⟩⟩
 | inr u=>exact ⟨_,_,rfl,fun q=>by cases q⟩
/-- sources whose data fit -/
def srcI (ss:List Ql):Prop:=∀ s∈ss,(s.value.data.length:Int)=prodI s.value.shape
theorem rd_L1 (ss:List Ql) (s:Ql) (hl:ss.length≤1000):∀ (m j:Nat) (k:Int),j+m=ss.length→∃ r,Yk (ss,s,k,(j:Int))=some r
 | 0,j,k,h=>by
  rw [Yk]
  have:¬ ((j:Int) < (ss.length:Int)):=by omega
  simp only [this,if_false]
  exact ⟨_,rfl⟩
 | m+1,j,k,h=>by
  rw [Yk]
  have h1:((j:Int) < (ss.length:Int)):=by omega
  have hi:idx ss (j:Int)=some ss[j]:=idx_ok (by omega)
  have w:W ((j:Int)+1)=((j+1:Nat):Int):=W_succ (by omega)
  simp only [h1,if_true,hi,Qj,ite_some,w]
  exact ite_e (P:=fun o=>∃ r,o=some r) (fun _=>rd_L1 ss s hl m (j+1) _ (by omega)) (fun _=>rd_L1 ss s hl m (j+1) _ (by omega))
theorem apS {l:List Ql} {v:Ql} (h:l.length≤1000):app 64 l [v]=some (l++[v]):=app_le (by simp; omega) (by omega)
theorem Read15_ok (ss:List Ql) (s:Ql) (hl:ss.length≤900) (hS:srcI ss) (hs:(s.value.data.length:Int)=prodI s.value.shape):∃ c ss',JR (ss,s)=some (c,ss')∧c.shape=s.value.shape∧srcI ss'∧ss'.length≤ss.length+1:=by
 obtain ⟨r,e⟩:=rd_L1 ss s (by omega) ss.length 0 (ss.length:Int) (by omega)
 simp only [Int.natCast_zero] at e
 unfold JR
 simp only [e,Qj]
 have h0:app 64 ([]:List Ql) ss=some ss:=app_le (by simp; omega) (by omega)
 simp only [h0,apS (show ss.length≤1000 by omega),Qj]
 refine ite_e (P:=fun (o:Option (Qa × List Ql))=>∃ c ss',o=some (c,ss')∧c.shape=s.value.shape∧srcI ss'∧ss'.length≤ss.length+1) (fun _=>⟨_,_,rfl,rfl,fun x hx=>?_,by simp⟩) (fun _=>⟨_,_,rfl,rfl,hS,by omega⟩)
 rcases List.mem_append.1 hx with hx|hx
 ·exact hS x hx
 ·rw [List.mem_singleton] at hx; rw [hx]; exact hs
/-- what is made of a tree -/
def exR (n:Nat) (o:Option (Qa × List Ql × Int)):Prop:=∃ c ss e,o=some (c,ss,e)∧(e=0→c.shape.length≤16∧srcI ss∧ss.length≤n)
theorem exR_err {n:Nat} {e:Int} (h:e≠0) (c:Qa) (ss:List Ql):exR n (some (c,ss,e)):=⟨c,ss,e,rfl,fun q=>absurd q h⟩
theorem atom_tot (l:List Qn) (hl:bndF l) (ss:List Ql) (hn:ss.length≤900) (hS:srcI ss) (t:Qh) (ht:t.nums.length≤1000):exR (ss.length+1) (QaV (l,ss,t)):=by
 unfold QaV
 dsimp only
 by_cases h2:t.kind=2
 ·obtain ⟨a,ok,e,ha⟩:=Get_ok l t.name hl
  simp only [h2,if_true,e,Qj]
  cases ok with
  | false=>exact exR_err (by decide) _ _
  | true =>
   obtain ⟨b,hb,rfl⟩:=ha rfl
   obtain ⟨q1,q2,q3⟩:=hl.2 b hb
   obtain ⟨c,ss',e2,h1,h3,h4⟩:=Read15_ok ss ⟨t.name,⟨b.value.shape,b.value.data⟩⟩ hn hS q1
   simp only [Bool.true_eq_false,if_false,e2,Qj]
   exact ⟨_,_,_,rfl,fun _=>⟨by rw [h1]; exact q2,h3,h4⟩⟩
 ·simp only [h2,if_false,ite_some,Qj]
  have hbig:¬ ((t.nums.length:Int) > 65536):=by omega
  have hp:(t.nums.length:Int)=prodI (if (t.nums.length:Int)≠1 then [(t.nums.length:Int)] else []):=by
   by_cases q:(t.nums.length:Int)≠1
   ·rw [if_pos q,prodI_cons,prodI_nil,Int.mul_one]
   ·rw [if_neg q,prodI_nil]; omega
  obtain ⟨c,ss',e2,h1,h3,h4⟩:=Read15_ok ss ⟨t.name,⟨(if (t.nums.length:Int)≠1 then [(t.nums.length:Int)] else []),t.nums⟩⟩ hn hS hp
  simp only [hbig,if_false,e2,Qj]
  refine ⟨_,_,_,rfl,fun _=>⟨?_,h3,h4⟩⟩
  rw [h1]
  show (if (t.nums.length:Int)≠1 then [(t.nums.length:Int)] else []).length≤16
  split <;> simp
/-- what is made of a node with one operand -/
def oneR (o:Option (Qa × Int)):Prop:=∃ c e,o=some (c,e)∧(e=0→c.shape.length≤16)
theorem oneR_err {e:Int} (h:e≠0) (c:Qa):oneR (some (c,e)):=⟨c,e,rfl,fun q=>absurd q h⟩
theorem seen15 (c:Qa) (s:List Int):Sm s.length→∃ d,Z1 (c,s)=some d:=by
 intro hs
 unfold Z1 Yc
 simp only [Equal_ok' c.shape s hs,Qj]
 exact ite_e (P:=fun o=>∃ d,o=some d) (fun _=>⟨_,rfl⟩) (fun _=>⟨_,rfl⟩)
theorem tail15 (c:Qa) (s:List Int) (hs:s.length≤1000) (f:Qa→Qa) (hf:∀ d,(f d).shape.length≤16):oneR (Z1 (c,s)>>=fun d=>some (f d,0)):=by
 obtain ⟨d,e⟩:=seen15 c s (Sm_of hs)
 rw [e]
 exact ⟨_,_,rfl,fun _=>hf d⟩
theorem Read12_tot (l:List Qn) (hl:bndF l) (t:Qh) (ht:t.nums.length≤1000):∃ sp e,QaC (l,t)=some (sp,e)∧sp.values.length≤1000:=by
 unfold QaC
 dsimp only
 obtain ⟨a,ok,e,ha⟩:=Get_ok l t.name hl
 simp only [e,Qj]
 refine ite_e (P:=fun (o:Option (QK × Int))=>∃ sp e,o=some (sp,e)∧sp.values.length≤1000) (fun _=>⟨_,_,rfl,ht⟩) (fun _=>?_)
 cases ok with
 | false=>exact ⟨_,_,rfl,by show ([]:List Int).length≤1000; simp⟩
 | true =>
  obtain ⟨b,hb,rfl⟩:=ha rfl
  have:=(hl.2 b hb).2.2
  simp only [Bool.true_eq_false,if_false]
  exact ite_e (P:=fun (o:Option (QK × Int))=>∃ sp e,o=some (sp,e)∧sp.values.length≤1000) (fun _=>⟨_,_,rfl,by show ([]:List Int).length≤1000; simp⟩) (fun _=>⟨_,_,rfl,by show b.value.data.length≤1000; omega⟩)
theorem one_tot (l:List Qn) (hl:bndF l) (t:Qh) (c:Qa) (hc:c.shape.length≤16) (hf:1≤t.fn∧t.fn≤6) (hax:-1≤t.axis) (h34:t.kind=3∨t.kind=4)
  (h4:t.kind=4→t.fn≠6∧∃ x r,t.kids=x::r∧x.nums.length≤1000) (h3:t.kind=3→t.fn=3∨t.fn=4∨t.fn=6):oneR (Qbq (l,t,c)):=by
 unfold Qbq
 dsimp only
 rcases h34 with hk|hk
 ·have k4:¬ (t.kind=4):=by omega
  rw [if_neg k4]
  rcases h3 hk with f|f|f
  ·obtain ⟨r,e,er,hr⟩:=Reverse_tot t.axis c.shape hax hc
   simp only [f,hk,er,Qj,show ¬ ((3:Int)=1) by decide,show ((3:Int) == 2)=false by decide,if_false,if_true,Bool.false_eq_true,ite_some]
   refine ite_e (P:=oneR) (fun _=>⟨_,_,rfl,fun _=>hc⟩) (fun _=>?_)
   refine ite_e (P:=oneR) (fun h=>oneR_err h _) (fun h=>?_)
   have hg:=(hr (by simpa using h)).1
   exact tail15 _ _ hg.2.1 (fun d=>_) (fun d=>hg.1)
  ·obtain ⟨r,er,hg⟩:=Flip_tot c.shape hc
   simp only [f,hk,er,Qj,show ¬ ((4:Int)=1) by decide,show ((4:Int) == 2)=false by decide,show ¬ ((4:Int)=3) by decide,if_false,if_true,Bool.false_eq_true,ne_eq,not_true_eq_false]
   exact tail15 _ _ hg.2.1 (fun d=>_) (fun d=>hg.1)
  ·obtain ⟨r,er,hg⟩:=Ravel_tot c.shape hc
   simp only [f,hk,er,Qj,show ¬ ((6:Int)=1) by decide,show ((6:Int) == 2)=false by decide,show ¬ ((6:Int)=3) by decide,show ¬ ((6:Int)=4) by decide,show ¬ ((6:Int)=5) by decide,if_false,if_true,Bool.false_eq_true,ne_eq,not_true_eq_false]
   exact tail15 _ _ hg.2.1 (fun d=>_) (fun d=>hg.1)
 ·have k3:¬ (t.kind=3):=by omega
  obtain ⟨hn6,x,r0,hx,hxn⟩:=h4 hk
  obtain ⟨sp,e0,es,hsp⟩:=Read12_tot l hl x hxn
  have hi:idx t.kids 0=some x:=by rw [hx]; rfl
  rw [if_pos hk]
  simp only [hi,es,Qj]
  refine ite_e (P:=oneR) (fun h=>oneR_err h _) (fun _=>?_)
  have hff:t.fn=1∨t.fn=2∨t.fn=3∨t.fn=4∨t.fn=5:=by omega
  rcases hff with f|f|f|f|f
  ·obtain ⟨r,e,er,hr⟩:=Take_tot sp.values c.shape hsp hc
   simp only [f,er,Qj,if_true,beq_self_eq_true]
   refine ite_e (P:=oneR) (fun h=>oneR_err h _) (fun h=>?_)
   have hg:=hr (by simpa using h)
   exact tail15 _ _ hg.2.1 (fun d=>_) (fun d=>hg.1)
  ·obtain ⟨r,e,er,hr⟩:=Drop_tot sp.values c.shape hsp hc
   simp only [f,er,Qj,show ¬ ((2:Int)=1) by decide,if_false,if_true,beq_self_eq_true]
   refine ite_e (P:=oneR) (fun h=>oneR_err h _) (fun h=>?_)
   have hg:=hr (by simpa using h)
   exact tail15 _ _ hg.2.1 (fun d=>_) (fun d=>hg.1)
  ·obtain ⟨r,e,er,hr⟩:=Rotate_tot sp.values t.axis c.shape hax hc
   simp only [f,k3,er,Qj,show ¬ ((3:Int)=1) by decide,show ((3:Int) == 2)=false by decide,if_false,if_true,Bool.false_eq_true,ite_some]
   refine ite_e (P:=oneR) (fun _=>⟨_,_,rfl,fun _=>hc⟩) (fun _=>?_)
   refine ite_e (P:=oneR) (fun h=>oneR_err h _) (fun h=>?_)
   have hg:=hr (by simpa using h)
   exact tail15 _ _ hg.2.1 (fun d=>_) (fun d=>hg.1)
  ·obtain ⟨r,e,er,hr⟩:=Transpose_tot sp.values c.shape hc
   simp only [f,k3,er,Qj,show ¬ ((4:Int)=1) by decide,show ((4:Int) == 2)=false by decide,show ¬ ((4:Int)=3) by decide,if_false,if_true,Bool.false_eq_true]
   refine ite_e (P:=oneR) (fun h=>oneR_err h _) (fun h=>?_)
   have hg:=hr (by simpa using h)
   exact tail15 _ _ hg.2.1 (fun d=>_) (fun d=>hg.1)
  ·obtain ⟨r,e,er,hr⟩:=Reshape_tot sp.values c.shape hsp hc
   simp only [f,er,Qj,show ¬ ((5:Int)=1) by decide,show ((5:Int) == 2)=false by decide,show ¬ ((5:Int)=3) by decide,show ¬ ((5:Int)=4) by decide,if_false,if_true,Bool.false_eq_true]
   refine ite_e (P:=oneR) (fun h=>oneR_err h _) (fun h=>?_)
   have hg:=hr (by simpa using h)
   exact tail15 _ _ hg.2.1 (fun d=>_) (fun d=>hg.1)
theorem exR_mono {a b:Nat} {o:Option (Qa × List Ql × Int)} (h:exR a o) (hab:a≤b):exR b o:=by
 obtain ⟨c,ss,e,h1,h2⟩:=h
 exact ⟨c,ss,e,h1,fun q=>⟨(h2 q).1,(h2 q).2.1,Nat.le_trans (h2 q).2.2 hab⟩⟩
theorem expr_tot (l:List Qn) (hl:bndF l):∀ (n:Nat) (t:Qh),szT t≤n→good t→numT t≤1000→∀ ss,srcI ss→ss.length+szT t≤800→exR (ss.length+szT t) (Y5 (l,ss,t)):=by
 intro n
 induction n with
 | zero=>intro t h; have:=szT_pos t; omega
 | succ n ih =>
  intro t hz hg hnu ss hS hlen
  have hsz:=szT_f t
  have hnf:=numT_f t
  rw [Y5]
  by_cases h2:t.kind≤2
  ·obtain ⟨c,ss',e,ea,hr⟩:=exR_mono (atom_tot l hl ss (by omega) hS t (by omega)) (show ss.length+1≤ss.length+szT t by have:=szT_pos t; omega)
   simp only [h2,if_true,ea,Qj]
   exact ⟨_,_,_,rfl,hr⟩
  ·rw [if_neg h2]
   rcases (good_f.1 hg).1 with c0|c0|c0|c0
   ·exact absurd c0.1 (by omega)
   ·exact absurd c0.1 (by omega)
   ·obtain ⟨hk,q1,q2,q3,q4⟩:=c0
    obtain ⟨k,ek⟩:=kids1 q3
    have hgk:good k:=by have:=(good_f.1 hg).2; rw [ek] at this; exact goods1.1 this
    rw [ek] at hsz hnf
    rw [(sz1 k).1] at hsz
    rw [(sz1 k).2.1] at hnf
    have hw:W ((t.kids.length:Int) - 1)=0:=by rw [ek,show (([k]:List Qh).length:Int) - 1=0 by simp]; decide
    have hi:idx t.kids 0=some k:=by rw [ek]; rfl
    obtain ⟨c,ss',e,ec,hr⟩:=ih k (by omega) hgk (by omega) ss hS (by omega)
    simp only [hw,hi,Qj,ec]
    refine ite_e (P:=exR (ss.length+szT t)) (fun h=>exR_err h _ _) (fun h=>?_)
    obtain ⟨r1,r2,r3⟩:=hr (by simpa using h)
    obtain ⟨d,e2,ed,hd⟩:=one_tot l hl t c r1 (by omega) (by unfold axF at q4; omega) (Or.inl hk) (fun q=>by omega) (fun _=>by omega)
    simp only [etaT,etaR]
    simp only [hk,if_true,Qj,ed]
    exact ⟨_,_,_,rfl,fun q=>⟨hd q,r2,by omega⟩⟩
   ·obtain ⟨hk,q1,q2,q3,q4,q5,q6,q7⟩:=c0
    obtain ⟨x,k,ek⟩:=kids2 q3
    have hgg:=(good_f.1 hg).2
    rw [ek] at hgg hsz hnf
    rw [(sz2 x k).1] at hsz
    rw [(sz2 x k).2.1] at hnf
    have hw:W ((t.kids.length:Int) - 1)=1:=by rw [ek,show (([x,k]:List Qh).length:Int) - 1=1 by simp]; decide
    have hi1:idx t.kids 1=some k:=by rw [ek]; rfl
    have hi0:idx t.kids 0=some x:=by rw [ek]; rfl
    have hxn:x.nums.length≤1000:=by have:=numT_f x; omega
    have hpx:=szT_pos x
    obtain ⟨c,ss',e,ec,hr⟩:=ih k (by omega) (goods2.1 hgg).2 (by omega) ss hS (by omega)
    have k3:¬ (t.kind=3):=by omega
    simp only [hw,hi1,Qj,ec,k3,if_false]
    refine ite_e (P:=exR (ss.length+szT t)) (fun h=>exR_err h _ _) (fun h=>?_)
    obtain ⟨r1,r2,r3⟩:=hr (by simpa using h)
    have hax:-1≤t.axis:=by unfold axF at q6; omega
    by_cases h6:t.fn=6
    ·have hb:(t.fn != 6)=false:=by simp [h6]
     obtain ⟨c2,ss2,e2,ec2,hr2⟩:=ih x (by omega) (goods2.1 hgg).1 (by omega) ss' r2 (by omega)
     simp only [hb,Bool.false_eq_true,if_false,hi0,Qj,ec2]
     refine ite_e (P:=exR (ss.length+szT t)) (fun h=>exR_err h _ _) (fun h=>?_)
     obtain ⟨s1,s2,s3⟩:=hr2 (by simpa using h)
     obtain ⟨r,e3,er,hrr⟩:=Catenate_tot t.axis c2.shape c.shape hax s1 r1
     simp only [er,Qj]
     refine ite_e (P:=exR (ss.length+szT t)) (fun h=>exR_err h _ _) (fun h=>?_)
     have hgr:=hrr (by simpa using h)
     obtain ⟨d1,ed1⟩:=seen15 c2 r.left (Sm_of hgr.2.2)
     obtain ⟨d2,ed2⟩:=seen15 c r.right (Sm_of hgr.2.1)
     simp only [etaR,ed1,ed2,Qj]
     exact ⟨_,_,_,rfl,fun _=>⟨hgr.1,s2,by omega⟩⟩
    ·have hb:(t.fn != 6)=true:=by simp [h6]
     obtain ⟨d,e2,ed,hd⟩:=one_tot l hl t c r1 ⟨q4,q5⟩ hax (Or.inr hk) (fun _=>⟨h6,x,[k],ek,hxn⟩) (fun q=>by omega)
     simp only [hb,if_true,etaT,etaR,ed,Qj]
     exact ⟨_,_,_,rfl,fun q=>⟨hd q,r2,by omega⟩⟩
theorem check5 (a:Qo) (h:a.shape.length≤1000):∃ e,Jo a=some e∧(e=0→checkR a.shape=0∧(a.data.length:Int)=prodI a.shape):=by
 unfold Jo
 dsimp only
 simp only [Check_ok a.shape (Sm_of h),Cells_ok a.shape (Sm_of h),Qj,ite_some]
 by_cases hc:checkR a.shape=0
 ·have hcc:cellsR a.shape=prodI a.shape:=by rw [cellsR,if_pos hc]
  simp only [hc,if_true,hcc]
  by_cases hd:(a.data.length:Int)=prodI a.shape
  ·exact ⟨_,rfl,fun _=>⟨trivial,hd⟩⟩
  ·have:((a.data.length:Int) != prodI a.shape)=true:=by simp [hd]
   simp only [this,if_true]
   exact ⟨_,rfl,fun q=>absurd q (by decide)⟩
 ·simp only [hc,if_false,Bool.false_eq_true]
  exact ⟨_,rfl,fun q=>absurd q hc⟩
theorem inl_R {P:Prop}:∃ r,(some (Sum.inl ()):Option (Unit ⊕ Unit))=some r∧(r=.inr ()→P):=⟨_,rfl,fun h=>by cases h⟩
/-- what is asked of a binding first -/
def bnd1 (b:Qn):Prop:=b.value.shape.length≤100∧b.value.data.length≤300∧b.name.size≤100
theorem few_L1 (l:List Qn) (hl:l.length≤1000):∀ (s p:List Qn),l=p++s→∃ r,YP (l,300,(p.length:Int))=some r∧(r=.inr ()→∀ b∈s,bnd1 b)
 | [],p,e=>by
  rw [YP]
  have:¬ ((p.length:Int) < (l.length:Int)):=by rw [e]; simp
  rw [if_neg this]
  exact ⟨_,rfl,fun _ b hb=>by cases hb⟩
 | x::s,p,e=>by
  rw [YP]
  have h1:((p.length:Int) < (l.length:Int)):=by rw [e]; exact Zm
  have hi:idx l (p.length:Int)=some x:=by rw [e]; exact QS
  have hw:W ((p.length:Int)+1)=((p++[x]).length:Int):=by
   have:=hl; rw [e] at this; exact mid_W (Sm_of this)
  obtain ⟨r,er,hr⟩:=few_L1 l hl s (p++[x]) (by rw [e]; simp)
  simp only [h1,if_true,hi,Qj,Qcc,ite_some,hw]
  by_cases hq:bnd1 x
  ·obtain ⟨q1,q2,q3⟩:=hq
   refine ite_e (P:=fun (o:Option (Unit ⊕ Unit))=>∃ r,o=some r∧(r=.inr ()→∀ b∈x::s,bnd1 b)) (fun _=>inl_R) (fun _=>⟨r,er,fun h b hb=>?_⟩)
   rcases List.mem_cons.1 hb with rfl|hb
   ·exact ⟨q1,q2,q3⟩
   ·exact hr h b hb
  ·have hA:(if (if (x.value.shape.length:Int)≤100 then decide ((x.value.data.length:Int)≤300) else false)=false then true else decide ((x.name.size:Int) > 100))=true:=by
    by_cases a1:(x.value.shape.length:Int)≤100
    ·rw [if_pos a1]
     by_cases a2:(x.value.data.length:Int)≤300
     ·rw [decide_eq_true a2,if_neg (by decide),decide_eq_true_eq]
      by_cases a3:(x.name.size:Int) > 100
      ·exact a3
      ·exact absurd ⟨by omega,by omega,by omega⟩ hq
     ·rw [decide_eq_false a2,if_pos rfl]
    ·rw [if_neg a1,if_pos rfl]
   rw [if_pos hA]
   exact ⟨_,rfl,fun h=>by cases h⟩
theorem right_L2 (l:List Qn) (k:Nat) (hk:k < l.length) (hl:l.length≤1000):∀ m j:Nat,j+m=k→∃ r,Yn ((k:Int),l,(j:Int))=some r
 | 0,j,h=>by
  rw [Yn]
  have:¬ ((j:Int) < (k:Int)):=by omega
  rw [if_neg this]
  exact ⟨_,rfl⟩
 | m+1,j,h=>by
  rw [Yn]
  have h1:((j:Int) < (k:Int)):=by omega
  have hi:idx l (j:Int)=some l[j]:=idx_ok (by omega)
  have hi2:idx l (k:Int)=some l[k]:=idx_ok hk
  have w:W ((j:Int)+1)=((j+1:Nat):Int):=W_succ (by omega)
  simp only [h1,if_true,hi,hi2,Qj,w]
  exact ite_e (P:=fun (o:Option (Unit ⊕ Unit))=>∃ r,o=some r) (fun _=>⟨_,rfl⟩) (fun _=>right_L2 l k hk hl m (j+1) (by omega))
def bnd2 (b:Qn):Prop:=checkR b.value.shape=0∧(b.value.data.length:Int)=prodI b.value.shape
theorem right_L1 (l:List Qn) (hl:l.length≤1000) (hb:∀ b∈l,bnd1 b):∀ (s p:List Qn),l=p++s→∃ r,Yr (l,(p.length:Int))=some r∧(r=.inr ()→∀ b∈s,bnd2 b)
 | [],p,e=>by
  rw [Yr]
  have:¬ ((p.length:Int) < (l.length:Int)):=by rw [e]; simp
  rw [if_neg this]
  exact ⟨_,rfl,fun _ b hb=>by cases hb⟩
 | x::s,p,e=>by
  rw [Yr]
  have h1:((p.length:Int) < (l.length:Int)):=by rw [e]; exact Zm
  have hi:idx l (p.length:Int)=some x:=by rw [e]; exact QS
  have hw:W ((p.length:Int)+1)=((p++[x]).length:Int):=by
   have:=hl; rw [e] at this; exact mid_W (Sm_of this)
  obtain ⟨r,er,hr⟩:=right_L1 l hl hb s (p++[x]) (by rw [e]; simp)
  obtain ⟨q1,q2,q3⟩:=hb x (by rw [e]; simp)
  obtain ⟨nb,en⟩:=name_tot x.name (by omega)
  obtain ⟨ce,ec,hce⟩:=check5 x.value (by omega)
  obtain ⟨r2,e2⟩:=right_L2 l p.length (by rw [e]; simp) hl p.length 0 (by omega)
  simp only [Int.natCast_zero] at e2
  simp only [h1,if_true,hi,Qj,en,ec,e2,ite_some,hw]
  refine ite_e (P:=fun (o:Option (Unit ⊕ Unit))=>∃ r,o=some r∧(r=.inr ()→∀ b∈x::s,bnd2 b)) (fun _=>inl_R) (fun hA=>?_)
  have hc0:ce=0:=by
   cases nb with
   | false=>exact absurd rfl hA
   | true =>
    by_cases q:ce=0
    ·exact q
    ·exfalso; apply hA; simp [q]
  cases r2 with
  | inl u=>exact ⟨_,rfl,fun h=>by cases h⟩
  | inr u =>
   refine ⟨r,er,fun h b hb2=>?_⟩
   rcases List.mem_cons.1 hb2 with rfl|hb2
   ·exact hce hc0
   ·exact hr h b hb2
theorem small11_L1 (l:List Qn) (hl:l.length≤1000) (hb:∀ b∈l,b.value.shape.length≤16):∀ (s p:List Qn),l=p++s→∃ r,Yp (l,300,(p.length:Int))=some r
 | [],p,e=>by
  rw [Yp]
  have:¬ ((p.length:Int) < (l.length:Int)):=by rw [e]; simp
  rw [if_neg this]
  exact ⟨_,rfl⟩
 | x::s,p,e=>by
  rw [Yp]
  have h1:((p.length:Int) < (l.length:Int)):=by rw [e]; exact Zm
  have hi:idx l (p.length:Int)=some x:=by rw [e]; exact QS
  have hw:W ((p.length:Int)+1)=((p++[x]).length:Int):=by
   have:=hl; rw [e] at this; exact mid_W (Sm_of this)
  obtain ⟨r,er⟩:=small11_L1 l hl hb s (p++[x]) (by rw [e]; simp)
  have hx:=hb x (by rw [e]; simp)
  obtain ⟨b,eb,_⟩:=small_ok x.value.shape 300 (by omega) (by omega)
  obtain ⟨ce,ec,_⟩:=check5 x.value (by omega)
  simp only [h1,if_true,hi,Qj,Qbl,eb,ec,ite_some,hw,er]
  exact ⟨_,rfl⟩
theorem Small11_ok (l:List Qn):∃ b,J9 (l,300)=some b∧(b=true→bndF l):=by
 unfold J9 Qck Qa9
 dsimp only
 by_cases h12:(l.length:Int) > 12
 ·exact ⟨false,by simp [h12,Qj],fun h=>by cases h⟩
 ·obtain ⟨r,er,hr⟩:=few_L1 l (by omega) l [] rfl
  simp only [List.length_nil,Int.natCast_zero] at er
  rw [if_neg h12,er]
  cases r with
  | inl u=>exact ⟨false,by simp [Qj],fun h=>by cases h⟩
  | inr u =>
   have hb1:=hr rfl
   obtain ⟨r2,er2,hr2⟩:=right_L1 l (by omega) hb1 l [] rfl
   simp only [List.length_nil,Int.natCast_zero] at er2
   simp only [Qj,Bool.true_eq_false,if_false,er2]
   cases r2 with
   | inl u=>exact ⟨false,by simp [Qj],fun h=>by cases h⟩
   | inr u =>
    have hb2:=hr2 rfl
    obtain ⟨r3,er3⟩:=small11_L1 l (by omega) (fun b hb=>(checkR_ok (hb2 b hb).1).1) l [] rfl
    simp only [List.length_nil,Int.natCast_zero] at er3
    simp only [Qj,Bool.not_true,Bool.false_eq_true,if_false,er3]
    cases r3 with
    | inl u=>exact ⟨false,rfl,fun h=>by cases h⟩
    | inr u=>exact ⟨true,rfl,fun _=>⟨by omega,fun b hb=>⟨(hb2 b hb).2,(checkR_ok (hb2 b hb).1).1,(hb1 b hb).2.1⟩⟩⟩
def shpS (ss:List Ql):List (List Int):=ss.map fun s=>s.value.shape
theorem shp_L1 (p0:Qv) (hl:p0.sources.length≤1000):∀ (s p:List Ql),p0.sources=p++s→Z9 (p0,shpS p,(p.length:Int))=some (shpS p0.sources)
 | [],p,e=>by
  rw [Z9]
  rw [List.append_nil] at e
  have:¬ ((p.length:Int) < (p0.sources.length:Int)):=by rw [e]; omega
  rw [if_neg this,e]
 | x::s,p,e=>by
  rw [Z9]
  have ih:=shp_L1 p0 hl s (p++[x]) (by rw [e]; simp)
  have hlen:(p++x::s).length≤1000:=by rw [← e]; exact hl
  have hlt:((p.length:Int) < (p0.sources.length:Int)):=by rw [e]; exact Zm
  have hi:idx p0.sources (p.length:Int)=some x:=by rw [e]; exact QS
  have ha:app 24 (shpS p) ([x.value.shape]:List (List Int))=some (shpS (p++[x])):=by
   rw [app_le (by simp [shpS] at hlen ⊢; omega) (by omega)]; simp [shpS]
  simp only [hlt,if_true,hi,Qj,ha,mid_W (Sm_of hlen),ih]
theorem Fits_tot (c:Qa) (ss:List Ql) (hl:ss.length≤1000) (hcs:c.shape.length≤1000):∃ b,QaQ (⟨c,ss⟩,400)=some b∧(b=true→smC c∧nodesF (shpS ss) c∧cellsF 400 c):=by
 have e:=shp_L1 ⟨c,ss⟩ hl ss [] rfl
 simp only [List.length_nil,Int.natCast_zero] at e
 have e':JB ⟨c,ss⟩=some (shpS ss):=by
  unfold JB
  dsimp only
  rw [show ([]:List (List Int))=shpS [] from rfl,e]; rfl
 obtain ⟨b,eb,hb⟩:=Small_ok c (shpS ss) 400 (by omega)
 unfold QaQ Qbj
 simp only [etaR,e',Qj,eb,Cells_ok c.shape (Sm_of hcs)]
 cases b with
 | false=>exact ⟨false,rfl,fun h=>by cases h⟩
 | true =>
  obtain ⟨q1,q2,q3,_⟩:=hb rfl
  simp only [if_true]
  exact ⟨_,rfl,fun _=>⟨q1,q2,q3⟩⟩
/-- a program that fits -/
structure progF (q:Qv):Prop where
 sm:smC q.core
 nd:nodesF (shpS q.sources) q.core
 cl:cellsF 400 q.core
 sr:srcF (shpS q.sources) q.sources
 ln:q.sources.length≤1000
theorem Run_ok (l:List Qn) (t:Qh) (hb:numT t≤szT t * 140737488351232) (hn:namesOk t):∃ q ok,Qbs (l,t)=some (q,ok)∧(ok=true→progF q):=by
 obtain ⟨b,eb,hbl⟩:=Small11_ok l
 obtain ⟨b2,eb2,hbt⟩:=tSmall_ok t hb hn
 unfold Qbs
 simp only [eb,Qj,etaT]
 cases b with
 | false=>exact ⟨_,_,rfl,fun h=>by cases h⟩
 | true =>
  simp only [Bool.true_eq_false,if_false,eb2,Qj]
  cases b2 with
  | false=>exact ⟨_,_,rfl,fun h=>by cases h⟩
  | true =>
   obtain ⟨hf,_,hg⟩:=hbt.1 rfl
   obtain ⟨c,ss,e,ee,hr⟩:=expr_tot l (hbl rfl) (szT t) t (Nat.le_refl _) hg (by have:=hf.2.2; omega) [] (fun s hs=>by cases hs) (by have:=hf.1; simp; omega)
   unfold QbM
   simp only [Bool.not_true,Bool.false_eq_true,if_false,etaT,ee,Qj]
   by_cases he:e=0
   ·obtain ⟨r1,r2,r3⟩:=hr he
    have hl:ss.length≤1000:=by have:=hf.1; simp at r3; omega
    obtain ⟨b3,eb3,hb3⟩:=Fits_tot c ss hl (by omega)
    have hne:¬ (e≠0):=by simp [he]
    simp only [hne,if_false,Qj,if_true,etaR,eb3]
    refine ⟨_,_,rfl,fun h=>?_⟩
    obtain ⟨q1,q2,q3⟩:=hb3 h
    exact ⟨q1,q2,q3,⟨rfl,r2⟩,hl⟩
   ·simp only [he,ne_eq,not_false_eq_true,if_true,Qj,if_false]
    exact ⟨_,_,rfl,fun h=>by cases h⟩
theorem PsiDenotes_of (l:List Qn) (t:Qh) (i:List Int) (hb:numT t≤szT t * 140737488351232) (hn:namesOk t):Xp (l,t,i)=some true:=by
 obtain ⟨q,ok,e,hq⟩:=Run_ok l t hb hn
 obtain ⟨c,ss⟩:=q
 unfold Xp Qbo
 simp only [etaT,e,Qj,Bool.true_eq_false,if_false,ite_some]
 cases ok with
 | false=>rfl
 | true =>
  by_cases hi:(i.length:Int) > 50
  ·simp [hi]
  ·obtain ⟨h1,h2,h3,h4,h5⟩:=hq rfl
   simp only at h1 h2 h3 h4 h5
   have hc:=(nodesF_f h2).1.chk
   have hl:=len_allL hc
   obtain ⟨c1,c2,c3⟩:=checkR_ok hc
   have hE:=eqA (arrF ss c) (by show c.shape.length≤1000; omega) (by show ((allL c.shape).map _).length≤1000000; rw [List.length_map]; omega)
   have hD:=Direct_ok h4 c (szC c) c (Nat.le_refl _) h1 h2 h3
   have hA:Qa8 ((⟨(arrF ss c).shape,(arrF ss c).data⟩:Qo),i)=_:=At_ok (ss:=ss) h2 i
   have hE2:XI (arrF ss c,(⟨(arrF ss c).shape,(arrF ss c).data⟩:Qo))=some true:=hE
   simp only [Bool.not_true,Bool.false_eq_true,if_false,decide_eq_false hi,etaR,Program_ok h1 h5,Qj,hD,etaC,Value_ok h4 h1 h2 (show i.length≤1000 by omega),hA,Denote_ok h4 h1 h2 h3,hE2,if_true,rDenote_ok h4 h1 h2 h3]
   cases hv:vld c.shape i <;> simp
set_option maxHeartbeats 2000000
theorem ua9:prog.underlying 9=some TypeDesc.string:=by kernel_rfl
theorem ua3:prog.underlying 3=some (TypeDesc.int IntKind.i64):=by kernel_rfl
theorem ua27:prog.underlying 27=some (TypeDesc.slice 3):=by kernel_rfl
theorem ua2:prog.underlying 2=some (TypeDesc.int IntKind.i64):=by kernel_rfl
theorem ua23:prog.underlying 23=some (TypeDesc.slice 2):=by kernel_rfl
theorem ua45 : prog.underlying 45 = some (TypeDesc.struct { toList := [{ name := "Shape", type := 27, offset := 0, embedded := false, tag := "", pkgPath := "", byteOffset := 0 }, { name := "Data", type := 23, offset := 1, embedded := false, tag := "", pkgPath := "", byteOffset := 24 }] }) := by kernel_rfl
theorem ua62 : prog.underlying 62 = some (TypeDesc.struct { toList := [{ name := "Name", type := 9, offset := 0, embedded := false, tag := "", pkgPath := "", byteOffset := 0 }, { name := "Value", type := 45, offset := 1, embedded := false, tag := "", pkgPath := "", byteOffset := 16 }] }) := by kernel_rfl
theorem ua22:prog.underlying 22=some (TypeDesc.slice 62):=by kernel_rfl
theorem ua26 : prog.underlying 26 = some (TypeDesc.struct { toList := [{ name := "Kind", type := 3, offset := 0, embedded := false, tag := "", pkgPath := "", byteOffset := 0 }, { name := "Fn", type := 3, offset := 1, embedded := false, tag := "", pkgPath := "", byteOffset := 8 }, { name := "Axis", type := 3, offset := 2, embedded := false, tag := "", pkgPath := "", byteOffset := 16 }, { name := "Name", type := 9, offset := 3, embedded := false, tag := "", pkgPath := "", byteOffset := 24 }, { name := "Nums", type := 23, offset := 4, embedded := false, tag := "", pkgPath := "", byteOffset := 40 }, { name := "Kids", type := 24, offset := 5, embedded := false, tag := "", pkgPath := "", byteOffset := 64 }] }) := by kernel_rfl
theorem ua24:prog.underlying 24=some (TypeDesc.slice 26):=by kernel_rfl
theorem ua4:prog.underlying 4=some TypeDesc.bool:=by kernel_rfl
theorem exists_map {α β:Type} {f:β→α} {p:β→Prop}:∀ {L:List α},(∀ x∈L,∃ y,x=f y∧p y)→∃ l:List β,L=l.map f∧∀ y∈l,p y
 | [],_=>⟨[],rfl,fun y h=>by cases h⟩
 | x::L,h=>by
  obtain ⟨y,rfl,hy⟩:=h x (List.mem_cons_self ..)
  obtain ⟨l,rfl,hl⟩:=exists_map (fun x hx=>h x (List.mem_cons_of_mem _ hx))
  exact ⟨y::l,rfl,fun z hz=>by
   rcases List.mem_cons.1 hz with rfl|hz
   ·exact hy
   ·exact hl z hz⟩
variable {B:Nat} {n:Nat} {cs:List Dat}
theorem tc9 (h:TyC prog B n 9 cs):∃ m:ByteArray,cs=[strD m]∧m.size≤B:=by
 cases n with
 | zero=>exact h.elim
 | succ n =>
  simp only [TyC,ua9] at h
  obtain ⟨m,rfl,hm⟩:=h
  exact ⟨m,rfl,hm⟩
theorem tc3 (h:TyC prog B n 3 cs):∃ m:Int,cs=[(Qc m)]∧((-9223372036854775808)≤m∧m≤9223372036854775807):=by
 cases n with
 | zero=>exact h.elim
 | succ n =>
  simp only [TyC,ua3] at h
  obtain ⟨m,rfl,hm⟩:=h
  refine ⟨m,rfl,?_⟩
  simpa [Lit.wf,IntKind.min,IntKind.max,IntKind.signed,IntKind.bits] using hm
def ok27 (B:Nat) (x:(List Int)):Prop:=x.length≤B∧∀ m∈x,((-9223372036854775808)≤m∧m≤9223372036854775807)
theorem tc27 (h:TyC prog B n 27 cs):∃ l:(List Int),cs=[.lst ((List.map Qc) l)]∧ok27 B l:=by
 cases n with
 | zero=>exact h.elim
 | succ n =>
  simp only [TyC,ua27] at h
  obtain ⟨L,rfl,hl,hx⟩:=h
  obtain ⟨l,rfl,hm⟩:=exists_map (f:=fun m=>[(Qc m)]) (p:=fun m=>((-9223372036854775808)≤m∧m≤9223372036854775807)) (fun x hx'=>tc3 (hx x hx'))
  refine ⟨l,?_,by simpa using hl,hm⟩
  have e:(l.map (fun m=>[(Qc m)])).map (elemD prog 3)=l.map Qc:=by
   rw [List.map_map]; exact List.map_congr_left (fun m _=>by simp only [Function.comp_apply]; simp [elemD,aggB,ua3])
  rw [e]
theorem tc2 (h:TyC prog B n 2 cs):∃ m:Int,cs=[(Qc m)]∧((-9223372036854775808)≤m∧m≤9223372036854775807):=by
 cases n with
 | zero=>exact h.elim
 | succ n =>
  simp only [TyC,ua2] at h
  obtain ⟨m,rfl,hm⟩:=h
  refine ⟨m,rfl,?_⟩
  simpa [Lit.wf,IntKind.min,IntKind.max,IntKind.signed,IntKind.bits] using hm
def ok23 (B:Nat) (x:(List Int)):Prop:=x.length≤B∧∀ m∈x,((-9223372036854775808)≤m∧m≤9223372036854775807)
theorem tc23 (h:TyC prog B n 23 cs):∃ l:(List Int),cs=[.lst ((List.map Qc) l)]∧ok23 B l:=by
 cases n with
 | zero=>exact h.elim
 | succ n =>
  simp only [TyC,ua23] at h
  obtain ⟨L,rfl,hl,hx⟩:=h
  obtain ⟨l,rfl,hm⟩:=exists_map (f:=fun m=>[(Qc m)]) (p:=fun m=>((-9223372036854775808)≤m∧m≤9223372036854775807)) (fun x hx'=>tc2 (hx x hx'))
  refine ⟨l,?_,by simpa using hl,hm⟩
  have e:(l.map (fun m=>[(Qc m)])).map (elemD prog 2)=l.map Qc:=by
   rw [List.map_map]; exact List.map_congr_left (fun m _=>by simp only [Function.comp_apply]; simp [elemD,aggB,ua2])
  rw [e]
structure ok45 (B:Nat) (x:Qo):Prop where
 shape:(ok27 B x.shape)
 data:(ok23 B x.data)
theorem tc45 (h:TyC prog B n 45 cs):∃ x:Qo,cs=[(.lst ((List.map Qc) x.shape)),(.lst ((List.map Qc) x.data))]∧ok45 B x:=by
 cases n with
 | zero=>exact h.elim
 | succ n =>
  simp only [TyC,ua45,List.foldr] at h
  obtain ⟨_,_,rfl,h0,_,_,rfl,h1,rfl⟩:=h
  obtain ⟨m0,rfl,i0⟩:=tc27 h0
  obtain ⟨m1,rfl,i1⟩:=tc23 h1
  exact ⟨⟨m0,m1⟩,rfl,i0,i1⟩
structure ok62 (B:Nat) (x:Qn):Prop where
 name:(x.name.size≤B)
 value:(ok45 B x.value)
theorem tc62 (h:TyC prog B n 62 cs):∃ x:Qn,cs=[(strD x.name),(.lst ((List.map Qc) x.value.shape)),(.lst ((List.map Qc) x.value.data))]∧ok62 B x:=by
 cases n with
 | zero=>exact h.elim
 | succ n =>
  simp only [TyC,ua62,List.foldr] at h
  obtain ⟨_,_,rfl,h0,_,_,rfl,h1,rfl⟩:=h
  obtain ⟨m0,rfl,i0⟩:=tc9 h0
  obtain ⟨m1,rfl,i1⟩:=tc45 h1
  exact ⟨⟨m0,m1⟩,rfl,i0,i1⟩
def ok22 (B:Nat) (x:(List Qn)):Prop:=x.length≤B∧∀ m∈x,(ok62 B m)
theorem tc22 (h:TyC prog B n 22 cs):∃ l:(List Qn),cs=[.lst ((List.map Qn.toD) l)]∧ok22 B l:=by
 cases n with
 | zero=>exact h.elim
 | succ n =>
  simp only [TyC,ua22] at h
  obtain ⟨L,rfl,hl,hx⟩:=h
  obtain ⟨l,rfl,hm⟩:=exists_map (f:=fun m=>[(strD m.name),(.lst ((List.map Qc) m.value.shape)),(.lst ((List.map Qc) m.value.data))]) (p:=fun m=>(ok62 B m)) (fun x hx'=>tc62 (hx x hx'))
  refine ⟨l,?_,by simpa using hl,hm⟩
  have e:(l.map (fun m=>[(strD m.name),(.lst ((List.map Qc) m.value.shape)),(.lst ((List.map Qc) m.value.data))])).map (elemD prog 62)=l.map Qn.toD:=by
   rw [List.map_map]; exact List.map_congr_left (fun m _=>by simp only [Function.comp_apply]; simp [elemD,aggB,ua62]; rfl)
  rw [e]
mutual
def ok26 (B:Nat):Qh→Prop
 | ⟨kind,fn,axis,name,nums,kids⟩=>(((-9223372036854775808)≤kind∧kind≤9223372036854775807))∧(((-9223372036854775808)≤fn∧fn≤9223372036854775807))∧(((-9223372036854775808)≤axis∧axis≤9223372036854775807))∧((name.size≤B))∧((ok23 B nums))∧(kids.length≤B∧okl26 B kids)
def okl26 (B:Nat):List Qh→Prop
 | []=>True
 | k::ks=>ok26 B k∧okl26 B ks
end
theorem okl26_of:∀ {l:List Qh},(∀ y∈l,ok26 B y)→okl26 B l
 | [],_=>by rw [okl26]; trivial
 | y::l,h=>by rw [okl26]; exact ⟨h y (List.mem_cons_self ..),okl26_of fun z hz=>h z (List.mem_cons_of_mem _ hz)⟩
theorem ts26 (ih:∀ cs,TyC prog B n 24 cs→∃ l:List Qh,cs=[.lst (Qh.toDs l)]∧l.length≤B∧okl26 B l) (h:TyC prog B (n+1) 26 cs):∃ x:Qh,cs=[(Qc x.kind),(Qc x.fn),(Qc x.axis),(strD x.name),(.lst ((List.map Qc) x.nums)),(.lst (Qh.toDs x.kids))]∧ok26 B x:=by
 simp only [TyC,ua26,List.foldr] at h
 obtain ⟨_,_,rfl,h0,_,_,rfl,h1,_,_,rfl,h2,_,_,rfl,h3,_,_,rfl,h4,_,_,rfl,h5,rfl⟩:=h
 obtain ⟨m0,rfl,i0⟩:=tc3 h0
 obtain ⟨m1,rfl,i1⟩:=tc3 h1
 obtain ⟨m2,rfl,i2⟩:=tc3 h2
 obtain ⟨m3,rfl,i3⟩:=tc9 h3
 obtain ⟨m4,rfl,i4⟩:=tc23 h4
 obtain ⟨m5,rfl,i5⟩:=ih _ h5
 exact ⟨⟨m0,m1,m2,m3,m4,m5⟩,rfl,by rw [ok26]; exact ⟨i0,i1,i2,i3,i4,i5⟩⟩
theorem tl26 (ih:∀ cs,TyC prog B n 26 cs→∃ x:Qh,cs=[(Qc x.kind),(Qc x.fn),(Qc x.axis),(strD x.name),(.lst ((List.map Qc) x.nums)),(.lst (Qh.toDs x.kids))]∧ok26 B x) (h:TyC prog B (n+1) 24 cs):∃ l:List Qh,cs=[.lst (Qh.toDs l)]∧l.length≤B∧okl26 B l:=by
 simp only [TyC,ua24] at h
 obtain ⟨L,rfl,hl,hx⟩:=h
 obtain ⟨l,rfl,hm⟩:=exists_map (f:=fun (x:Qh)=>[(Qc x.kind),(Qc x.fn),(Qc x.axis),(strD x.name),(.lst ((List.map Qc) x.nums)),(.lst (Qh.toDs x.kids))]) (p:=fun x=>ok26 B x) (fun c hc=>ih c (hx c hc))
 refine ⟨l,?_,by simpa using hl,okl26_of hm⟩
 have e:(l.map (fun (x:Qh)=>[(Qc x.kind),(Qc x.fn),(Qc x.axis),(strD x.name),(.lst ((List.map Qc) x.nums)),(.lst (Qh.toDs x.kids))])).map (elemD prog 26)=Qh.toDs l:=by
  rw [Qh.toDs_eq,List.map_map]; exact List.map_congr_left (fun m _=>by rw [Qh.toD_eq]; simp only [Function.comp_apply]; simp [elemD,aggB,ua26]; rfl)
 rw [e]
theorem tr26:∀ n,(∀ cs,TyC prog B n 26 cs→∃ x:Qh,cs=[(Qc x.kind),(Qc x.fn),(Qc x.axis),(strD x.name),(.lst ((List.map Qc) x.nums)),(.lst (Qh.toDs x.kids))]∧ok26 B x)∧(∀ cs,TyC prog B n 24 cs→∃ l:List Qh,cs=[.lst (Qh.toDs l)]∧l.length≤B∧okl26 B l)
 | 0=>⟨fun _ h=>h.elim,fun _ h=>h.elim⟩
 | n+1=>⟨fun _ h=>ts26 (tr26 n).2 h,fun _ h=>tl26 (tr26 n).1 h⟩
theorem tc26 (h:TyC prog B n 26 cs):∃ x:Qh,cs=[(Qc x.kind),(Qc x.fn),(Qc x.axis),(strD x.name),(.lst ((List.map Qc) x.nums)),(.lst (Qh.toDs x.kids))]∧ok26 B x:=(tr26 n).1 cs h
theorem ty22 {d:Dat} (h:TyA prog B 22 d):∃ m:(List Qn),d=(.lst ((List.map Qn.toD) m))∧(ok22 B m):=by
 obtain ⟨n,cs,h,hd⟩:=h
 obtain ⟨m,rfl,hm⟩:=tc22 h
 exact ⟨m,by rw [hd]; simp [elemD,aggB,ua22],hm⟩
theorem ty26 {d:Dat} (h:TyA prog B 26 d):∃ m:Qh,d=(Qh.ex m)∧(ok26 B m):=by
 obtain ⟨n,cs,h,hd⟩:=h
 obtain ⟨m,rfl,hm⟩:=tc26 h
 exact ⟨m,by rw [hd]; simp [elemD,aggB,ua26]; rfl,hm⟩
theorem ty27 {d:Dat} (h:TyA prog B 27 d):∃ m:(List Int),d=(.lst ((List.map Qc) m))∧(ok27 B m):=by
 obtain ⟨n,cs,h,hd⟩:=h
 obtain ⟨m,rfl,hm⟩:=tc27 h
 exact ⟨m,by rw [hd]; simp [elemD,aggB,ua27],hm⟩
def argTs:List TypeId:=[9,3,27,2,23,45,62,22,26,24,4]
theorem argTs_closed:closedTs prog argTs=true:=by kernel_rfl
theorem laidOut:laidOutB prog=true:=by kernel_rfl
theorem summ:SummOK prog env:=fun f s h=>by cases h
theorem mixed:prog.follows .mixedOrders=true:=by kernel_rfl
/-- a call that comes to a value keeps it in the model -/
theorem pure_of {f:FuncId} {dss:List Dat} {p:PV} (ho:p.out=true) (h:PC prog env f (dss.map .dat) [] p []):PureCall prog f dss p:=by
 obtain ⟨N,hN⟩:=h
 exact pure_sound summ mixed (hN N (Nat.le_refl _)) ho
mutual
theorem numT_le (B:Nat):∀ t:Qh,ok26 B t→numT t≤szT t * B
 | ⟨_,_,_,_,nums,kids⟩,h=>by
  rw [ok26] at h
  have:=numTs_le B kids h.2.2.2.2.2.2
  have:=h.2.2.2.2.1.1
  rw [numT,szT,Nat.add_mul,Nat.one_mul]; omega
theorem numTs_le (B:Nat):∀ l:List Qh,okl26 B l→numTs l≤szTs l * B
 | [],_=>Nat.zero_le _
 | k::ks,h=>by
  rw [okl26] at h
  have:=numT_le B k h.1
  have:=numTs_le B ks h.2
  rw [numTs,szTs,Nat.add_mul]; omega
end
mutual
theorem namesOk_of:∀ t:Qh,ok26 140737488351232 t→namesOk t
 | ⟨_,_,_,nm,_,ks⟩,h=>by
  rw [ok26] at h
  rw [namesOk]
  exact ⟨by have:=h.2.2.2.1; unfold nmOk; omega,namesOks_of ks h.2.2.2.2.2.2⟩
theorem namesOks_of:∀ l:List Qh,okl26 140737488351232 l→namesOks l
 | [],_=>by rw [namesOks]; trivial
 | k::ks,h=>by
  rw [okl26] at h
  rw [namesOks]
  exact ⟨namesOk_of k h.1,namesOks_of ks h.2⟩
end
theorem PsiDenotes_ok (l:List Qn) (t:Qh) (i:List Int) (h:ok26 140737488351232 t):Xp (l,t,i)=some true:=PsiDenotes_of l t i (numT_le _ t h) (namesOk_of t h)
end Go.Proofs.Tryz
