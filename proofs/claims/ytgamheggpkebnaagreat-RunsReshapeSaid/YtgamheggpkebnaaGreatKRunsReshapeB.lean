/-
 Models of functions, their walks, and plain laws.
-/
import Derived.Test.YtgamheggpkebnaaGreatPmFx
import Derived.Test.YtgamheggpkebnaaGreatPmLaw
import Derived.Test.YtgamheggpkebnaaGreatKRunsReshapeA
namespace Go.Proofs.Tryz
open Go Go.Pm
set_option linter.unusedVariables false
set_option linter.unusedSimpArgs false
set_option maxRecDepth 2000
theorem Equal_L1:∀ (s t p q:List Int),s.length=t.length→p.length=q.length→Sm (p++s).length→Zt (p++s,q++t,(p.length:Int))=some (if s=t then .inr () else .inl ())
 | [],[],p,q,_,_,hs=>by
  rw [Zt]; simp only [Z6,if_false,if_true]
 | x::s,y::t,p,q,h1,h2,hs=>by
  rw [Zt]
  have ih:=Equal_L1 s t (p++[x]) (q++[y]) (by simpa using h1) (by simp [h2]) (by rw [← QB]; exact hs)
  rw [← QB,← QB] at ih
  simp only [Zy,if_true,QJ,Qg,mid_W hs,ih]
  rw [h2,QJ]
  by_cases he:x=y <;> simp [he,Qg]
 | [],_::_,_,_,h,_,_=>by cases h
 | _::_,[],_,_,h,_,_=>by cases h
theorem Equal_ok (a b:List Int) (hs:Sm a.length):Ys (a,b)=some (decide (a=b)):=by
 simp only [Ys]
 by_cases h:a.length=b.length
 ·have e:=Equal_L1 a b [] [] h rfl hs
  have e2:¬ ((a.length:Int)≠(b.length:Int)):=by omega
  simp only [e2,if_false]
  have e3:Zt (a,b,0)=_:=e
  rw [e3]
  by_cases hab:a=b
  ·subst hab; simp
  ·rw [if_neg hab,decide_eq_false hab]; rfl
 ·have e2:((a.length:Int)≠(b.length:Int)):=by omega
  have e3:a≠b:=fun e=>h (by rw [e])
  rw [if_pos e2,decide_eq_false e3]

def prodI (l:List Int):Int:=l.foldl (· * ·) 1
def negB (l:List Int):Bool:=l.any fun d=>decide (d < 0)
def bigB (l:List Int):Bool:=l.any fun d=>decide (d > 65536)
def prodR (l:List Int):Int × Int:=if negB l then (0,6) else if bigB l then (0,7) else if prodI l > 65536 then (0,7) else (prodI l,0)
def checkR (l:List Int):Int:=if negB l then 6 else if l.length > 16∨bigB l=true∨prodI l > 65536 then 7 else 0
def cellsR (l:List Int):Int:=if checkR l=0 then prodI l else 0
theorem foldl_mul:∀ (l:List Int) (x:Int),l.foldl (· * ·) x=x * l.foldl (· * ·) 1
 | [],x=>by simp
 | d::l,x=>by rw [List.foldl_cons,foldl_mul l (x * d),List.foldl_cons,foldl_mul l (1 * d),Int.one_mul,Int.mul_assoc]
theorem prodI_cons (d:Int) (l:List Int):prodI (d::l)=d * prodI l:=by rw [prodI,List.foldl_cons,foldl_mul,Int.one_mul]; rfl
theorem prodI_nil:prodI []=1:=rfl
theorem prodI_append (a b:List Int):prodI (a++b)=prodI a * prodI b:=by rw [prodI,prodI,prodI,List.foldl_append,foldl_mul]
theorem prodI_pos:∀ {l:List Int},(∀ d∈l,1≤d)→1≤prodI l
 | [],_=>by simp [prodI]
 | d::l,h=>by
  have h1:=prodI_pos (l:=l) (fun x hx=>h x (List.mem_cons_of_mem _ hx))
  have h2:=h d (List.mem_cons_self ..)
  rw [prodI_cons]
  have:=Int.mul_le_mul h2 h1 (by omega) (by omega)
  omega
theorem prodI_zero {l:List Int} (h:(0:Int)∈l):prodI l=0:=by
 obtain ⟨s,t,rfl⟩:=List.append_of_mem h
 rw [prodI_append,prodI_cons]; simp
theorem negB_cons (d:Int) (l:List Int):negB (d::l)=(decide (d < 0) || negB l):=rfl
theorem bigB_cons (d:Int) (l:List Int):bigB (d::l)=(decide (d > 65536) || bigB l):=rfl

theorem Prod_L1:∀ (s p:List Int) (z:Bool),Sm (p++s).length→Q1 (p++s,z,(p.length:Int))=some (if negB s then .inl () else .inr (z || s.any (· == 0)))
 | [],p,z,hs=>by
  rw [Q1]; simp only [Z6,if_false]; simp [negB]
 | x::s,p,z,hs=>by
  rw [Q1]
  have ih:=fun z=>Prod_L1 s (p++[x]) z (by rw [← QB]; exact hs)
  rw [← QB] at ih
  simp only [Zy,if_true,QJ,Qg,mid_W hs,ih,negB_cons]
  by_cases hn:x < 0
  ·simp [hn]
  ·cases z <;> by_cases hz:x=0 <;> simp [hn,hz]
theorem Prod_L2:∀ (s p:List Int) (z:Bool),Sm (p++s).length→Za (p++s,z,(p.length:Int))=some (if bigB s then .inl () else .inr ())
 | [],p,z,hs=>by
  rw [Za]; simp only [Z6,if_false]; simp [bigB]
 | x::s,p,z,hs=>by
  rw [Za]
  have ih:=Prod_L2 s (p++[x]) z (by rw [← QB]; exact hs)
  rw [← QB] at ih
  simp only [Zy,if_true,QJ,Qg,mid_W hs,ih,bigB_cons]
  by_cases hn:x > 65536 <;> simp [hn]
theorem Prod_L3:∀ (s p:List Int) (m:Int),Sm (p++s).length→(∀ d∈s,1≤d∧d≤65536)→1≤m→m≤65536→Zb (p++s,m,(p.length:Int))=some (if m * prodI s > 65536 then .inl () else .inr (m * prodI s))
 | [],p,m,hs,hd,h1,h2=>by
  rw [Zb]; simp only [Z6,if_false,prodI_nil,Int.mul_one]
  rw [if_neg (by omega)]
 | x::s,p,m,hs,hd,h1,h2=>by
  rw [Zb]
  have hx:=hd x (List.mem_cons_self ..)
  have b1:=Int.mul_le_mul h2 hx.2 (by omega) (by omega)
  have b2:=Int.mul_le_mul h1 hx.1 (by omega) (by omega)
  have hw:W (m * x)=m * x:=W_ok (by omega) (by omega)
  have hds:∀ d∈s,1≤d∧d≤65536:=fun d h=>hd d (List.mem_cons_of_mem _ h)
  simp only [Zy,if_true,QJ,Qg,mid_W hs,hw,prodI_cons]
  rw [← Int.mul_assoc]
  by_cases hn:m * x > 65536
  ·have hp:=prodI_pos (l:=s) (fun d h=>(hds d h).1)
   have:m * x * 1≤m * x * prodI s:=Int.mul_le_mul_of_nonneg_left hp (by omega)
   rw [if_pos hn,if_pos (by omega)]
  ·have ih:=Prod_L3 s (p++[x]) (m * x) (by rw [← QB]; exact hs) hds (by omega) (by omega)
   rw [← QB] at ih
   rw [if_neg hn,ih]
theorem neg_all {l:List Int} (h:negB l=false):∀ d∈l,0≤d:=fun d hd=>by
 have:=List.any_eq_false.1 h d hd
 simp at this; omega
theorem big_all {l:List Int} (h:bigB l=false):∀ d∈l,d≤65536:=fun d hd=>by
 have:=List.any_eq_false.1 h d hd
 simp at this; omega
theorem Product_ok (l:List Int) (hs:Sm l.length):Yl l=some (prodR l):=by
 have e1:Q1 (l,false,0)=_:=Prod_L1 l [] false hs
 have e2:∀ z,Za (l,z,0)=_:=fun z=>Prod_L2 l [] z hs
 simp only [Yl,e1,Qg,prodR]
 by_cases hn:negB l=true
 ·simp [hn]
 ·have hn':negB l=false:=by simpa using hn
  simp only [hn',Bool.false_eq_true,if_false,Bool.false_or,e2,Qg]
  by_cases hb:bigB l=true
  ·simp [hb]
  ·have hb':bigB l=false:=by simpa using hb
   simp only [hb',Bool.false_eq_true,if_false]
   by_cases hz:(l.any (· == 0))=true
   ·have:prodI l=0:=prodI_zero (by simpa using hz)
    simp [hz,this]
   ·have hz':l.any (· == 0)=false:=(Bool.not_eq_true _).mp hz
    have e3:Zb (l,1,0)=_:=Prod_L3 l [] 1 hs (fun d hd=>by
     have h1:=neg_all hn' d hd
     have h2:=big_all hb' d hd
     have h3:d≠0:=fun e=>by have:=List.any_eq_false.1 hz' d hd; simp [e] at this
     omega) (by omega) (by omega)
    simp only [hz',Bool.false_eq_true,if_false,e3,Qg,Int.one_mul]
    by_cases hp:prodI l > 65536 <;> simp [hp]
theorem Check_L1:∀ (s p:List Int),Sm (p++s).length→Zs (p++s,(p.length:Int))=some (if negB s then .inl () else .inr ())
 | [],p,hs=>by
  rw [Zs]; simp only [Z6,if_false]; simp [negB]
 | x::s,p,hs=>by
  rw [Zs]
  have ih:=Check_L1 s (p++[x]) (by rw [← QB]; exact hs)
  rw [← QB] at ih
  simp only [Zy,if_true,QJ,Qg,mid_W hs,ih,negB_cons]
  by_cases hn:x < 0 <;> simp [hn]
theorem Check_ok (l:List Int) (hs:Sm l.length):Yr l=some (checkR l):=by
 have e1:Zs (l,0)=_:=Check_L1 l [] hs
 simp only [Yr,e1,Qg,checkR,Product_ok l hs]
 by_cases hn:negB l=true
 ·simp [hn]
 ·simp only [hn,if_false,prodR,Bool.false_eq_true]
  by_cases hl:l.length > 16
  ·have:(l.length:Int) > 16:=by omega
   simp [hl,this,Qg]
  ·have:¬ (l.length:Int) > 16:=by omega
   by_cases hb:bigB l=true
   ·simp [hl,this,hb,Qg]
   ·by_cases hp:prodI l > 65536 <;> simp [hl,this,hb,hp,Qg]

theorem Cont1_L1:∀ (s p:List Int),Sm (p++s).length→∃ r,Qu (p++s,(p.length:Int))=some r∧(negB s=true→∃ j:Nat,r=.inl (j:Int))∧(negB s=false→r=.inr ())
 | [],p,hs=>by
  rw [Qu]; simp only [Z6,if_false]; exact ⟨_,rfl,fun h=>(by cases h),fun _=>rfl⟩
 | x::s,p,hs=>by
  rw [Qu]
  obtain ⟨r,h1,h2,h3⟩:=Cont1_L1 s (p++[x]) (by rw [← QB]; exact hs)
  rw [← QB] at h1
  simp only [Zy,if_true,QJ,Qg,mid_W hs,Xx,negB_cons]
  by_cases hn:x < 0
  ·simp only [hn,decide_true,if_true]; exact ⟨_,rfl,fun _=>⟨_,rfl⟩,fun h=>by simp at h⟩
  ·simp only [hn,decide_false,Bool.false_eq_true,if_false,Bool.false_or]; exact ⟨r,h1,h2,h3⟩
theorem Cont1_ok (l:List Int) (hs:Sm l.length):QF l=some (negB l):=by
 obtain ⟨r,h1,h2,h3⟩:=Cont1_L1 l [] hs
 have e:Qu (l,0)=some r:=h1
 simp only [QF,QV,e,Qg]
 cases hn:negB l
 ·rw [h3 hn]; rfl
 ·obtain ⟨j,rfl⟩:=h2 hn; simp [Qg]
theorem Cont2_L1:∀ (s p:List Int),Sm (p++s).length→∃ r,Qv (p++s,(p.length:Int))=some r∧(bigB s=true→∃ j:Nat,r=.inl (j:Int))∧(bigB s=false→r=.inr ())
 | [],p,hs=>by
  rw [Qv]; simp only [Z6,if_false]; exact ⟨_,rfl,fun h=>(by cases h),fun _=>rfl⟩
 | x::s,p,hs=>by
  rw [Qv]
  obtain ⟨r,h1,h2,h3⟩:=Cont2_L1 s (p++[x]) (by rw [← QB]; exact hs)
  rw [← QB] at h1
  simp only [Zy,if_true,QJ,Qg,mid_W hs,Xy,bigB_cons]
  by_cases hn:x > 65536
  ·simp only [hn,decide_true,if_true]; exact ⟨_,rfl,fun _=>⟨_,rfl⟩,fun h=>by simp at h⟩
  ·simp only [hn,decide_false,Bool.false_eq_true,if_false,Bool.false_or]; exact ⟨r,h1,h2,h3⟩
theorem Cont2_ok (l:List Int) (hs:Sm l.length):QG l=some (bigB l):=by
 obtain ⟨r,h1,h2,h3⟩:=Cont2_L1 l [] hs
 have e:Qv (l,0)=some r:=h1
 simp only [QG,QX,e,Qg]
 cases hn:bigB l
 ·rw [h3 hn]; rfl
 ·obtain ⟨j,rfl⟩:=h2 hn; simp [Qg]
def errR (l:List Int):Int:=if negB l then 6 else if bigB l then 7 else 0
theorem sizecheck_ok (l:List Int) (hs:Sm l.length):Y5 l=some (errR l):=by
 simp only [Y5,Cont1_ok l hs,Cont2_ok l hs,Qg,errR]
 by_cases h1:negB l=true
 ·simp [h1]
 ·by_cases h2:bigB l=true <;> simp [h1,h2]
theorem Index_L1 (v:Int):∀ (s p:List Int),Sm (p++s).length→∃ r,QI (p++s,v,(p.length:Int))=some r∧(s.any (v == ·)=true→∃ j:Nat,r=.inl (j:Int))∧(s.any (v == ·)=false→r=.inr ())
 | [],p,hs=>by
  rw [QI]; simp only [Z6,if_false]; exact ⟨_,rfl,fun h=>(by cases h),fun _=>rfl⟩
 | x::s,p,hs=>by
  rw [QI]
  obtain ⟨r,h1,h2,h3⟩:=Index_L1 v s (p++[x]) (by rw [← QB]; exact hs)
  rw [← QB] at h1
  simp only [Zy,if_true,QJ,Qg,mid_W hs]
  by_cases hn:v=x
  ·rw [if_pos hn]; exact ⟨_,rfl,fun _=>⟨_,rfl⟩,fun h=>by simp [hn] at h⟩
  ·rw [if_neg hn]; exact ⟨r,h1,fun h=>h2 (by simpa [hn] using h),fun h=>h3 (by simpa [hn] using h)⟩
theorem Contains_ok (l:List Int) (v:Int) (hs:Sm l.length):Zx (l,v)=some (l.any (v == ·)):=by
 obtain ⟨r,h1,h2,h3⟩:=Index_L1 v l [] hs
 have e:QI (l,v,0)=some r:=h1
 simp only [Zx,Yf,e,Qg]
 cases hn:l.any (v == ·)
 ·rw [h3 hn]; rfl
 ·obtain ⟨j,rfl⟩:=h2 hn; simp [Qg]
theorem Mul_ok {a b:Int} (ha:1≤a∧a≤65536) (hb:1≤b∧b≤65536):Ja (a,b,65536)=some (if a * b > 65536 then (0,false) else (a * b,true)):=by
 have m1:=Int.mul_le_mul ha.2 hb.2 (by omega) (by omega)
 have m2:=Int.mul_le_mul ha.1 hb.1 (by omega) (by omega)
 have hq0:(65536:Int).tdiv b=65536 / b:=Int.tdiv_eq_ediv_of_nonneg (by omega)
 have hq1:(65536:Int) / b≤65536:=Int.ediv_le_self _ (by omega)
 have hq2:0≤(65536:Int) / b:=Int.ediv_nonneg (by omega) (by omega)
 have hq:quoM 65536 b=some (65536 / b):=by
  rw [quoM,if_neg (by omega),hq0,W_ok (by omega) (by omega)]
 have hlt:(a > 65536 / b)=(a * b > 65536):=by
  have:=Int.ediv_lt_iff_lt_mul (a:=65536) (b:=a) (c:=b) (by omega)
  simp only [gt_iff_lt,eq_iff_iff]
  exact this
 simp only [Ja,show ¬ a < 0 by omega,show ¬ b < 0 by omega,show ¬ a > 65536 by omega,show ¬ b > 65536 by omega,show b > 0 by omega,if_false,if_true,hq,Qg,hlt,decide_false,Bool.false_eq_true]
 by_cases h:a * b > 65536
 ·simp [h]
 ·simp only [h,decide_false,Qg,Bool.false_eq_true,if_false]; rw [W_ok (by omega) (by omega)]
theorem foldP_L1:∀ (s p:List Int) (m:Int),Sm (p++s).length→(∀ d∈s,1≤d∧d≤65536)→1≤m→m≤65536 →
  ∃ r,QA (p++s,m,(p.length:Int))=some r∧(m * prodI s > 65536→∃ v,r=.inl v)∧(¬ m * prodI s > 65536→r=.inr (m * prodI s))
 | [],p,m,hs,hd,h1,h2=>by
  rw [QA]; simp only [Z6,if_false,prodI_nil,Int.mul_one]
  exact ⟨_,rfl,fun h=>(by omega),fun _=>rfl⟩
 | x::s,p,m,hs,hd,h1,h2=>by
  rw [QA]
  have hx:=hd x (List.mem_cons_self ..)
  have hds:∀ d∈s,1≤d∧d≤65536:=fun d h=>hd d (List.mem_cons_of_mem _ h)
  have b2:=Int.mul_le_mul h1 hx.1 (by omega) (by omega)
  simp only [Zy,if_true,QJ,Qg,mid_W hs,Y4,Mul_ok ⟨h1,h2⟩ hx,prodI_cons]
  rw [← Int.mul_assoc]
  by_cases hn:m * x > 65536
  ·have hp:=prodI_pos (l:=s) (fun d h=>(hds d h).1)
   have:m * x * 1≤m * x * prodI s:=Int.mul_le_mul_of_nonneg_left hp (by omega)
   simp only [hn,if_true,Qg]
   exact ⟨_,rfl,fun _=>⟨_,rfl⟩,fun h=>absurd h (by omega)⟩
  ·obtain ⟨r,e1,e2,e3⟩:=foldP_L1 s (p++[x]) (m * x) (by rw [← QB]; exact hs) hds (by omega) (by omega)
   rw [← QB] at e1
   simp only [hn,if_false,Qg,Bool.true_eq_false]
   exact ⟨r,e1,e2,e3⟩
theorem sProduct_ok (l:List Int) (hs:Sm l.length):YB l=some (prodR l):=by
 simp only [YB,sizecheck_ok l hs,Qg,Zv,prodR,errR]
 by_cases hn:negB l=true
 ·simp [hn,Qg]
 ·have hn':negB l=false:=(Bool.not_eq_true _).mp hn
  by_cases hb:bigB l=true
  ·simp [hn,hb,Qg]
  ·have hb':bigB l=false:=(Bool.not_eq_true _).mp hb
   simp only [hn',hb',Bool.false_eq_true,if_false,if_true,Contains_ok l 0 hs,Qg]
   by_cases hz:l.any ((0:Int) == ·)=true
   ·have h0:(0:Int)∈l:=by
     obtain ⟨x,hx,he⟩:=List.any_eq_true.1 hz
     have:(0:Int)=x:=by simpa using he
     rw [this]; exact hx
    have:=prodI_zero h0
    simp [hz,this,Qg]
   ·have hall:∀ d∈l,1≤d∧d≤65536:=fun d hd=>by
     have h1:=neg_all hn' d hd
     have h2:=big_all hb' d hd
     have h3:d≠0:=fun e=>hz (List.any_eq_true.2 ⟨d,hd,by simp [e]⟩)
     omega
    obtain ⟨r,e1,e2,e3⟩:=foldP_L1 l [] 1 hs hall (by omega) (by omega)
    have e4:QA (l,1,0)=some r:=e1
    rw [Int.one_mul] at e2 e3
    simp only [hz,if_false,Qg,Zw,e4,ne_eq,not_true]
    by_cases hp:prodI l > 65536
    ·obtain ⟨v,rfl⟩:=e2 hp; simp [hp,Qg]
    ·rw [e3 hp]; simp [hp,Qg]
theorem shapeCheck_ok (l:List Int) (hs:Sm l.length):YO l=some (checkR l):=by
 simp only [YO,sProduct_ok l hs,Qg,prodR,checkR]
 by_cases hn:negB l=true
 ·simp [hn,Qg]
 ·by_cases hl:l.length > 16
  ·have h16:(l.length:Int) > 16:=by omega
   by_cases hb:bigB l=true
   ·simp [hn,hb,hl,h16,Qg]
   ·by_cases hp:prodI l > 65536 <;> simp [hn,hb,hp,hl,h16,Qg]
  ·have h16:¬ (l.length:Int) > 16:=by omega
   by_cases hb:bigB l=true
   ·simp [hn,hb,hl,h16,Qg]
   ·by_cases hp:prodI l > 65536 <;> simp [hn,hb,hp,hl,h16,Qg]

theorem Cells_ok (l:List Int) (hs:Sm l.length):ZW l=some (cellsR l):=by
 simp only [ZW,Check_ok l hs,Qg,Product_ok l hs,cellsR]
 by_cases hc:checkR l=0
 ·have:(prodR l).1=prodI l:=by
   unfold checkR at hc
   unfold prodR
   by_cases hn:negB l=true
   ·simp [hn] at hc
   ·by_cases hb:bigB l=true
    ·simp [hn,hb] at hc
    ·by_cases hp:prodI l > 65536
     ·simp [hn,hb,hp] at hc
     ·simp [hn,hb,hp]
  simp [hc,this]
 ·simp [hc]
theorem setM_ok {l:List Int} {j:Nat} {v:Int} (h:j < l.length):setM l (j:Int) v=some (l.set j v):=by simp [setM,h]
theorem guardM_ok {p:Prop} [Decidable p] (h:p):Zf p=some ():=if_pos h
theorem mid_set {α:Type} {p s:List α} {x y:α}:(p++x::s).set p.length y=(p++[y])++s:=by simp
def vld:List Int→List Int→Bool
 | [],[]=>true
 | n::s,x::i=>(decide (0≤x) && decide (x < n)) && vld s i
 | _,_=>false
def strd:List Int→List Int
 | []=>[]
 | _::s=>prodI s::strd s
def dig:List Int→Int→List Int
 | [],_=>[]
 | _::s,o=>o / prodI s::dig s (o % prodI s)
theorem strd_len:∀ s:List Int,(strd s).length=s.length
 | []=>rfl
 | _::s=>by simp [strd,strd_len s]
theorem dig_len:∀ (s:List Int) (o:Int),(dig s o).length=s.length
 | [],_=>rfl
 | _::s,o=>by simp [dig,dig_len s]
theorem prod_le {a b:List Int} (ha:∀ n∈a,1≤n) (hb:∀ n∈b,1≤n):prodI b≤prodI (a++b):=by
 rw [prodI_append]
 have h1:=prodI_pos ha
 have h2:=prodI_pos hb
 have:=Int.mul_le_mul_of_nonneg_right h1 (show 0≤prodI b by omega)
 omega
theorem str_L1 (s v2:List Int) (hv2:v2.length=s.length) (hs:s.length≤1000) (hpos:∀ n∈s,1≤n) (hP:prodI s≤65536):∀ (m:Nat) (a b:List Int),a.length=m→s=a++b →
  Zo (s,v2,List.replicate a.length 0++strd b,prodI b,(b.length:Int))=some (strd s)
 | 0,a,b,ha,e=>by
  obtain rfl:=List.eq_nil_of_length_eq_zero ha
  rw [Zo]
  have:¬ ((b.length:Int) < (s.length:Int)):=by rw [e]; simp
  simp only [this,if_false]; rw [e]; rfl
 | m+1,a,b,ha,e=>by
  rcases List.eq_nil_or_concat a with rfl|⟨a',n,rfl⟩
  ·simp at ha
  ·simp only [List.concat_eq_append] at ha e ⊢
   have ha':a'.length=m:=by simpa using ha
   rw [Zo]
   have hl:s.length=a'.length+1+b.length:=by rw [e]; simp; omega
   have ht:((b.length:Int) < (s.length:Int)):=by omega
   have w:W (W ((s.length:Int) - 1) - (b.length:Int))=(a'.length:Int):=by
    rw [show W ((s.length:Int) - 1)=(s.length:Int) - 1 from W_ok (by omega) (by omega),W_ok (by omega) (by omega)]; omega
   have e':s=a'++(n::b):=by rw [e]; simp
   have hg:(List.replicate (a'++[n]).length (0:Int)++strd b).length=v2.length:=by simp [strd_len,hv2,hl]
   have er:List.replicate (a'++[n]).length (0:Int)++strd b=List.replicate a'.length 0++0::strd b:=by
    rw [List.length_append,List.length_singleton,List.replicate_succ',List.append_assoc]; rfl
   have hj:a'.length < (List.replicate (a'++[n]).length (0:Int)++strd b).length:=by simp; omega
   have hset:(List.replicate (a'++[n]).length (0:Int)++strd b).set a'.length (prodI b)=List.replicate a'.length 0++strd (n::b):=by
    rw [er]
    have:=mid_set (p:=List.replicate a'.length (0:Int)) (s:=strd b) (x:=0) (y:=prodI b)
    simp only [List.length_replicate] at this
    rw [this,← QB]; rfl
   have hidx:idx s (a'.length:Int)=some n:=by rw [e']; exact QJ
   have hposb:∀ k∈n::b,1≤k:=fun k hk=>hpos k (by rw [e']; exact List.mem_append_right _ hk)
   have hposa:∀ k∈a',1≤k:=fun k hk=>hpos k (by rw [e']; exact List.mem_append_left _ hk)
   have hle:prodI (n::b)≤65536:=by
    have:=prod_le hposa hposb
    rw [← e'] at this; omega
   have hge:=prodI_pos hposb
   have w2:W (prodI b * n)=prodI (n::b):=by rw [prodI_cons,Int.mul_comm,W_ok (by rw [← prodI_cons]; omega) (by rw [← prodI_cons]; omega)]
   have w3:W ((b.length:Int)+1)=((n::b).length:Int):=by rw [W_ok (by omega) (by omega)]; simp
   have ih:=str_L1 s v2 hv2 hs hpos hP m a' (n::b) ha' e'
   simp only [ht,if_true,w,guardM_ok hg,Qg,idx_ok hj,setM_ok hj,hset,hidx,w2,w3]
   exact ih
theorem checkR_ok {s:List Int} (h:checkR s=0):s.length≤16∧prodI s≤65536∧∀ n∈s,0≤n∧n≤65536:=by
 unfold checkR at h
 by_cases hn:negB s=true
 ·rw [if_pos hn] at h; cases h
 ·rw [if_neg hn] at h
  by_cases h2:s.length > 16∨bigB s=true∨prodI s > 65536
  ·rw [if_pos h2] at h; cases h
  ·have hn':negB s=false:=by simpa using hn
   have hb:bigB s=false:=by
    cases hb:bigB s with
    | false=>rfl
    | true=>exact absurd (Or.inr (Or.inl hb)) h2
   refine ⟨by omega,by omega,fun n hm=>⟨neg_all hn' n hm,big_all hb n hm⟩⟩
theorem gCells_ok (s:List Int) (hs:Sm s.length):Yg s=some (cellsR s):=by
 simp only [Yg,shapeCheck_ok s hs,Qg,cellsR,sProduct_ok s hs]
 by_cases h:checkR s=0
 ·obtain ⟨h1,h2,h3⟩:=checkR_ok h
  have hn:negB s=false:=by
   cases hn:negB s with
   | false=>rfl
   | true=>unfold checkR at h; rw [if_pos hn] at h; cases h
  have hb:bigB s=false:=by
   cases hb:bigB s with
   | false=>rfl
   | true=>unfold checkR at h; rw [if_neg (by simp [hn]),if_pos (Or.inr (Or.inl hb))] at h; cases h
  simp [h,prodR,hn,hb,show ¬ prodI s > 65536 by omega]
 ·simp [h]
theorem strides_ok {s:List Int} (hc:checkR s=0) (hpos:∀ n∈s,1≤n):Ym s=some (strd s):=by
 obtain ⟨h1,h2,h3⟩:=checkR_ok hc
 have hp:=prodI_pos hpos
 have hm:makeM 8 (s.length:Int) (0:Int)=some (List.replicate s.length 0):=by
  have:((s.length:Int) * 8≤(room:Int)):=by
   have:(1000:Nat) * 8≤room:=by decide +kernel
   omega
  simp [makeM,this]; omega
 have e:=str_L1 s (List.replicate s.length 0) (by simp) (by omega) hpos h2 s.length s [] rfl (by simp)
 simp only [strd,List.append_nil,prodI_nil,List.length_nil,Int.natCast_zero] at e
 simp only [Ym,shapeCheck_ok s (Sm_of (show s.length≤1000 by omega)),Qg,hc,hm,gCells_ok s (Sm_of (show s.length≤1000 by omega)),cellsR,if_true,ne_eq,not_true,if_false,show ¬ prodI s=0 by omega,e]
 rw [guardM_ok (by simp [strd_len])]; rfl
theorem ite_some {α:Type} {p:Prop} [Decidable p] {a b:α}:(if p then some a else some b)=some (if p then a else b):=by split <;> rfl
theorem JW {α:Type} {p s:List α} {x:α} (h:p.length+(x::s).length≤600):W ((p.length:Int)+1)=((p++[x]).length:Int):=by
 simp at h
 rw [W_ok (by omega) (by omega)]; simp
def pmI:List Int→Int
 | []=>1
 | n::s=>(if n < 1 then 1 else n) * pmI s
theorem small_L1 (most:Int) (hm:0≤most∧most≤1000000):∀ (s p:List Int) (v:Int),p.length+s.length≤600→(∀ n∈s,n≤65536)→1≤v→v≤100000000→∃ o,Zu (p++s,most,v,(p.length:Int))=some o∧(o=.inr ()→s=[]∨v * pmI s≤100 * most)
 | [],p,v,h,hd,h1,h2=>by
  refine ⟨.inr (),?_,fun _=>Or.inl rfl⟩; rw [Zu]; simp only [Z6,if_false]
 | x::s,p,v,h,hd,h1,h2=>by
  rw [Zu]
  have w1:W (100 * most)=100 * most:=W_ok (by omega) (by omega)
  have hx:=hd x (List.mem_cons_self ..)
  have hx2:1≤(if x < 1 then 1 else x)∧(if x < 1 then 1 else x)≤65536:=by split <;> omega
  have b1:=Int.mul_le_mul h2 hx2.2 (by omega) (by omega)
  have b2:=Int.mul_le_mul h1 hx2.1 (by omega) (by omega)
  have w2:W (v * (if x < 1 then 1 else x))=v * (if x < 1 then 1 else x):=W_ok (by omega) (by omega)
  simp only [Zy,if_true,QJ,Qg,JW h,w1,w2]
  by_cases hg:v * (if x < 1 then 1 else x) > 100 * most
  ·exact ⟨_,if_pos hg,fun h=>by cases h⟩
  ·obtain ⟨o,e,ho⟩:=small_L1 most hm s (p++[x]) (v * (if x < 1 then 1 else x)) (by simp at h ⊢; omega) (fun n hn=>hd n (List.mem_cons_of_mem _ hn)) (by omega) (by omega)
   rw [← QB] at e
   rw [if_neg hg]
   refine ⟨o,e,fun h=>Or.inr ?_⟩
   rw [pmI,← Int.mul_assoc]
   rcases ho h with rfl|h
   ·rw [pmI,Int.mul_one]; omega
   ·exact h
def smallS (m:Int) (l:List Int):Prop:=l.length≤6∧checkR l=0∧prodI l≤m∧(l=[]∨pmI l≤100 * m)
theorem small_ok2 (l:List Int) (most:Int) (hm:0≤most∧most≤1000000) (hS:Sm l.length):∃ b,Xh (l,most)=some b∧(b=true→smallS most l):=by
 simp only [Xh,Check_ok _ hS,Cells_ok _ hS,Qg,ite_some]
 by_cases g1:(l.length:Int) > 6
 ·exact ⟨false,by simp [g1],fun h=>by cases h⟩
 by_cases g2:checkR l=0
 ·have hc:cellsR l=prodI l:=by rw [cellsR,if_pos g2]
  by_cases g3:cellsR l > most
  ·exact ⟨false,by simp [g1,g2,g3],fun h=>by cases h⟩
  ·obtain ⟨o,e,ho⟩:=small_L1 most hm l [] 1 (by simp; omega) (fun n hn=>((checkR_ok g2).2.2 n hn).2) (by omega) (by omega)
   have e':Zu (l,most,1,0)=some o:=e
   simp only [g1,g2,g3,e',if_false,bne_self_eq_false,Bool.false_eq_true,decide_false,Qg]
   cases o with
   | inl _=>exact ⟨_,rfl,fun h=>by cases h⟩
   | inr _=>exact ⟨_,rfl,fun _=>⟨by omega,g2,by omega,by rcases ho rfl with h|h; exact Or.inl h; exact Or.inr (by omega)⟩⟩
 ·exact ⟨false,by simp [g1,g2],fun h=>by cases h⟩
theorem prodI_zero_iff {s:List Int} (h:∀ n∈s,0≤n) (hz:prodI s≠0):∀ n∈s,1≤n:=fun n hn=>by
 have h0:=h n hn
 rcases Int.lt_or_eq_of_le h0 with g|g
 ·omega
 ·subst g; exact absurd (prodI_zero hn) hz
theorem Count_L1:∀ (s p:List Int),p.length+s.length≤600→Zj (List.replicate (p.length+s.length) 0,p++s,(p.length:Int))=some (if s.any (fun n=>decide (n≤0)) then .inl () else .inr ())
 | [],p,h=>by
  rw [Zj]
  have:¬ ((p.length:Int) < ((List.replicate (p.length+([]:List Int).length) (0:Int)).length:Int)):=by simp
  simp only [this,if_false]; rfl
 | x::s,p,h=>by
  rw [Zj]
  have h1:((p.length:Int) < ((List.replicate (p.length+(x::s).length) (0:Int)).length:Int)):=by simp; omega
  have h2:idx (List.replicate (p.length+(x::s).length) (0:Int)) (p.length:Int)=some 0:=by rw [idx_ok (by simp)]; simp
  have e:=Count_L1 s (p++[x]) (by simp at h ⊢; omega)
  rw [← QB,show (p++[x]).length+s.length=p.length+(x::s).length by simp; omega] at e
  simp only [h1,if_true,h2,QJ,Qg,JW h,e,List.any_cons]
  by_cases g:x≤0
  ·have g':(0:Int)≥x:=g
   simp only [g',if_true,g,decide_true,Bool.true_or]
  ·have g':¬ (0:Int)≥x:=g
   simp only [g',if_false,g,decide_false,Bool.false_or]
theorem Count_L2:∀ (s p:List Int) (v:Int),p.length+s.length≤600→(∀ n∈s,1≤n)→1≤v→v * prodI s≤65536→Zk (List.replicate (p.length+s.length) 0,p++s,v,(p.length:Int))=some (v * prodI s)
 | [],p,v,h,h1,h2,h3=>by
  rw [Zk]
  have:¬ ((p.length:Int) < ((List.replicate (p.length+([]:List Int).length) (0:Int)).length:Int)):=by simp
  simp only [this,if_false,prodI_nil,Int.mul_one]
 | x::s,p,v,h,h1,h2,h3=>by
  rw [Zk]
  have g1:((p.length:Int) < ((List.replicate (p.length+(x::s).length) (0:Int)).length:Int)):=by simp; omega
  have g2:idx (List.replicate (p.length+(x::s).length) (0:Int)) (p.length:Int)=some 0:=by rw [idx_ok (by simp)]; simp
  have hx:=h1 x (List.mem_cons_self ..)
  have hs:=prodI_pos (fun n hn=>h1 n (List.mem_cons_of_mem _ hn))
  rw [prodI_cons,← Int.mul_assoc] at h3
  have b1:1≤v * x:=by have:=Int.mul_le_mul h2 hx (by omega) (by omega); omega
  have b2:(v * x) * 1≤v * x * prodI s:=Int.mul_le_mul_of_nonneg_left hs (by omega)
  have b3:1 * x≤v * x:=Int.mul_le_mul_of_nonneg_right h2 (by omega)
  have w1:W (x - 0)=x:=by rw [Int.sub_zero]; exact W_ok (by omega) (by omega)
  have w2:W (v * x)=v * x:=W_ok (by omega) (by omega)
  have e:=Count_L2 s (p++[x]) (v * x) (by simp at h ⊢; omega) (fun n hn=>h1 n (List.mem_cons_of_mem _ hn)) b1 h3
  rw [← QB,show (p++[x]).length+s.length=p.length+(x::s).length by simp; omega] at e
  simp only [g1,if_true,g2,QJ,Qg,JW h,w1,w2,e,prodI_cons,Int.mul_assoc]
theorem app_le {α:Type} {b:Nat} {l es:List α} (h:l.length+es.length≤100000000) (hb:b≤1000):app b l es=some (l++es):=app_ok (by
 have h1:(l.length+es.length) * b≤100000000 * 1000:=Nat.mul_le_mul h hb
 have h2:100000000 * 1000≤room:=by decide +kernel
 omega)
def rowI (n:Int) (a:List Int):List (List Int):=(List.range n.toNat).map fun (k:Nat)=>a++[(k:Int)]
def extI (out:List (List Int)) (n:Int):List (List Int):=out.flatMap (rowI n)
def allL:List Int→List (List Int)
 | []=>[[]]
 | n::s=>(List.range n.toNat).flatMap fun (k:Nat)=>(allL s).map ((k:Int)::·)
theorem foldl_ext:∀ (s:List Int) (out:List (List Int)),s.foldl extI out=out.flatMap fun a=>(allL s).map (a++·)
 | [],out=>by
  simp only [List.foldl_nil,allL,List.map_cons,List.append_nil,List.map_nil]
  induction out with
  | nil=>rfl
  | cons a o ih=>rw [List.flatMap_cons,← ih]; rfl
 | n::s,out=>by
  rw [List.foldl_cons,foldl_ext s,extI,List.flatMap_assoc]
  congr 1
  funext a
  rw [rowI,List.flatMap_map,allL,List.map_flatMap]
  congr 1
  funext k
  rw [List.map_map]
  congr 1
  funext x
  simp
theorem allI_eq (s:List Int):s.foldl extI [[]]=allL s:=by rw [foldl_ext]; simp
def pm:List Int→Nat
 | []=>1
 | n::s=>max n.toNat 1 * pm s
theorem pm_pos:∀ s:List Int,1≤pm s
 | []=>Nat.le_refl _
 | n::s=>by
  have:=pm_pos s
  rw [pm]
  exact Nat.mul_le_mul (show 1≤max n.toNat 1 by omega) this
theorem rowI_len (n:Int) (a:List Int):(rowI n a).length=n.toNat:=by simp [rowI]
theorem extI_len (n:Int):∀ out:List (List Int),(extI out n).length=out.length * n.toNat
 | []=>by simp [extI]
 | a::o=>by
  have:=extI_len n o
  unfold extI at this ⊢
  rw [List.flatMap_cons,List.length_append,rowI_len,this,List.length_cons,Nat.add_mul,Nat.one_mul]; omega
theorem all_L3 (p:List Int) (i:Nat) (n:Int) (hi:idx p (i:Int)=some n) (out:List (List Int)) (k:Nat) (a:List Int) (hk:idx out (k:Int)=some a) (ha:a.length≤1000) (base:List (List Int)) :
  ∀ (m j:Nat),j+m=n.toNat→base.length+n.toNat≤1000000→Z1 (p,(i:Int),out,(k:Int),base++((List.range j).map fun (x:Nat)=>a++[(x:Int)]),(j:Int))=some (base++rowI n a)
 | 0,j,h1,h2=>by
  rw [Z1]
  have:¬ ((j:Int) < n):=by omega
  simp only [hi,Qg,this,if_false]
  rw [rowI,← h1]; rfl
 | m+1,j,h1,h2=>by
  rw [Z1]
  have ht:((j:Int) < n):=by omega
  have ih:=all_L3 p i n hi out k a hk ha base m (j+1) (by omega) h2
  have w:W ((j:Int)+1)=((j+1:Nat):Int):=W_succ (by omega)
  have a1:app 8 ([]:List Int) a=some a:=by rw [app_le (by simp; omega) (by omega)]; rfl
  have a2:app 8 a [(j:Int)]=some (a++[(j:Int)]):=app_le (by simp; omega) (by omega)
  have a3:app 24 (base++((List.range j).map fun (x:Nat)=>a++[(x:Int)])) [a++[(j:Int)]]=some (base++((List.range (j+1)).map fun (x:Nat)=>a++[(x:Int)])):=by
   rw [app_le (by simp; omega) (by omega),List.range_succ]; simp
  simp only [hi,Qg,ht,if_true,hk,a1,a2,a3,w,ih]
theorem all_L2 (p:List Int) (i:Nat) (n:Int) (hi:idx p (i:Int)=some n):∀ (s q:List (List Int)),(∀ a∈s,a.length≤1000)→((q++s).length+1) * (max n.toNat 1)≤1000000 →
  ZO (q++s,p,(i:Int),extI q n,(q.length:Int))=some (extI (q++s) n)
 | [],q,h1,h2=>by
  rw [ZO]; simp only [List.append_nil,Int.lt_irrefl,if_false]
 | a::s,q,h1,h2=>by
  rw [ZO]
  have hm:(q++a::s).length+1≤1000000:=Nat.le_trans (Nat.le_mul_of_pos_right _ (by omega)) h2
  have hb:(extI q n).length+n.toNat≤1000000:=by
   rw [extI_len]
   have e1:q.length * n.toNat+n.toNat=(q.length+1) * n.toNat:=by rw [Nat.add_mul,Nat.one_mul]
   rw [e1]
   refine Nat.le_trans (Nat.mul_le_mul ?_ ?_) h2
   ·simp
   ·omega
  have e:=all_L3 p i n hi (q++a::s) q.length a QJ (h1 a (List.mem_cons_self ..)) (extI q n) n.toNat 0 (by omega) hb
  have ih:=all_L2 p i n hi s (q++[a]) (fun x hx=>h1 x (List.mem_cons_of_mem _ hx)) (by rw [← QB]; exact h2)
  rw [← QB] at ih
  simp only [List.range_zero,List.map_nil,List.append_nil,Int.natCast_zero] at e
  have ee:extI (q++[a]) n=extI q n++rowI n a:=by unfold extI; rw [List.flatMap_append]; simp
  simp only [Zy,if_true,e,Qg,mid_W (Sm_of (show (q++a::s).length≤1000000 by omega)),← ee,ih]
theorem mem_ext_len {out:List (List Int)} {n:Int} {m:Nat} (h:∀ a∈out,a.length=m):∀ a∈extI out n,a.length=m+1:=fun a ha=>by
 unfold extI at ha
 obtain ⟨b,hb,hc⟩:=List.mem_flatMap.1 ha
 unfold rowI at hc
 obtain ⟨k,_,rfl⟩:=List.mem_map.1 hc
 simp [h b hb]
theorem all_L1:∀ (s p:List Int) (out:List (List Int)),(p++s).length≤900→(∀ a∈out,a.length=p.length)→(out.length+1) * pm s≤500000→ZN (p++s,out,(p.length:Int))=some (s.foldl extI out)
 | [],p,out,hs,h1,h2=>by
  rw [ZN]; simp only [Z6,if_false,List.foldl_nil]
 | n::s,p,out,hs,h1,h2=>by
  rw [ZN]
  have hp:=pm_pos s
  rw [pm,← Nat.mul_assoc] at h2
  have b1:(out.length+1) * max n.toNat 1≤500000:=Nat.le_trans (Nat.le_mul_of_pos_right _ hp) h2
  have e:ZO (out,p++n::s,(p.length:Int),[],0)=some (extI out n):=all_L2 (p++n::s) p.length n QJ out [] (fun a ha=>by have:=h1 a ha; simp at hs; omega) (Nat.le_trans b1 (by omega))
  have ih:=all_L1 s (p++[n]) (extI out n) (by rw [← QB]; exact hs) (fun a ha=>by rw [mem_ext_len h1 a ha]; simp) (by
   refine Nat.le_trans (Nat.mul_le_mul_right _ ?_) h2
   rw [extI_len,Nat.add_mul,Nat.one_mul]
   have:=Nat.mul_le_mul_left out.length (show n.toNat≤max n.toNat 1 by omega)
   omega)
  rw [← QB] at ih
  simp only [Zy,if_true,e,Qg,mid_W (Sm_of hs),ih,List.foldl_cons]
theorem All_ok {s:List Int} (hs:s.length≤900) (h:pm s≤250000):ZS s=some (allL s):=by
 have e:ZN (s,[[]],0)=some (s.foldl extI [[]]):=all_L1 s [] [[]] hs (by simp) (by simpa using by omega)
 simp only [ZS,e,Qg,allI_eq]

theorem flat_len {α:Type} (f:Nat→List α) (c:Nat) (h:∀ k,(f k).length=c):∀ m:Nat,((List.range m).flatMap f).length=m * c
 | 0=>by simp
 | m+1=>by rw [List.range_succ,List.flatMap_append,List.length_append,flat_len f c h m]; simp [h,Nat.add_mul]
theorem allL_len:∀ {s:List Int},(∀ n∈s,0≤n)→((allL s).length:Int)=prodI s
 | [],_=>by simp [allL,prodI]
 | n::s,h=>by
  have ih:=allL_len (s:=s) fun m hm=>h m (List.mem_cons_of_mem _ hm)
  have h0:=h n (List.mem_cons_self ..)
  rw [allL,flat_len _ (allL s).length (fun k=>by simp),Int.natCast_mul,ih,prodI_cons,Int.toNat_of_nonneg h0]
theorem flat_get {α:Type} (f:Nat→List α) (c:Nat) (h:∀ k,(f k).length=c) (hc:1≤c):∀ (m j:Nat),j < m * c→((List.range m).flatMap f)[j]? = (f (j / c))[j % c]?
 | 0,j,hj=>by simp at hj
 | m+1,j,hj=>by
  rw [List.range_succ,List.flatMap_append,List.getElem?_append]
  have hl:=flat_len f c h m
  rw [hl]
  by_cases hlt:j < m * c
  ·rw [if_pos hlt]; exact flat_get f c h hc m j hlt
  ·rw [if_neg hlt]
   have e1:j / c=m:=Nat.div_eq_of_lt_le (by omega) (by omega)
   have e2:j % c=j - m * c:=by
    have:=Nat.div_add_mod j c
    rw [e1,Nat.mul_comm] at this
    omega
   rw [e1,e2]; simp
theorem allL_get:∀ {s:List Int},(∀ n∈s,1≤n)→∀ j:Nat,(j:Int) < prodI s→(allL s)[j]? = some (dig s (j:Int))
 | [],_,j,hj=>by
  have:j=0:=by simp [prodI] at hj; omega
  subst this; rfl
 | n::s,h,j,hj=>by
  have hs:∀ m∈s,1≤m:=fun m hm=>h m (List.mem_cons_of_mem _ hm)
  have h0:=h n (List.mem_cons_self ..)
  have hl:=allL_len (s:=s) fun m hm=>by have:=hs m hm; omega
  have hp:=prodI_pos hs
  rw [prodI_cons] at hj
  have hc:1≤(allL s).length:=by omega
  have hj2:j < n.toNat * (allL s).length:=by
   have:((n.toNat * (allL s).length:Nat):Int)=n * prodI s:=by rw [Int.natCast_mul,hl,Int.toNat_of_nonneg (by omega)]
   omega
  rw [allL,flat_get _ (allL s).length (fun k=>by simp) hc _ _ hj2,List.getElem?_map]
  have hm:((j % (allL s).length:Nat):Int)=(j:Int) % prodI s:=by rw [Int.natCast_emod,hl]
  have hd:((j / (allL s).length:Nat):Int)=(j:Int) / prodI s:=by rw [Int.natCast_ediv,hl]
  rw [allL_get hs (j % (allL s).length) (by rw [hm]; exact Int.emod_lt_of_pos _ (by omega)),Option.map_some,hm,hd,dig]
theorem pm_pmI:∀ s:List Int,((pm s:Nat):Int)=pmI s
 | []=>rfl
 | n::s=>by
  rw [pm,pmI,Int.natCast_mul,pm_pmI s]
  congr 1
  split <;> omega
theorem small_pm {m:Int} {s:List Int} (h:smallS m s) (hm:1≤m):(pm s:Int)≤100 * m:=by
 rcases h.2.2.2 with rfl|h
 ·simp [pm]; omega
 ·rw [pm_pmI]; exact h
theorem small_All {m:Int} {s:List Int} (h:smallS m s) (hm:1≤m∧m≤2500):ZS s=some (allL s):=All_ok (by have:=h.1; omega) (by have:=small_pm h hm.1; omega)

def dotF:List Int→List Int→Int→Int
 | a::s,b::t,x=>dotF s t (W (x+W (a * b)))
 | _,_,x=>x
theorem rDot_L1:∀ (s t p q:List Int) (x:Int),p.length=q.length→(p++s).length≤1000→(q++t).length≤1000→ZP (p++s,q++t,x,(p.length:Int))=some (dotF s t x)
 | [],t,p,q,x,h,h1,h2=>by
  rw [ZP]
  simp only [Z6,if_false,Qg,Bool.false_eq_true,dotF]
 | a::s,[],p,q,x,h,h1,h2=>by
  rw [ZP]
  have:¬ ((p.length:Int) < ((q++([]:List Int)).length:Int)):=by simp; omega
  simp only [Zy,if_true,this,decide_false,Qg,Bool.false_eq_true,if_false,dotF]
 | a::s,b::t,p,q,x,h,h1,h2=>by
  rw [ZP]
  have e1:((p.length:Int) < ((q++b::t).length:Int)):=by simp; omega
  have e2:idx (q++b::t) (p.length:Int)=some b:=by rw [h]; exact QJ
  have e:=rDot_L1 s t (p++[a]) (q++[b]) (W (x+W (a * b))) (by simp [h]) (by simpa using h1) (by simpa using h2)
  rw [← QB,← QB] at e
  have w:W ((p.length:Int)+1)=((p++[a]).length:Int):=mid_W (Sm_of h1)
  simp only [Zy,if_true,e1,decide_true,Qg,QJ,e2,w,e,dotF]
theorem rDot_ok {a b:List Int} (h1:a.length≤1000) (h2:b.length≤1000):XY (a,b)=some (dotF a b 0):=by
 have e:=rDot_L1 a b [] [] 0 rfl (by simpa using h1) (by simpa using h2)
 simp only [List.nil_append,List.length_nil,Int.natCast_zero] at e
 unfold XY
 simp only [e,Qg]
def cellR (c:Qb):Prop:=(0≤c.buffer∧c.buffer≤100000)∧(0≤c.offset∧c.offset≤100000)∧(c.fill=true→c.buffer=0∧c.offset=0)
theorem right_L1:∀ (s p:List Qb),p.length+s.length≤600→∃ o,Zr (p++s,(p.length:Int))=some o∧(o=.inr ()→∀ c∈s,cellR c)
 | [],p,h=>by rw [Zr]; simp only [Z6,if_false]; exact ⟨_,rfl,fun _ c h=>by simp at h⟩
 | x::s,p,h=>by
  rw [Zr]
  obtain ⟨o,e,ho⟩:=right_L1 s (p++[x]) (by simp at h ⊢; omega)
  rw [← QB] at e
  simp only [Zy,if_true,QJ,Qg,ite_some,JW h,e]
  refine ⟨_,rfl,fun h=>?_⟩
  have hR:cellR x∧o=.inr ():=by
   obtain ⟨f,b,o'⟩:=x
   unfold cellR
   dsimp only at h ⊢
   by_cases c1:b < 0
   ·simp [c1] at h
   by_cases c2:o' < 0
   ·simp [c1,c2] at h
   by_cases c3:b > 100000
   ·simp [c1,c2,c3] at h
   by_cases c4:o' > 100000
   ·simp [c1,c2,c3,c4] at h
   cases f with
   | false=>simp [c1,c2,c3,c4] at h; exact ⟨⟨⟨by omega,by omega⟩,⟨by omega,by omega⟩,fun h=>by cases h⟩,h⟩
   | true =>
    by_cases c5:b=0
    ·by_cases c6:o'=0
     ·simp [c5,c6] at h; exact ⟨⟨⟨by omega,by omega⟩,⟨by omega,by omega⟩,fun _=>⟨c5,c6⟩⟩,h⟩
     ·simp [c1,c2,c3,c4,c5,c6] at h
    ·simp [c1,c2,c3,c4,c5] at h
  intro c hm
  rcases List.mem_cons.1 hm with rfl|hm
  ·exact hR.1
  ·exact ho hR.2 c hm
theorem right_ok (l:List Qb) (most:Int) (hm:0≤most∧most≤600):∃ b,Xg (l,most)=some b∧(b=true→(l.length:Int)≤most∧∀ c∈l,cellR c):=by
 unfold Xg
 by_cases h:(l.length:Int) > most
 ·simp only [h,if_true]; exact ⟨_,rfl,fun h=>by cases h⟩
 ·obtain ⟨o,e,ho⟩:=right_L1 l [] (by simp; omega)
  have e':Zr (l,0)=some o:=e
  simp only [h,if_false,e',Qg]
  cases o with
  | inl _=>exact ⟨_,rfl,fun h=>by cases h⟩
  | inr _=>exact ⟨_,rfl,fun _=>⟨by omega,ho rfl⟩⟩
def toP (c:Qb):Qs:=⟨c.fill,c.buffer,c.offset⟩
theorem cells_L1:∀ (s p:List Qb),p.length+s.length≤600→Zq (p++s,p.map toP,(p.length:Int))=some ((p++s).map toP)
 | [],p,h=>by rw [Zq]; simp only [Z6,if_false]; simp only [List.append_nil]
 | x::s,p,h=>by
  rw [Zq]
  have e:=cells_L1 s (p++[x]) (by simp at h ⊢; omega)
  rw [← QB,List.map_append] at e
  simp only [Zy,if_true,QJ,Qg,JW h,app_le (b:=24) (l:=p.map toP) (es:=[(⟨x.fill,x.buffer,x.offset⟩:Qs)]) (by simp at h ⊢; omega) (by omega)]
  exact e
theorem cells_ok (l:List Qb) (h:l.length≤600):Xf l=some (l.map toP):=by
 unfold Xf
 have e:Zq (l,[],0)=some (l.map toP):=cells_L1 l [] (by simp; omega)
 simp only [e,Qg]

def ce (l:List Qb) (i:Nat):Qb:=l.getD i ⟨false,0,0⟩
def stp (l:List Qb) (a:Nat):Int:=if a+1 < l.length∧(ce l a).fill=false∧(ce l (a+1)).fill=false∧(ce l (a+1)).buffer=(ce l a).buffer then (ce l (a+1)).offset - (ce l a).offset else 0
def cellK (c:Qb) (st:Int) (k:Nat):Qb:=if c.fill=true then ⟨true,0,0⟩ else ⟨false,c.buffer,c.offset+k * st⟩
def sameC (a b:Qb):Bool:=a.fill == b.fill && (a.buffer == b.buffer && a.offset == b.offset)
theorem sameC_iff {a b:Qb}:sameC a b=true↔a=b:=by
 obtain ⟨f,x,y⟩:=a
 obtain ⟨g,z,w⟩:=b
 simp [sameC]
def mtc (l:List Qb) (a k:Nat):Bool:=sameC (ce l (a+k)) (cellK (ce l a) (stp l a) k)
def ext (l:List Qb) (a:Nat):Nat→Nat→Nat
 | 0,n=>n
 | f+1,n=>if mtc l a n=true then ext l a f (n+1) else n
def runN (l:List Qb) (a:Nat):Nat:=ext l a (l.length - (a+1)) 1
def runR (l:List Qb) (a:Nat):Qe:=⟨a,runN l a,(ce l a).fill,(ce l a).buffer,(ce l a).offset,stp l a⟩
def ofF (l:List Qb):Nat→Nat→List Qe
 | 0,_=>[]
 | f+1,a=>if a < l.length then runR l a::ofF l f (a+runN l a) else []
def toRn (r:Qe):Qk:=⟨r.at0_,r.len,r.fill,r.buffer,r.offset,r.step⟩

theorem ext_ge (l:List Qb) (a:Nat):∀ f n,n≤ext l a f n∧ext l a f n≤n+f
 | 0,n=>⟨Nat.le_refl _,Nat.le_refl _⟩
 | f+1,n=>by
  rw [ext]
  split
  ·have:=ext_ge l a f (n+1); omega
  ·omega
theorem ext_all (l:List Qb) (a:Nat):∀ f n k,n≤k→k < ext l a f n→mtc l a k=true
 | 0,n,k,h1,h2=>by rw [ext] at h2; omega
 | f+1,n,k,h1,h2=>by
  rw [ext] at h2
  split at h2
  ·rename_i h
   by_cases e:n=k
   ·subst e; exact h
   ·exact ext_all l a f (n+1) k (by omega) h2
  ·omega
theorem runN_le {l:List Qb} {a:Nat} (h:a < l.length):1≤runN l a∧a+runN l a≤l.length:=by
 have:=ext_ge l a (l.length - (a+1)) 1
 unfold runN
 omega
theorem ce_idx {l:List Qb} {i:Nat} (h:i < l.length):idx l (i:Int)=some (ce l i):=by
 rw [idx_ok h]; simp [ce,h]
theorem ce_P {l:List Qb} {i:Nat} (h:i < l.length):idx (l.map toP) (i:Int)=some (toP (ce l i)):=by
 rw [idx_ok (by simpa using h)]; simp [ce,h]
theorem ce_mem {l:List Qb} {i:Nat} (h:i < l.length):ce l i∈l:=by simp [ce,h]
theorem stp_b {l:List Qb} (hc:∀ c∈l,cellR c) (a:Nat) (ha:a < l.length):-100000≤stp l a∧stp l a≤100000:=by
 unfold stp
 split
 ·rename_i h
  have h1:=(hc _ (ce_mem ha)).2.1
  have h2:=(hc _ (ce_mem h.1)).2.1
  omega
 ·omega
theorem W_in {n:Int} (h1:-1000000000000≤n) (h2:n≤1000000000000):W n=n:=W_ok (by omega) (by omega)
theorem mul_b {a b A B:Int} (h1:-A≤a) (h2:a≤A) (h3:-B≤b) (h4:b≤B):-(A * B)≤a * b∧a * b≤A * B:=by
 have hA:0≤A:=by omega
 have hB:0≤B:=by omega
 have e1:0≤(A - a) * (B+b):=Int.mul_nonneg (by omega) (by omega)
 have e2:0≤(A+a) * (B - b):=Int.mul_nonneg (by omega) (by omega)
 have e3:0≤(A - a) * (B - b):=Int.mul_nonneg (by omega) (by omega)
 have e4:0≤(A+a) * (B+b):=Int.mul_nonneg (by omega) (by omega)
 simp only [Int.sub_mul,Int.add_mul,Int.mul_sub,Int.mul_add] at e1 e2 e3 e4
 constructor <;> omega
theorem cell_ok (r:Qk) (c:Qb) (k:Nat) (hk:k≤600) (h1:r.fill=c.fill) (h2:r.buffer=c.buffer) (h3:r.offset=c.offset) (ho:0≤c.offset∧c.offset≤100000) (hs:-100000≤r.step∧r.step≤100000) :
  YL (r,(k:Int))=some (toP (cellK c r.step k)):=by
 unfold YL cellK
 dsimp only
 rw [h1]
 by_cases hf:c.fill=true
 ·simp only [hf,if_true]; rfl
 ·have:=mul_b (a:=(k:Int)) (b:=r.step) (A:=600) (B:=100000) (by omega) (by omega) hs.1 hs.2
  have e1:W ((k:Int) * r.step)=k * r.step:=W_in (by omega) (by omega)
  have e2:W (r.offset+k * r.step)=c.offset+k * r.step:=by rw [h3]; exact W_in (by omega) (by omega)
  simp only [hf,if_false,e1,e2,h2]
  rfl
theorem sameP (a b:Qb):(!(((toP a).fill == (toP b).fill) && (((toP a).buffer == (toP b).buffer) && (((toP a).offset == (toP b).offset) && true))))=!sameC a b:=by
 simp [sameC,toP]

theorem begun_ok {l:List Qb} {a:Nat} (ha:a < l.length) (hc:∀ c∈l,cellR c):Xv ((l.drop a).map toP,(a:Int))=some ⟨a,1,(ce l a).fill,(ce l a).buffer,(ce l a).offset,stp l a⟩:=by
 have hd:l.drop a=ce l a::l.drop (a+1):=by
  rw [List.drop_eq_getElem_cons ha]; simp [ce,ha]
 unfold Xv
 have h0:idx ((l.drop a).map toP) 0=some (toP (ce l a)):=by rw [hd]; rfl
 simp only [h0,Qg]
 by_cases h:a+1 < l.length
 ·have hd2:l.drop (a+1)=ce l (a+1)::l.drop (a+2):=by
   rw [List.drop_eq_getElem_cons h]; simp [ce,h]
  have h1:idx ((l.drop a).map toP) 1=some (toP (ce l (a+1))):=by rw [hd,hd2]; rfl
  have hl:(((l.drop a).map toP).length:Int) > 1:=by simp; omega
  simp only [hl,if_true,Qg,h1]
  have b1:=(hc _ (ce_mem ha)).2.1
  have b2:=(hc _ (ce_mem h)).2.1
  have hW:W ((toP (ce l (a+1))).offset - (toP (ce l a)).offset)=(ce l (a+1)).offset - (ce l a).offset:=W_in (by simp [toP]; omega) (by simp [toP]; omega)
  rw [hW]
  unfold stp
  by_cases f1:(ce l a).fill=true
  ·simp [toP,f1]
  ·by_cases f2:(ce l (a+1)).fill=true
   ·simp [toP,f1,f2]
   ·by_cases f3:(ce l (a+1)).buffer=(ce l a).buffer
    ·simp [toP,f1,f2,f3,h]
    ·simp [toP,f1,f2,f3]
 ·have hl:¬ ((((l.drop a).map toP).length:Int) > 1):=by simp; omega
  simp only [hl,if_false,Qg]
  simp [toP,stp,h]
theorem W_nat {n:Nat} (h:n≤1000000):W ((n:Int)+1)=((n+1:Nat):Int):=by rw [W_in (by omega) (by omega)]; omega
theorem pOf_L2 {l:List Qb} (hl:l.length≤600) (hc:∀ c∈l,cellR c) {a:Nat} (ha:a < l.length) (out:List Qk) (ho:out.length≤600) (r:Qk) (hr:r=⟨a,1,(ce l a).fill,(ce l a).buffer,(ce l a).offset,stp l a⟩) :
  ∀ (f n:Nat),1≤n→a+n+f=l.length→Ye (l.map toP,r,out,(n:Int),((a+n - 1:Nat):Int))=some (((ext l a f n:Nat):Int),out++[(⟨a,((ext l a f n:Nat):Int),(ce l a).fill,(ce l a).buffer,(ce l a).offset,stp l a⟩:Qk)],((a+ext l a f n:Nat):Int))
 | 0,n,h1,h2=>by
  rw [Ye]
  have hW:W (((a+n - 1:Nat):Int)+1)=((a+n:Nat):Int):=by rw [W_nat (by omega)]; omega
  have he:(((a+n:Nat):Int)=((l.map toP).length:Int)):=by simp; omega
  subst hr
  simp only [hW,he,if_true,Qg,ext]
  rw [app_le (by simp; omega) (by omega),Qg]
 | f+1,n,h1,h2=>by
  rw [Ye]
  have hW:W (((a+n - 1:Nat):Int)+1)=((a+n:Nat):Int):=by rw [W_nat (by omega)]; omega
  have he:¬ (((a+n:Nat):Int)=((l.map toP).length:Int)):=by simp; omega
  have hlt:a+n < l.length:=by omega
  have hst:=stp_b hc a ha
  have hof:=(hc _ (ce_mem ha)).2.1
  have hcell:=cell_ok (⟨a,(n:Int),(ce l a).fill,(ce l a).buffer,(ce l a).offset,stp l a⟩:Qk) (ce l a) n (by omega) rfl rfl rfl hof hst
  have ih:=pOf_L2 hl hc ha out ho r hr f (n+1) (by omega) (by omega)
  subst hr
  simp only [hW,he,if_false,ce_P hlt,Qg,hcell,sameP]
  have hm:mtc l a n=sameC (ce l (a+n)) (cellK (ce l a) (stp l a) n):=rfl
  rw [ext]
  rw [← hm]
  cases hq:mtc l a n with
  | true =>
   simp only [Bool.not_true,Bool.false_eq_true,if_false,if_true]
   have hWn:W ((n:Int)+1)=((n+1:Nat):Int):=W_nat (by omega)
   rw [hWn,show a+n=a+(n+1) - 1 by omega]
   exact ih
  | false =>
   simp only [Bool.not_false,if_true,Bool.false_eq_true,if_false]
   rw [app_le (by simp; omega) (by omega),Qg]
theorem pOf_L1 {l:List Qb} (hl:l.length≤600) (hc:∀ c∈l,cellR c):∀ (f a:Nat) (out:List Qk),a≤l.length→l.length - a≤f→out.length≤a→Yd (l.map toP,out,(a:Int))=some (out++(ofF l f a).map toRn)
 | 0,a,out,h1,h2,h3=>by
  rw [Yd]
  have:¬ ((a:Int) < ((l.map toP).length:Int)):=by simp; omega
  simp only [this,if_false,ofF,List.map_nil,List.append_nil]
 | f+1,a,out,h1,h2,h3=>by
  rw [Yd,ofF]
  by_cases h:a < l.length
  ·have hlt:(a:Int) < ((l.map toP).length:Int):=by simp; omega
   have hs:sub (l.map toP) (a:Int) ((l.map toP).length:Int)=some ((l.drop a).map toP):=by
    unfold sub; rw [if_pos ⟨by omega,by omega,Int.le_refl _⟩]
    rw [List.map_drop]
    simp only [Int.toNat_natCast,List.take_length]
   have e2:=pOf_L2 hl hc h out (by omega) _ rfl (l.length - (a+1)) 1 (Nat.le_refl _) (by omega)
   simp only [show a+1 - 1=a by omega] at e2
   have e3:Ye (l.map toP,⟨a,1,(ce l a).fill,(ce l a).buffer,(ce l a).offset,stp l a⟩,out,1,(a:Int))=some (((runN l a:Nat):Int),out++[toRn (runR l a)],((a+runN l a:Nat):Int)):=e2
   have hn:=runN_le h
   simp only [hlt,if_true,hs,Qg,begun_ok h hc,e3,h]
   rw [pOf_L1 hl hc f (a+runN l a) _ hn.2 (by omega) (by simp; omega)]
   simp
  ·have hlt:¬ ((a:Int) < ((l.map toP).length:Int)):=by simp; omega
   simp [hlt,h]
def ofR (l:List Qb):List Qe:=ofF l l.length 0
theorem pOf_ok {l:List Qb} (hl:l.length≤600) (hc:∀ c∈l,cellR c):Js (l.map toP)=some ((ofR l).map toRn):=by
 have e:=pOf_L1 hl hc l.length 0 [] (by omega) (by omega) (by simp)
 have e':Yd (l.map toP,[],0)=some ((ofR l).map toRn):=e
 simp only [Js,e',Qg]

def cnd (q:List Qb) (j:Nat):Prop:=(ce q j).fill=(ce q 0).fill∧(ce q j).buffer=(ce q 0).buffer∧(ce q j).offset - (ce q (j - 1)).offset=(ce q 1).offset - (ce q 0).offset
theorem uni_L1 {q:List Qb} (hq:q.length≤600) (hc:∀ c∈q,cellR c):∀ (f i:Nat),1≤i→i+f=q.length→∃ r,Zc (q,(i:Int))=some r∧(r=.inr ()↔∀ j,i≤j→j < q.length→cnd q j)
 | 0,i,h1,h2=>by
  rw [Zc]
  have:¬ ((i:Int) < (q.length:Int)):=by omega
  simp only [this,if_false]
  exact ⟨_,rfl,by simp; intro j a b; omega⟩
 | f+1,i,h1,h2=>by
  rw [Zc]
  have hlt:(i:Int) < (q.length:Int):=by omega
  obtain ⟨r,e,hr⟩:=uni_L1 hq hc f (i+1) (by omega) (by omega)
  have i0:idx q 0=some (ce q 0):=ce_idx (i:=0) (by omega)
  have i1:idx q 1=some (ce q 1):=ce_idx (i:=1) (by omega)
  have ii:idx q (i:Int)=some (ce q i):=ce_idx (by omega)
  have hWm:W ((i:Int) - 1)=((i - 1:Nat):Int):=by rw [W_in (by omega) (by omega)]; omega
  have im:idx q ((i - 1:Nat):Int)=some (ce q (i - 1)):=ce_idx (by omega)
  have b0:=(hc _ (ce_mem (i:=0) (l:=q) (by omega))).2.1
  have b1:=(hc _ (ce_mem (i:=1) (l:=q) (by omega))).2.1
  have bi:=(hc _ (ce_mem (i:=i) (l:=q) (by omega))).2.1
  have bm:=(hc _ (ce_mem (i:=i - 1) (l:=q) (by omega))).2.1
  have w1:W ((ce q i).offset - (ce q (i - 1)).offset)=(ce q i).offset - (ce q (i - 1)).offset:=W_in (by omega) (by omega)
  have w2:W ((ce q 1).offset - (ce q 0).offset)=(ce q 1).offset - (ce q 0).offset:=W_in (by omega) (by omega)
  simp only [hlt,if_true,ii,i0,i1,hWm,im,Qg,w1,w2,W_nat (show i≤1000000 by omega),e]
  have key:(∀ j,i≤j→j < q.length→cnd q j)↔cnd q i∧∀ j,i+1≤j→j < q.length→cnd q j:=by
   constructor
   ·exact fun h=>⟨h i (Nat.le_refl _) (by omega),fun j a b=>h j (by omega) b⟩
   ·rintro ⟨h3,h4⟩ j a b
    by_cases e:i=j
    ·subst e; exact h3
    ·exact h4 j (by omega) b
  rw [key]
  by_cases c1:(ce q i).fill=(ce q 0).fill
  ·by_cases c2:(ce q i).buffer=(ce q 0).buffer
   ·by_cases c3:(ce q i).offset - (ce q (i - 1)).offset=(ce q 1).offset - (ce q 0).offset
    ·have hcn:cnd q i:=⟨c1,c2,c3⟩
     simp only [c1,c2,c3,bne_self_eq_false,Bool.false_eq_true,if_false,Qg]
     exact ⟨r,rfl,by simp [hr,hcn]⟩
    ·have hcn:¬ cnd q i:=fun h=>c3 h.2.2
     simp [c1,c2,c3,hcn]
   ·have hcn:¬ cnd q i:=fun h=>c2 h.2.1
    simp [c1,c2,hcn]
  ·have hcn:¬ cnd q i:=fun h=>c1 h.1
   have:((ce q i).fill != (ce q 0).fill)=true:=by simp [c1]
   simp [this,hcn]
theorem ce_sub {l:List Qb} {a m j:Nat} (h:j < m) (h2:a+m≤l.length):ce ((l.drop a).take m) j=ce l (a+j):=by
 simp [ce,List.getD_eq_getElem?_getD,List.getElem?_take,h]
theorem cellK_step {c:Qb} {st:Int} (hf:c.fill=false) (k:Nat):cellK c st k=⟨false,c.buffer,c.offset+k * st⟩:=by simp [cellK,hf]
theorem uni_mtc {l:List Qb} (hc:∀ c∈l,cellR c) {a n:Nat} (hn:1≤n) (h:a+n < l.length) (hprev:∀ k,1≤k→k < n→mtc l a k=true) :
  (∀ j,1≤j→j < n+1→cnd ((l.drop a).take (n+1)) j)↔mtc l a n=true:=by
 have hce:∀ j,j≤n→ce ((l.drop a).take (n+1)) j=ce l (a+j):=fun j hj=>ce_sub (by omega) (by omega)
 have hz:∀ j,j≤n→(ce l (a+j)).fill=true→ce l (a+j)=⟨true,0,0⟩:=fun j hj hf=>by
  have:=(hc _ (ce_mem (l:=l) (i:=a+j) (by omega))).2.2 hf
  generalize ce l (a+j)=x at hf this
  obtain ⟨f,b,o⟩:=x
  simp at hf this
  simp [hf,this]
 have hm:∀ j,mtc l a j=true↔ce l (a+j)=cellK (ce l a) (stp l a) j:=fun j=>sameC_iff
 by_cases hf:(ce l a).fill=true
 ·have h1:∀ j,mtc l a j=true↔ce l (a+j)=⟨true,0,0⟩:=fun j=>by rw [hm,cellK,if_pos hf]
  have ha0:=hz 0 (by omega) hf
  rw [Nat.add_zero a] at ha0
  rw [h1]
  constructor
  ·intro H
   have:=(H n hn (by omega)).1
   rw [hce n (Nat.le_refl _),hce 0 (by omega),Nat.add_zero a,hf] at this
   exact hz n (Nat.le_refl _) this
  ·intro H j j1 j2
   have e:∀ k,k≤n→ce l (a+k)=⟨true,0,0⟩:=fun k hk=>by
    by_cases k0:k=0
    ·subst k0; exact ha0
    ·by_cases kn:k=n
     ·subst kn; exact H
     ·exact (h1 k).1 (hprev k (by omega) (by omega))
   unfold cnd
   rw [hce j (by omega),hce 0 (by omega),hce (j - 1) (by omega),hce 1 (by omega),e j (by omega),e 0 (by omega),e (j - 1) (by omega),e 1 (by omega)]
   exact ⟨rfl,rfl,rfl⟩
 ·have hf':(ce l a).fill=false:=by simpa using hf
  have h1:∀ j,mtc l a j=true↔ce l (a+j)=⟨false,(ce l a).buffer,(ce l a).offset+j * stp l a⟩:=fun j=>by rw [hm,cellK_step hf']
  constructor
  ·intro H
   obtain ⟨p1,p2,_⟩:=H 1 (Nat.le_refl _) (by omega)
   rw [hce 1 (by omega),hce 0 (by omega),Nat.add_zero a] at p1 p2
   have hst:stp l a=(ce l (a+1)).offset - (ce l a).offset:=by
    unfold stp; rw [if_pos ⟨by omega,hf',by rw [p1,hf'],p2⟩]
   obtain ⟨q1,q2,q3⟩:=H n hn (by omega)
   rw [hce n (Nat.le_refl _),hce 0 (by omega),Nat.add_zero a] at q1 q2
   rw [hce n (Nat.le_refl _),hce 0 (by omega),hce (n - 1) (by omega),hce 1 (by omega),Nat.add_zero a,← hst] at q3
   rw [h1]
   have hprevo:(ce l (a+(n - 1))).offset=(ce l a).offset+((n - 1:Nat):Int) * stp l a:=by
    by_cases n1:n=1
    ·subst n1; simp
    ·have:=(h1 (n - 1)).1 (hprev (n - 1) (by omega) (by omega))
     rw [this]
   have ho:(ce l (a+n)).offset=(ce l a).offset+(n:Int) * stp l a:=by
    have e1:((n:Nat):Int)=((n - 1:Nat):Int)+1:=by omega
    rw [e1,Int.add_mul,Int.one_mul]
    omega
   generalize hx:ce l (a+n)=x at q1 q2 ho
   obtain ⟨f,b,o⟩:=x
   simp at q1 q2 ho
   simp [q1,hf',q2,ho]
  ·intro H j j1 j2
   have e:∀ k,k≤n→ce l (a+k)=⟨false,(ce l a).buffer,(ce l a).offset+k * stp l a⟩:=fun k hk=>by
    by_cases k0:k=0
    ·subst k0
     have:ce l (a+0)=ce l a:=rfl
     rw [this]
     generalize ce l a=x at hf'
     obtain ⟨f,b,o⟩:=x
     simp at hf'
     simp [hf']
    ·by_cases kn:k=n
     ·subst kn; exact (h1 k).1 H
     ·exact (h1 k).1 (hprev k (by omega) (by omega))
   unfold cnd
   rw [hce j (by omega),hce 0 (by omega),hce (j - 1) (by omega),hce 1 (by omega),e j (by omega),e 0 (by omega),e (j - 1) (by omega),e 1 (by omega)]
   refine ⟨rfl,rfl,?_⟩
   simp only
   have e1:((j:Nat):Int)=((j - 1:Nat):Int)+1:=by omega
   rw [e1,Int.add_mul]
   simp
   omega
theorem rOf_L2 {l:List Qb} (hl:l.length≤600) (hc:∀ c∈l,cellR c) {a:Nat} (ha:a < l.length) (out:List Qe) :
  ∀ (f n:Nat),1≤n→a+n+f=l.length→(∀ k,1≤k→k < n→mtc l a k=true)→ZZ ((a:Int),l,out,(n:Int))=some ((ext l a f n:Nat):Int)
 | 0,n,h1,h2,hp=>by
  rw [ZZ]
  have hW:W ((a:Int)+n)=((a+n:Nat):Int):=by rw [W_in (by omega) (by omega)]; omega
  have:¬ (((a+n:Nat):Int) < (l.length:Int)):=by omega
  simp only [hW,this,if_false,ext,Qg,Bool.false_eq_true]
 | f+1,n,h1,h2,hp=>by
  rw [ZZ,ext]
  have hW:W ((a:Int)+n)=((a+n:Nat):Int):=by rw [W_in (by omega) (by omega)]; omega
  have hlt:((a+n:Nat):Int) < (l.length:Int):=by omega
  have hs:sub l (a:Int) ((a+n+1:Nat):Int)=some ((l.drop a).take (n+1)):=by
   unfold sub; rw [if_pos ⟨by omega,by omega,by omega⟩]
   rw [Int.toNat_natCast,Int.toNat_natCast,List.drop_take]
   rw [show a+n+1 - a=n+1 by omega]
  have hlen:((l.drop a).take (n+1)).length=n+1:=by simp; omega
  obtain ⟨r,e,hr⟩:=uni_L1 (q:=(l.drop a).take (n+1)) (by rw [hlen]; omega) (fun c h=>hc c (List.mem_of_mem_drop (List.mem_of_mem_take h))) n 1 (Nat.le_refl _) (by rw [hlen]; omega)
  rw [hlen,uni_mtc hc h1 (by omega) hp] at hr
  have hu:YK ((l.drop a).take (n+1))=some (mtc l a n):=by
   have e':Zc ((l.drop a).take (n+1),1)=some r:=e
   simp only [YK,e',Qg]
   cases r with
   | inl u=>cases hq:mtc l a n with
    | true=>have:=hr.2 hq; cases this
    | false=>rfl
   | inr u=>rw [hr.1 rfl]
  simp only [hW,hlt,if_true,W_nat (show a+n≤1000000 by omega),hs,Qg,hu]
  cases hq:mtc l a n with
  | true =>
   simp only [if_true,W_nat (show n≤1000000 by omega)]
   exact rOf_L2 hl hc ha out f (n+1) (by omega) (by omega) fun k k1 k2=>by
    by_cases e:k=n
    ·subst e; exact hq
    ·exact hp k k1 (by omega)
  | false=>simp
theorem rOf_L1 {l:List Qb} (hl:l.length≤600) (hc:∀ c∈l,cellR c):∀ (f a:Nat) (out:List Qe),a≤l.length→l.length - a≤f→out.length≤a→ZY (l,out,(a:Int))=some (out++ofF l f a)
 | 0,a,out,h1,h2,h3=>by
  rw [ZY]
  have:¬ ((a:Int) < (l.length:Int)):=by omega
  simp [this,ofF]
 | f+1,a,out,h1,h2,h3=>by
  rw [ZY,ofF]
  by_cases h:a < l.length
  ·have hlt:(a:Int) < (l.length:Int):=by omega
   have hn:=runN_le h
   have e2:ZZ ((a:Int),l,out,1)=some ((runN l a:Nat):Int):=rOf_L2 hl hc h out (l.length - (a+1)) 1 (Nat.le_refl _) (by omega) fun k k1 k2=>by omega
   have hW:W ((a:Int)+(runN l a:Nat))=((a+runN l a:Nat):Int):=by rw [W_in (by omega) (by omega)]; omega
   have b0:=hc _ (ce_mem h)
   have hrun:(⟨(a:Int),((runN l a:Nat):Int),(ce l a).fill,if (ce l a).fill=false then (ce l a).buffer else 0,if (ce l a).fill=false then (ce l a).offset else 0,if (ce l a).fill=false∧((runN l a:Nat):Int) > 1 then (ce l (a+1)).offset - (ce l a).offset else 0⟩:Qe)=runR l a:=by
    unfold runR
    by_cases hf:(ce l a).fill=true
    ·obtain ⟨z1,z2⟩:=b0.2.2 hf
     simp [hf,z1,z2,stp]
    ·have hf':(ce l a).fill=false:=by simpa using hf
     by_cases h1n:((runN l a:Nat):Int) > 1
     ·have hm:=ext_all l a (l.length - (a+1)) 1 1 (Nat.le_refl _) (by show 1 < runN l a; omega)
      have hm':ce l (a+1)=cellK (ce l a) (stp l a) 1:=sameC_iff.1 hm
      rw [cellK_step hf'] at hm'
      have:(ce l (a+1)).offset - (ce l a).offset=stp l a:=by rw [hm']; simp; omega
      simp [hf',h1n,this]
     ·have h1e:runN l a=1:=by omega
      have:stp l a=0:=by
       unfold stp
       split
       ·rename_i hs
        exfalso
        have hm:mtc l a 1=true:=by
         refine sameC_iff.2 ?_
         rw [cellK_step hf']
         have e1:stp l a=(ce l (a+1)).offset - (ce l a).offset:=by unfold stp; rw [if_pos hs]
         rw [e1]
         obtain ⟨_,_,s3,s4⟩:=hs
         generalize ce l (a+1)=x at s3 s4 ⊢
         obtain ⟨f,b,o⟩:=x
         simp at s3 s4
         simp [s3,s4]; omega
        have:2≤runN l a:=by
         unfold runN
         obtain ⟨g,hg⟩:∃ g,l.length - (a+1)=g+1:=⟨l.length - (a+1) - 1,by have:=hs.1; omega⟩
         rw [hg,ext,if_pos hm]
         exact (ext_ge l a g 2).1
        omega
       ·rfl
      simp [hf',h1e,this]
   rw [if_pos h,if_pos hlt]
   simp only [e2,Qg,ce_idx h]
   by_cases hf:(ce l a).fill=false
   ·by_cases h1n:((runN l a:Nat):Int) > 1
    ·have hlt1:a+1 < l.length:=by omega
     have b1:=hc _ (ce_mem hlt1)
     have hWo:W ((ce l (a+1)).offset - (ce l a).offset)=(ce l (a+1)).offset - (ce l a).offset:=W_in (by have:=b1.2.1; have:=b0.2.1; omega) (by have:=b1.2.1; have:=b0.2.1; omega)
     simp only [hf,h1n,if_true,Qg,decide_true,W_nat (show a≤1000000 by omega),ce_idx hlt1,hWo]
     simp only [hf,h1n,if_true,and_self] at hrun
     rw [hrun,app_le (by simp; omega) (by omega),Qg,hW,rOf_L1 hl hc f (a+runN l a) _ hn.2 (by omega) (by simp; omega)]
     simp
    ·simp only [hf,h1n,if_true,Qg,decide_false,Bool.false_eq_true,if_false]
     simp only [hf,h1n,if_true,and_false,if_false] at hrun
     rw [hrun,app_le (by simp; omega) (by omega),Qg,hW,rOf_L1 hl hc f (a+runN l a) _ hn.2 (by omega) (by simp; omega)]
     simp
   ·have hft:¬ (true=false):=by simp
    have hf1:(ce l a).fill=true:=by simpa using hf
    simp only [hf1,reduceCtorEq,if_false,Qg]
    simp only [hf1,reduceCtorEq,if_false,false_and] at hrun
    rw [hrun,app_le (by simp; omega) (by omega),Qg,hW,rOf_L1 hl hc f (a+runN l a) _ hn.2 (by omega) (by simp; omega)]
    simp
  ·have hlt:¬ ((a:Int) < (l.length:Int)):=by omega
   simp [hlt,h]
theorem rOf_ok {l:List Qb} (hl:l.length≤600) (hc:∀ c∈l,cellR c):X9 l=some (ofR l):=by
 have e:=rOf_L1 hl hc l.length 0 [] (by omega) (by omega) (by simp)
 have e':ZY (l,[],0)=some (ofR l):=e
 simp only [X9,e',Qg]
def cellRn (r:Qe) (k:Nat):Qb:=if r.fill=true then ⟨true,0,0⟩ else ⟨false,r.buffer,r.offset+k * r.step⟩
structure bndR (r:Qe):Prop where
 b:0≤r.buffer∧r.buffer≤100000
 o:0≤r.offset∧r.offset≤100000
 s:-100000≤r.step∧r.step≤100000
def RunsAt (l:List Qb):Nat→List Qe→Prop
 | a,[]=>a=l.length
 | a,r::R=>∃ m:Nat,(r.at0_=(a:Int)∧r.len=(m:Int))∧(1≤m∧a+m≤l.length)∧(∀ k,k < m→ce l (a+k)=cellRn r k)∧bndR r∧RunsAt l (a+m) R
theorem ofF_runs {l:List Qb} (hc:∀ c∈l,cellR c):∀ (f a:Nat),a≤l.length→l.length - a≤f→RunsAt l a (ofF l f a)
 | 0,a,h1,h2=>by
  simp only [ofF,RunsAt]; omega
 | f+1,a,h1,h2=>by
  rw [ofF]
  split
  ·rename_i h
   have hn:=runN_le h
   have hca:=hc _ (ce_mem h)
   refine ⟨runN l a,⟨rfl,rfl⟩,hn,fun k hk=>?_,⟨hca.1,hca.2.1,stp_b hc a h⟩,ofF_runs hc f _ hn.2 (by omega)⟩
   have hcl:cellRn (runR l a) k=cellK (ce l a) (stp l a) k:=rfl
   rw [hcl]
   by_cases h0:k=0
   ·subst h0
    unfold cellK
    by_cases hf:(ce l a).fill=true
    ·have hz:=hca.2.2 hf
     have:ce l (a+0)=ce l a:=rfl
     rw [this,if_pos hf]
     generalize ce l a=x at hf hz
     obtain ⟨g,b,o⟩:=x
     simp at hf hz
     simp [hf,hz]
    ·have:ce l (a+0)=ce l a:=rfl
     rw [this,if_neg hf]
     generalize ce l a=x at hf
     obtain ⟨g,b,o⟩:=x
     simp at hf
     simp [hf]
   ·exact sameC_iff.1 (ext_all l a _ 1 k (by omega) hk)
  ·simp only [RunsAt]; omega
def pos:List Qe→Nat→Nat × Nat
 | [],_=>(0,0)
 | r::R,g=>if g < r.len.toNat then (0,g) else ((pos R (g - r.len.toNat)).1+1,(pos R (g - r.len.toNat)).2)
theorem pos_spec {l:List Qb}:∀ {R:List Qe} {a g:Nat},RunsAt l a R→a+g < l.length→∃ r,R[(pos R g).1]? = some r∧r.at0_+((pos R g).2:Int)=((a+g:Nat):Int)∧((pos R g).2:Int) < r.len∧ce l (a+g)=cellRn r (pos R g).2∧bndR r
 | [],a,g,h,hg=>by simp only [RunsAt] at h; omega
 | r::R,a,g,h,hg=>by
  obtain ⟨m,⟨e1,e2⟩,⟨h1,h2⟩,h3,h4,h5⟩:=h
  rw [pos]
  have hm:r.len.toNat=m:=by omega
  rw [hm]
  split
  ·rename_i hlt
   exact ⟨r,rfl,by simp; omega,by simp; omega,h3 g hlt,h4⟩
  ·rename_i hlt
   obtain ⟨r',k1,k2,k3,k4,k5⟩:=pos_spec (g:=g - m) h5 (by omega)
   refine ⟨r',by simpa using k1,by simp only; omega,k3,?_,k5⟩
   rw [show a+g=a+m+(g - m) by omega]
   exact k4
theorem runs_len {l:List Qb}:∀ {R:List Qe} {a:Nat},RunsAt l a R→R.length+a≤l.length
 | [],a,h=>by simp only [RunsAt] at h; simp; omega
 | r::R,a,h=>by
  obtain ⟨m,_,⟨h1,h2⟩,_,_,h5⟩:=h
  have:=runs_len h5
  simp; omega

theorem rfind_L1 {l:List Qb} (hl:l.length≤600) {g:Nat} (hg:g < l.length):∀ (s p:List Qe) (a:Nat),p.length≤a→a≤g→RunsAt l a s→ZT (p++s,(g:Int),(p.length:Int))=some (.inl ((p.length+(pos s (g - a)).1:Nat):Int))
 | [],p,a,hp,ha,h=>by simp only [RunsAt] at h; omega
 | r::s,p,a,hp,ha,h=>by
  obtain ⟨m,⟨e1,e2⟩,⟨h1,h2⟩,_,_,h5⟩:=h
  rw [ZT,pos]
  have hm:r.len.toNat=m:=by omega
  have hge:(g:Int)≥r.at0_:=by omega
  have hW:W (r.at0_+r.len)=r.at0_+r.len:=W_in (by omega) (by omega)
  simp only [Zy,if_true,QJ,Qg,hge,hW,hm]
  by_cases hlt:g - a < m
  ·have:(g:Int) < r.at0_+r.len:=by omega
   simp [this,hlt]
  ·have hn:¬ ((g:Int) < r.at0_+r.len):=by omega
   have hWp:W ((p.length:Int)+1)=((p++[r]).length:Int):=by rw [W_in (by omega) (by omega)]; simp
   simp only [hn,decide_false,Bool.false_eq_true,if_false,hlt,hWp]
   rw [QB,rfind_L1 hl hg s (p++[r]) (a+m) (by simp; omega) (by omega) h5]
   simp only [List.length_append,List.length_singleton]
   rw [show g - (a+m)=g - a - m by omega]
   congr 2
   omega
theorem rfind_ok {l:List Qb} (hl:l.length≤600) {R:List Qe} (hR:RunsAt l 0 R) {g:Nat} (hg:g < l.length):Yo (R,(g:Int))=some (((pos R g).1:Nat):Int):=by
 have e:=rfind_L1 hl hg R [] 0 (Nat.le_refl _) (Nat.zero_le _) hR
 have e':ZT (R,(g:Int),0)=some (.inl (((pos R g).1:Nat):Int)):=by
  have:=e
  simp only [List.nil_append,List.length_nil,Nat.zero_add,Nat.sub_zero] at this
  exact this
 simp only [Yo,e',Qg]

def atR (R:List Qe) (i:Nat):Int:=(R.map (·.at0_)).getD i 0
theorem at_ge {l:List Qb}:∀ {R:List Qe} {a:Nat},RunsAt l a R→∀ i,i < R.length→(a:Int)≤atR R i
 | [],a,h,i,hi=>by simp at hi
 | r::R,a,h,i,hi=>by
  obtain ⟨m,⟨e1,e2⟩,⟨h1,h2⟩,_,_,h5⟩:=h
  cases i with
  | zero=>simp [atR,e1]
  | succ i =>
   have:=at_ge h5 i (by simpa using hi)
   simp only [atR,List.map_cons,List.getD_cons_succ] at this ⊢
   omega
theorem at_mono {l:List Qb}:∀ {R:List Qe} {a:Nat},RunsAt l a R→∀ i j r,i < j→j < R.length→R[i]? = some r→atR R i+r.len≤atR R j
 | [],a,h,i,j,r,_,hj,_=>by simp at hj
 | r0::R,a,h,i,j,r,hij,hj,hi=>by
  obtain ⟨m,⟨e1,e2⟩,⟨h1,h2⟩,_,_,h5⟩:=h
  cases j with
  | zero=>omega
  | succ j =>
   cases i with
   | zero =>
    simp at hi; subst hi
    have:=at_ge h5 j (by simpa using hj)
    simp only [atR,List.map_cons,List.getD_cons_zero,List.getD_cons_succ] at this ⊢
    omega
   | succ i =>
    have:=at_mono h5 i j r (by omega) (by simpa using hj) (by simpa using hi)
    simpa [atR] using this
theorem at_at {R:List Qe} {i:Nat} {r:Qe} (h:R[i]? = some r):atR R i=r.at0_:=by simp [atR,h]
theorem len_pos {l:List Qb}:∀ {R:List Qe} {a:Nat},RunsAt l a R→∀ r∈R,1≤r.len∧r.len≤1000000000∨l.length > 600
 | [],a,h,r,hr=>by simp at hr
 | r0::R,a,h,r,hr=>by
  obtain ⟨m,⟨e1,e2⟩,⟨h1,h2⟩,_,_,h5⟩:=h
  rcases List.mem_cons.1 hr with rfl|hr
  ·by_cases hq:l.length > 600
   ·exact .inr hq
   ·exact .inl ⟨by omega,by omega⟩
  ·exact len_pos h5 r hr
theorem half_ok {i j:Nat} (h:i+j≤1000000):W (Int.fdiv (IntKind.u64.wrap (W ((i:Int)+j))) 2)=(((i+j) / 2:Nat):Int):=by
 have h1:W ((i:Int)+j)=((i+j:Nat):Int):=by rw [W_in (by omega) (by omega)]; omega
 have h2:IntKind.u64.wrap ((i+j:Nat):Int)=((i+j:Nat):Int):=by
  simp only [IntKind.wrap,IntKind.bits,IntKind.signed]
  simp
  omega
 rw [h1,h2]
 have h3:Int.fdiv ((i+j:Nat):Int) 2=(((i+j) / 2:Nat):Int):=by
  rw [Int.fdiv_eq_ediv_of_nonneg _ (by decide)]; omega
 rw [h3]
 exact W_in (by omega) (by omega)
theorem cmp_ok (a b:Int):Yn (a,b)=some (if a < b then -1 else if a > b then 1 else 0):=by
 unfold Yn YI
 simp only [bne_self_eq_false,Qg,Bool.false_eq_true,if_false]
 split
 ·rfl
 ·split <;> rfl
theorem toRn_idx {R:List Qe} {i:Nat} {r:Qe} (h:R[i]? = some r):idx (R.map toRn) (i:Int)=some (toRn r):=by
 obtain ⟨h1,h2⟩:=List.getElem?_eq_some_iff.1 h
 rw [idx_ok (by simpa using h1)]; simp [h2]
theorem bin_L1 {R:List Qe} (hl:R.length≤600) (g:Int):∀ (n i j:Nat),j - i≤n→i≤j→j≤R.length→(∀ k,k < i→atR R k < g)→(∀ k,j≤k→k < R.length→g≤atR R k)→(∀ i j,i < j→j < R.length→atR R i < atR R j) →
  ∃ c:Nat,Qm (R.map toRn,g,(i:Int),(j:Int))=some (c:Int)∧c≤R.length∧(∀ k,k < c→atR R k < g)∧(∀ k,c≤k→k < R.length→g≤atR R k)
 | 0,i,j,hn,hij,hj,h1,h2,hm=>by
  rw [Qm]
  have:¬ ((i:Int) < (j:Int)):=by omega
  simp only [this,if_false]
  exact ⟨i,rfl,by omega,h1,fun k a b=>h2 k (by omega) b⟩
 | n+1,i,j,hn,hij,hj,h1,h2,hm=>by
  rw [Qm]
  by_cases h:(i:Int) < (j:Int)
  ·have hmid:(i+j) / 2 < R.length:=by omega
   have hr:R[(i+j) / 2]? = some R[(i+j) / 2]:=List.getElem?_eq_getElem hmid
   have ha:=at_at hr
   have hWm:W ((((i+j) / 2:Nat):Int)+1)=(((i+j) / 2+1:Nat):Int):=by rw [W_in (by omega) (by omega)]; omega
   simp only [h,if_true,half_ok (show i+j≤1000000 by omega),toRn_idx hr,Qg,Yu,cmp_ok,hWm]
   have hto:(toRn R[(i+j) / 2]).at0_=R[(i+j) / 2].at0_:=rfl
   rw [hto,← ha]
   by_cases hlt:atR R ((i+j) / 2) < g
   ·simp only [hlt,if_true]
    exact bin_L1 hl g n ((i+j) / 2+1) j (by omega) (by omega) hj (fun k hk=>by
     by_cases e:k=(i+j) / 2
     ·subst e; exact hlt
     ·have:=hm k ((i+j) / 2) (by omega) hmid; omega) h2 hm
   ·have hneg:¬ ((if atR R ((i+j) / 2) > g then (1:Int) else 0) < 0):=by split <;> omega
    simp only [hlt,if_false,hneg]
    exact bin_L1 hl g n i ((i+j) / 2) (by omega) (by omega) (by omega) h1 (fun k a b=>by
     by_cases e:k=(i+j) / 2
     ·subst e; omega
     ·have:=hm ((i+j) / 2) k (by omega) b; omega) hm
  ·simp only [h,if_false]
   exact ⟨i,rfl,by omega,h1,fun k a b=>h2 k (by omega) b⟩
theorem pfind_ok {l:List Qb} (hl:l.length≤600) {R:List Qe} (hR:RunsAt l 0 R) {g:Nat} (hg:g < l.length):∃ r,R[(pos R g).1]? = some r∧YY (R.map toRn,(g:Int))=some (toRn r,((pos R g).2:Int),true):=by
 have hlen:=runs_len hR
 obtain ⟨r,h1,h2,h3,h4,h5⟩:=pos_spec (g:=g) hR (by omega)
 refine ⟨r,h1,?_⟩
 generalize hk:(pos R g).1=k at h1
 generalize ho:(pos R g).2=o at h2 h3
 have hkl:k < R.length:=(List.getElem?_eq_some_iff.1 h1).1
 have hmono:∀ i j,i < j→j < R.length→atR R i < atR R j:=fun i j hij hj=>by
  have hi:R[i]? = some R[i]:=List.getElem?_eq_getElem (by omega)
  have:=at_mono hR i j _ hij hj hi
  have h1:=len_pos hR R[i] (List.getElem_mem (by omega))
  omega
 obtain ⟨c,e,c1,c2,c3⟩:=bin_L1 (by omega) (g:Int) R.length 0 R.length (by omega) (Nat.zero_le _) (Nat.le_refl _) (fun k hk=>by omega) (fun k a b=>by omega) hmono
 have hak:=at_at h1
 have hk0:=at_ge hR k hkl
 have hnx:∀ j,k < j→j < R.length→(g:Int) < atR R j:=fun j a b=>by
  have:=at_mono hR k j r a b h1; omega
 have e':Qm (R.map toRn,(g:Int),0,(R.length:Int))=some (c:Int):=e
 have hfin:∀ b:Bool,(if b=false then some (W ((c:Int) - 1)) else some (c:Int))=some ((k:Nat):Int) →
   ((if b=false then some (W ((c:Int) - 1)) else some (c:Int))>>=fun v3 =>
    (if v3 < 0 then some true else idx (R.map toRn) v3>>=fun v5=>idx (R.map toRn) v3>>=fun v6=>some (decide ((g:Int)≥(W (v5.at0_+v6.len)))))>>=fun (v4:Bool) =>
    if v4=true then some ((⟨0,0,false,0,0,0⟩:Qk),0,false) else idx (R.map toRn) v3>>=fun v7=>idx (R.map toRn) v3>>=fun v8=>some (v7,(W ((g:Int) - v8.at0_)),true))=some (toRn r,(o:Int),true):=fun b hb=>by
  rw [hb,Qg]
  have hn:¬ (((k:Nat):Int) < 0):=by omega
  have hW:W ((toRn r).at0_+(toRn r).len)=r.at0_+r.len:=W_in (by have:=len_pos hR r (List.mem_of_getElem? h1); simp only [toRn]; omega) (by have:=len_pos hR r (List.mem_of_getElem? h1); simp only [toRn]; omega)
  have hnge:¬ ((g:Int)≥r.at0_+r.len):=by omega
  have hWo:W ((g:Int) - (toRn r).at0_)=(o:Int):=by rw [W_in (by simp only [toRn]; omega) (by simp only [toRn]; omega)]; simp only [toRn]; omega
  simp only [hn,if_false,toRn_idx h1,Qg,hW,hnge,decide_false,Bool.false_eq_true,hWo]
 have hs:Qx (R.map toRn,(g:Int))=some ((c:Int),decide (o=0)):=by
  simp only [Qx,List.length_map,e',Qg]
  by_cases o0:o=0
  ·have hck:c=k:=by
    rcases Nat.lt_trichotomy c k with h|h|h
    ·have:=c3 c (Nat.le_refl _) (by omega)
     have:=hmono c k h hkl
     omega
    ·exact h
    ·have:=c2 k h; omega
   subst hck
   have hlt:((c:Nat):Int) < (R.length:Int):=by omega
   have hat:r.at0_=(g:Int):=by omega
   have hto:(toRn r).at0_=r.at0_:=rfl
   simp [hlt,toRn_idx h1,Qg,Yu,cmp_ok,hto,hat,o0]
  ·have hck:c=k+1:=by
    rcases Nat.lt_trichotomy c (k+1) with h|h|h
    ·have:=c3 k (by omega) hkl; omega
    ·exact h
    ·have:=c2 (k+1) h; have:=hnx (k+1) (by omega) (by omega); omega
   by_cases hlt:((c:Nat):Int) < (R.length:Int)
   ·have hcl:c < R.length:=by omega
    have hr:R[c]? = some R[c]:=List.getElem?_eq_getElem hcl
    have ha:=at_at hr
    have:=hnx c (by omega) hcl
    have hto:(toRn R[c]).at0_=R[c].at0_:=rfl
    have hn1:¬ (R[c].at0_ < (g:Int)):=by omega
    have hn2:R[c].at0_ > (g:Int):=by omega
    simp only [hlt,if_true,toRn_idx hr,Qg,Yu,cmp_ok,hto,hn1,hn2,if_false]
    simp [o0]
   ·simp [hlt,o0]
 simp only [YY,hs,Qg]
 refine hfin _ ?_
 by_cases o0:o=0
 ·have hck:c=k:=by
   rcases Nat.lt_trichotomy c k with h|h|h
   ·have:=c3 c (Nat.le_refl _) (by omega)
    have:=hmono c k h hkl
    omega
   ·exact h
   ·have:=c2 k h; omega
  simp [o0,hck]
 ·have hck:c=k+1:=by
   rcases Nat.lt_trichotomy c (k+1) with h|h|h
   ·have:=c3 k (by omega) hkl; omega
   ·exact h
   ·have:=c2 (k+1) h; have:=hnx (k+1) (by omega) (by omega); omega
  have hW:W ((c:Int) - 1)=(k:Int):=by rw [W_in (by omega) (by omega)]; omega
  simp [o0,hW]
theorem dm {o P n:Int} (ho:0≤o) (hP:0≤P) (hn:0≤n):(o % (P * n)) / n=(o / n) % P:=by
 obtain ⟨o',rfl⟩:=Int.eq_ofNat_of_zero_le ho
 obtain ⟨P',rfl⟩:=Int.eq_ofNat_of_zero_le hP
 obtain ⟨n',rfl⟩:=Int.eq_ofNat_of_zero_le hn
 have:=Nat.mod_mul_left_div_self o' n' P'
 exact_mod_cast this
theorem mm {o P n:Int}:(o % (P * n)) % n=o % n:=Int.emod_emod_of_dvd o (Int.dvd_mul_left P n)
theorem dig_snoc:∀ (a:List Int) (n o:Int),(∀ m∈a,1≤m)→1≤n→0≤o→o < prodI (a++[n])→dig (a++[n]) o=dig a (o / n)++[o % n]
 | [],n,o,_,h,ho,ho2=>by
  have:prodI ([]++[n])=n:=by simp [prodI]
  rw [this] at ho2
  simp only [List.nil_append,dig,prodI_nil,Int.ediv_one]
  rw [Int.emod_eq_of_lt ho ho2]
 | m::a,n,o,h1,h,ho,ho2=>by
  have hp:=prodI_pos (fun k hk=>h1 k (List.mem_cons_of_mem _ hk))
  have hP:prodI (a++[n])=prodI a * n:=by rw [prodI_append,prodI_cons,prodI_nil,Int.mul_one]
  have hpos:0 < prodI a * n:=Int.mul_pos (by omega) (by omega)
  have ih:=dig_snoc a n (o % prodI (a++[n])) (fun k hk=>h1 k (List.mem_cons_of_mem _ hk)) h (Int.emod_nonneg _ (by rw [hP]; omega)) (Int.emod_lt_of_pos _ (by rw [hP]; exact hpos))
  rw [hP] at ih
  simp only [List.cons_append,dig]
  rw [hP,ih,dm ho (by omega) (by omega),mm,Int.mul_comm (prodI a) n,← Int.ediv_ediv_of_nonneg (by omega:0≤n)]
theorem vld_dig:∀ {s:List Int} {o:Int},(∀ n∈s,1≤n)→0≤o→o < prodI s→vld s (dig s o)=true
 | [],_,_,_,_=>rfl
 | n::s,o,h,h1,h2=>by
  have hp:=prodI_pos (fun k hk=>h k (List.mem_cons_of_mem _ hk))
  rw [prodI_cons] at h2
  simp only [dig,vld,Bool.and_eq_true,decide_eq_true_eq]
  exact ⟨⟨Int.ediv_nonneg h1 (by omega),Int.ediv_lt_of_lt_mul (by omega) h2⟩,vld_dig (fun k hk=>h k (List.mem_cons_of_mem _ hk)) (Int.emod_nonneg _ (by omega)) (Int.emod_lt_of_pos _ (by omega))⟩
theorem quoM_ok {a b:Int} (ha:0≤a) (hb:1≤b) (h:a≤9223372036854775807):quoM a b=some (a / b):=by
 have h1:a / b≤a:=Int.ediv_le_self _ ha
 have h2:0≤a / b:=Int.ediv_nonneg ha (by omega)
 rw [quoM,if_neg (by omega),Int.tdiv_eq_ediv_of_nonneg ha,W_ok (by omega) (by omega)]
theorem remM_ok {a b:Int} (ha:0≤a) (hb:1≤b):remM a b=some (a % b):=by
 rw [remM,if_neg (by omega),Int.tmod_eq_emod_of_nonneg ha]
theorem make_ok {n:Nat} (h:n≤1000):makeM 8 (n:Int) (0:Int)=some (List.replicate n 0):=by
 have:((n:Int) * 8≤(room:Int)):=by
  have:(1000:Nat) * 8≤room:=by decide +kernel
  omega
 simp [makeM,this]; omega
theorem gIdx_L1 (S D v1:List Int) (g:Nat):∀ (t p P q:List Int) (o:Int),S=P++strd t→P.length=p.length→q.length=p.length→(q++List.replicate t.length 0).length=v1.length→(p++t).length≤1000→(∀ n∈t,1≤n)→0≤o→o≤65536 →
  QD (S,v1,g,D,q++List.replicate t.length 0,o,(p.length:Int))=some (q++dig t o)
 | [],p,P,q,o,e,h1,h2,h3,h4,h5,h6,h7=>by
  rw [QD]
  have:¬ ((p.length:Int) < (S.length:Int)):=by rw [e]; simp [strd,h1]
  simp only [this,if_false]; rfl
 | n::t,p,P,q,o,e,h1,h2,h3,h4,h5,h6,h7=>by
  rw [QD]
  have hpos:∀ k∈t,1≤k:=fun k hk=>h5 k (List.mem_cons_of_mem _ hk)
  have hp:=prodI_pos hpos
  have ht:((p.length:Int) < (S.length:Int)):=by rw [e]; simp [strd,h1]; omega
  have hi:idx S (p.length:Int)=some (prodI t):=by rw [e,← h1]; exact QJ
  have er:q++List.replicate (n::t).length (0:Int)=q++0::List.replicate t.length 0:=by rw [List.length_cons,List.replicate_succ]
  have hj:p.length < (q++List.replicate (n::t).length (0:Int)).length:=by simp; omega
  have hset:(q++List.replicate (n::t).length (0:Int)).set p.length (o / prodI t)=(q++[o / prodI t])++List.replicate t.length 0:=by rw [er,← h2,mid_set]
  have w:W ((p.length:Int)+1)=((p++[n]).length:Int):=by
   simp at h4
   rw [W_ok (by omega) (by omega)]; simp
  have r1:=Int.emod_nonneg o (show prodI t≠0 by omega)
  have r2:o % prodI t≤o:=by
   have:=Int.emod_add_mul_ediv o (prodI t)
   have:0≤prodI t * (o / prodI t):=Int.mul_nonneg (by omega) (Int.ediv_nonneg h6 (by omega))
   omega
  have ih:=gIdx_L1 S D v1 g t (p++[n]) (P++[prodI t]) (q++[o / prodI t]) (o % prodI t) (by rw [e]; simp [strd]) (by simp [h1]) (by simp [h2]) (by simp at h3 ⊢; omega) (by rw [← QB]; exact h4) hpos r1 (by omega)
  simp only [ht,if_true,hi,Qg,quoM_ok h6 hp (by omega),guardM_ok h3,idx_ok hj,setM_ok hj,hset,remM_ok h6 hp,w,ih,dig]
  simp
theorem gIndex_ok {s:List Int} {o:Int} (hc:checkR s=0) (hpos:∀ n∈s,1≤n) (h1:0≤o) (h2:o < prodI s) (g:Nat):ZR (s,o,g)=some (.inr (dig s o,strd s,s,s.length)):=by
 obtain ⟨c1,c2,c3⟩:=checkR_ok hc
 have e:=gIdx_L1 (strd s) s (List.replicate s.length 0) g s [] [] [] o (by simp) rfl rfl (by simp) (by simp; omega) hpos h1 (by omega)
 simp only [List.nil_append,List.length_nil,Int.natCast_zero] at e
 have e1:¬ o < 0:=by omega
 have e2:¬ o≥prodI s:=by omega
 simp only [ZR,e1,if_false,gCells_ok s (Sm_of (show s.length≤1000 by omega)),Qg,cellsR,hc,if_true,e2,decide_false,Bool.false_eq_true,YZ,strides_ok hc hpos,ZM,make_ok (show s.length≤1000 by omega),e,List.length_replicate]

def nilR:Qe:=⟨0,0,false,0,0,0⟩
def runAt (R:List Qe) (g:Nat):Qe:=R.getD (pos R g).1 nilR
def segs (R:List Qe) (n:Nat):Nat→Nat→Nat→Nat→List (Nat × Nat × Qe × Nat)
 | 0,_,_,_=>[]
 | k+1,f,x,w=>if w=0 then [] else (x,min w ((runAt R (f % n)).len.toNat - (pos R (f % n)).2),runAt R (f % n),(pos R (f % n)).2) ::
   segs R n k (f+min w ((runAt R (f % n)).len.toNat - (pos R (f % n)).2)) (x+min w ((runAt R (f % n)).len.toNat - (pos R (f % n)).2)) (w - min w ((runAt R (f % n)).len.toNat - (pos R (f % n)).2))
def accR (r:Qe) (o rk x:Nat):Qr:=if r.fill=true then ⟨1,0,0,[],0,0,0⟩ else ⟨2,r.buffer,r.offset+o * r.step - r.step * x,List.replicate rk 0++[r.step],0,0,0⟩
def segP (pre:List Int) (q:Nat × Nat × Qe × Nat):Qa:=⟨⟨pre++[(q.1:Int)],pre.map (·+1)++[((q.1+q.2.1:Nat):Int)]⟩,accR q.2.2.1 q.2.2.2 pre.length q.1⟩
def toA (a:Qr):QH:=⟨a.kind,a.buffer,a.base,a.strides,a.start,a.step,a.mod⟩
def toPc (p:Qa):Qd:=⟨⟨p.box.lo,p.box.hi⟩,toA p.access⟩
theorem runAt_spec {l:List Qb} {R:List Qe} (hR:RunsAt l 0 R) {g:Nat} (hg:g < l.length):R[(pos R g).1]? = some (runAt R g)∧(runAt R g).at0_+((pos R g).2:Int)=(g:Int)∧((pos R g).2:Int) < (runAt R g).len∧ce l g=cellRn (runAt R g) (pos R g).2∧bndR (runAt R g)∧(runAt R g).len≤l.length:=by
 obtain ⟨r,h1,h2,h3,h4,h5⟩:=pos_spec (g:=g) hR (by omega)
 have:runAt R g=r:=by simp [runAt,h1]
 rw [this]
 refine ⟨h1,by omega,h3,by simpa using h4,h5,?_⟩
 have key:∀ {R:List Qe} {a:Nat},RunsAt l a R→∀ r∈R,r.len≤l.length:=fun {R}=>by
  induction R with
  | nil=>intro a _ r hr; simp at hr
  | cons r0 R ih =>
   intro a h r hr
   obtain ⟨m,⟨e1,e2⟩,⟨h1,h2⟩,_,_,h5⟩:=h
   rcases List.mem_cons.1 hr with rfl|hr
   ·omega
   ·exact ih h5 r hr
 exact key hR r (List.mem_of_getElem? h1)
theorem set_last {p:List Int} {x y:Int}:(p++[x]).set p.length y=p++[y]:=by simp
theorem idx_last {p:List Int} {x:Int}:idx (p++[x]) (p.length:Int)=some x:=by simp [idx]
theorem W_len1 {p:List Int} {x:Int} (h:p.length≤1000):W (((p++[x]).length:Int) - 1)=(p.length:Int):=by
 rw [W_in (by simp <;> omega) (by simp <;> omega)]; simp
theorem step_b {r:Qe} (h:bndR r) {o:Nat} (ho:o≤600):W ((o:Int) * r.step)=o * r.step∧W (r.offset+o * r.step)=r.offset+o * r.step∧-60000000≤(o:Int) * r.step∧(o:Int) * r.step≤60000000:=by
 have:=mul_b (a:=(o:Int)) (b:=r.step) (A:=600) (B:=100000) (by omega) (by omega) h.s.1 h.s.2
 have:=h.o
 exact ⟨W_in (by omega) (by omega),W_in (by omega) (by omega),by omega,by omega⟩
theorem part_ok {r:Qe} (h:bndR r) {o x:Nat} (ho:o≤600) (hx:x≤65536) {pre:List Int} (hp:pre.length≤900):YC (toRn r,(o:Int),pre++[(x:Int)])=some (toA (accR r o pre.length x)):=by
 obtain ⟨w1,w2,w3,w4⟩:=step_b h ho
 have hb:=mul_b (a:=r.step) (b:=(x:Int)) (A:=100000) (B:=65536) h.s.1 h.s.2 (by omega) (by omega)
 have w5:W (r.step * (x:Int))=r.step * x:=W_in (by omega) (by omega)
 have w6:W (r.offset+(o:Int) * r.step - r.step * x)=r.offset+o * r.step - r.step * x:=by have:=h.o; exact W_in (by omega) (by omega)
 have hge:((pre.length:Nat):Int)≥0:=by omega
 unfold YC accR
 simp only [W_len1 (x:=(x:Int)) (show pre.length≤1000 by omega)]
 by_cases hf:r.fill=true
 ·simp [toRn,hf,toA]
 ·have hrep:List.replicate (pre++[(x:Int)]).length (0:Int)=List.replicate pre.length 0++[0]:=by simp [List.replicate_succ']
  have hl:(List.replicate pre.length (0:Int)).length=pre.length:=by simp
  have i1:idx (List.replicate pre.length (0:Int)++[0]) (pre.length:Int)=some 0:=by
   have:=idx_last (p:=List.replicate pre.length (0:Int)) (x:=0)
   rwa [hl] at this
  have s1:setM (List.replicate pre.length (0:Int)++[0]) (pre.length:Int) r.step=some (List.replicate pre.length 0++[r.step]):=by
   rw [setM_ok (by simp)]
   have:=set_last (p:=List.replicate pre.length (0:Int)) (x:=0) (y:=r.step)
   rw [hl] at this
   rw [this]
  simp only [toRn,hf,if_false,make_ok (show (pre++[(x:Int)]).length≤1000 by simp; omega),hrep,Qg,hge,if_true,i1,s1,idx_last,w1,w2,w5,w6]
  rw [guardM_ok (by simp)]
  rfl
theorem part_nil {r:Qe} (h:bndR r) {o:Nat} (ho:o≤600):YC (toRn r,(o:Int),[])=some (toA (if r.fill=true then ⟨1,0,0,[],0,0,0⟩ else ⟨2,r.buffer,r.offset+o * r.step,[],0,0,0⟩)):=by
 obtain ⟨w1,w2,w3,w4⟩:=step_b h ho
 unfold YC
 have hn:¬ (W (((([]:List Int).length:Nat):Int) - 1)≥0):=by rw [W_in (by simp) (by simp)]; simp
 by_cases hf:r.fill=true
 ·simp [toRn,hf,toA]
 ·have hm:makeM 8 (((([]:List Int).length:Nat):Int)) (0:Int)=some []:=make_ok (n:=0) (by omega)
  simp only [toRn,hf,if_false,hm,Qg,hn,w1,w2]
  rfl
theorem clone_ok {l:List Int} (h:l.length≤1000):Q0 l=some l:=by
 unfold Q0
 rw [app_le (by simp; omega) (by omega)]; rfl
theorem row_L2 (v610:List Int) (q0:List Qk) (q1 v202 v203:Int) (q4:Nat) (v204:List Qd) (v605:Int) (v604:Qk) (q8:Nat) (q5 q6 v201 v608:List Int) :
  ∀ (s p:List Int),v610.length=p.length+s.length→p.length+s.length≤1000→(∀ x∈s,0≤x∧x≤65536)→Q3 (v610,q0,q1,v202,v203,q4,v204,v605,v604,q8,q5,q6,v201,v608,p++s,(p.length:Int))=some (p++s.map (·+1))
 | [],p,h1,h2,h3=>by
  rw [Q3]
  have:¬ ((p.length:Int) < (v610.length:Int)):=by simp at h1; omega
  simp [this]
 | x::s,p,h1,h2,h3=>by
  rw [Q3]
  have hlt:((p.length:Int) < (v610.length:Int)):=by simp at h1; omega
  have hb:=h3 x (by simp)
  have hW:W (x+1)=x+1:=W_in (by omega) (by omega)
  have hg:(p++x::s).length=v610.length:=by simp at h1 ⊢; omega
  have hset:setM (p++x::s) (p.length:Int) (x+1)=some ((p++[x+1])++s):=by rw [setM_ok (by simp),mid_set]
  have hWp:W ((p.length:Int)+1)=((p++[x+1]).length:Int):=by rw [W_in (by omega) (by simp at h2; omega)]; simp
  simp only [hlt,if_true,guardM_ok hg,Qg,QJ,hW,hset,hWp]
  rw [row_L2 v610 q0 q1 v202 v203 q4 v204 v605 v604 q8 q5 q6 v201 v608 s (p++[x+1]) (by simp at h1 ⊢; omega) (by simp at h2 ⊢; omega) (fun y hy=>h3 y (List.mem_cons_of_mem _ hy))]
  simp
theorem row_L1 {l:List Qb} (hl:l.length≤600) {R:List Qe} (hR:RunsAt l 0 R) (hn:1≤l.length) (q8:Nat) (q5 q6 pre:List Int) (hp:pre.length≤500) (hpv:∀ x∈pre,0≤x∧x≤65536) :
  ∀ (k f x w:Nat) (out:List Qd),w≤k→x+w≤65536→f+w≤1000000→out.length+w≤1000000 →
  QO ((l.length:Int),R.map toRn,pre.length+1,q8,q5,q6,pre++[(x:Int)],(f:Int),(w:Int),out)=some (pre++[((x+w:Nat):Int)],out++(segs R l.length k f x w).map fun q=>toPc (segP pre q))
 | 0,f,x,w,out,h1,h2,h3,h4=>by
  obtain rfl:w=0:=by omega
  rw [QO]
  simp [segs]
 | k+1,f,x,w,out,h1,h2,h3,h4=>by
  rw [QO,segs]
  by_cases hw:w=0
  ·subst hw
   simp
  ·have hgt:((w:Nat):Int) > 0:=by omega
   have hmod:((f:Int) % (l.length:Int))=((f % l.length:Nat):Int):=by omega
   have hg:f % l.length < l.length:=Nat.mod_lt _ (by omega)
   obtain ⟨a1,a2,a3,a4,a5,a6⟩:=runAt_spec hR hg
   obtain ⟨r,b1,b2⟩:=pfind_ok hl hR hg
   rw [a1] at b1; cases b1
   generalize ho:(pos R (f % l.length)).2=o at a2 a3 a4 b2 ⊢
   generalize hr:runAt R (f % l.length)=r at a1 a2 a3 a4 a5 a6 b2 ⊢
   have hol:o≤600:=by omega
   have hWs:W ((toRn r).len - (o:Int))=((r.len.toNat - o:Nat):Int):=by
    rw [W_in (by simp only [toRn]; omega) (by simp only [toRn]; omega)]; simp only [toRn]; omega
   have hsz:(if ((r.len.toNat - o:Nat):Int) < (w:Int) then ((r.len.toNat - o:Nat):Int) else (w:Int))=((min w (r.len.toNat - o):Nat):Int):=by
    split <;> omega
   generalize hz:min w (r.len.toNat - o)=z at hsz ⊢
   have hz1:1≤z∧z≤w:=by omega
   have hlen:(pre++[(x:Int)]).length=pre.length+1:=by simp
   have hv:∀ y∈pre++[(x:Int)],0≤y∧y≤65536:=fun y hy=>by
    rcases List.mem_append.1 hy with h|h
    ·exact hpv y h
    ·simp at h; omega
   have e2:=row_L2 (pre++[(x:Int)]) (R.map toRn) (l.length:Int) (f:Int) (w:Int) (pre.length+1) out (o:Int) (toRn r) q8 q5 q6 (pre++[(x:Int)]) (pre++[(x:Int)]) (pre++[(x:Int)]) [] (by simp) (by simp; omega) hv
   simp only [List.nil_append,List.length_nil,Int.natCast_zero] at e2
   have hWq:W (((pre.length+1:Nat):Int) - 1)=(pre.length:Int):=by rw [W_in (by omega) (by omega)]; omega
   have hge:((pre.length:Nat):Int)≥0:=by omega
   have hmap:(pre++[(x:Int)]).map (·+1)=pre.map (·+1)++[(x:Int)+1]:=by simp
   have hml:(pre.map (·+1)).length=pre.length:=by simp
   have i1:idx (pre.map (·+1)++[(x:Int)+1]) (pre.length:Int)=some ((x:Int)+1):=by rw [← hml]; exact idx_last
   have hWx:W ((x:Int)+(z:Int))=((x+z:Nat):Int):=by rw [W_in (by omega) (by omega)]; omega
   have s1:∀ y,setM (pre.map (·+1)++[(x:Int)+1]) (pre.length:Int) y=some (pre.map (·+1)++[y]):=fun y=>by
    rw [setM_ok (by simp),← hml,set_last]
   have s2:∀ y,setM (pre++[(x:Int)]) (pre.length:Int) y=some (pre++[y]):=fun y=>by
    rw [setM_ok (by simp),set_last]
   have g1:(pre.map (·+1)++[(x:Int)+1]).length=(pre++[(x:Int)]).length:=by simp
   have g2:∀ y:Int,(pre.map (·+1)++[y]).length=(pre++[(x:Int)]).length:=fun y=>by simp
   have hWf:W ((f:Int)+(z:Int))=((f+z:Nat):Int):=by rw [W_in (by omega) (by omega)]; omega
   have hWw:W ((w:Int) - (z:Int))=((w - z:Nat):Int):=by rw [W_in (by omega) (by omega)]; omega
   simp only [hgt,if_true,remM_ok (show (0:Int)≤(f:Int) by omega) (show (1:Int)≤(l.length:Int) by omega),hmod,Qg,b2,guardM_ok hlen,clone_ok (show (pre++[(x:Int)]).length≤1000 by simp; omega),e2,part_ok a5 hol (show x≤65536 by omega) (show pre.length≤900 by omega),hWq,hge,hmap,idx_last,guardM_ok g1,i1,hWs,hsz,hWx,s1,s2,guardM_ok (g2 _)]
   rw [app_le (by simp; omega) (by omega),Qg,hWf,hWw,row_L1 hl hR hn q8 q5 q6 pre hp hpv k (f+z) (x+z) (w - z) _ (by omega) (by omega) (by omega) (by simp; omega)]
   rw [if_neg hw]
   have:x+z+(w - z)=x+w:=by omega
   rw [this]
   simp only [List.map_cons,List.append_assoc,List.singleton_append,Option.some.injEq,Prod.mk.injEq,true_and]
   rfl
theorem row_ok {l:List Qb} (hl:l.length≤600) {R:List Qe} (hR:RunsAt l 0 R) (hn:1≤l.length) (q8:Nat) (q5 q6 pre:List Int) (hp:pre.length≤500) (hpv:∀ x∈pre,0≤x∧x≤65536) {f w:Nat} (hw:w≤65536) (hf:f≤65536) :
  ZJ (R.map toRn,(l.length:Int),(f:Int),(w:Int),pre.length+1,q5,q6,pre++[0],q8)=some (pre++[(w:Int)],(segs R l.length w f 0 w).map fun q=>toPc (segP pre q)):=by
 have e:=row_L1 hl hR hn q8 q5 q6 pre hp hpv w f 0 w [] (Nat.le_refl _) (by omega) (by omega) (by simp; omega)
 simp only [Int.natCast_zero,Nat.zero_add,List.nil_append] at e
 simp only [ZJ,e,Qg]
def rowsP (R:List Qe) (n:Nat) (a:List Int) (w:Nat) (b m:Nat):List Qa:=(List.range' b m).flatMap fun (b:Nat)=>(segs R n w (b * w) 0 w).map (segP (dig a (b:Int)))
theorem segs_len (R:List Qe) (n:Nat):∀ k f x w,(segs R n k f x w).length≤k
 | 0,f,x,w=>by simp [segs]
 | k+1,f,x,w=>by
  rw [segs]
  split
  ·simp
  ·have:=segs_len R n k (f+min w ((runAt R (f % n)).len.toNat - (pos R (f % n)).2)) (x+min w ((runAt R (f % n)).len.toNat - (pos R (f % n)).2)) (w - min w ((runAt R (f % n)).len.toNat - (pos R (f % n)).2))
   simp only [List.length_cons]; omega
theorem dig_b {a:List Int} (hc:checkR a=0) (hpos:∀ n∈a,1≤n) {o:Int} (h1:0≤o) (h2:o < prodI a):∀ x∈dig a o,0≤x∧x≤65536:=fun x hx=>by
 have hv:=vld_dig hpos h1 h2
 obtain ⟨c1,c2,c3⟩:=checkR_ok hc
 have key:∀ {s i:List Int},vld s i=true→(∀ n∈s,n≤65536)→∀ x∈i,0≤x∧x≤65536:=fun {s}=>by
  induction s with
  | nil =>
   intro i hv _ x hx
   cases i with
   | nil=>simp at hx
   | cons=>simp [vld] at hv
  | cons n s ih =>
   intro i hv hn x hx
   cases i with
   | nil=>simp [vld] at hv
   | cons y i =>
    simp only [vld,Bool.and_eq_true,decide_eq_true_eq] at hv
    rcases List.mem_cons.1 hx with rfl|hx
    ·have:=hn n (by simp); omega
    ·exact ih hv.2 (fun n h=>hn n (List.mem_cons_of_mem _ h)) x hx
 exact key hv (fun n h=>(c3 n h).2) x hx
theorem pPieces_L1 {l:List Qb} (hl:l.length≤600) {R:List Qe} (hR:RunsAt l 0 R) (hn:1≤l.length) {a:List Int} {w B:Nat} (hw:1≤w) (hc:checkR (a++[(w:Int)])=0) (hca:checkR a=0) (hpos:∀ n∈a,1≤n) (hB:prodI a=(B:Int)) (hBw:B * w≤65536)
  (v9 v10:Qk) (hv:W (v9.at0_+v10.len)=(l.length:Int)):∀ (m b:Nat) (out:List Qd),b+m=B→out.length≤b * w →
  QS (((B * w:Nat):Int),a++[(w:Int)],R.map toRn,v9,v10,(w:Int),out,((b * w:Nat):Int))=some (out++(rowsP R l.length a w b m).map toPc)
 | 0,b,out,h1,h2=>by
  rw [QS]
  have:¬ (((b * w:Nat):Int) < ((B * w:Nat):Int)):=by rw [← h1]; simp
  simp only [this,if_false,rowsP,List.range'_zero,List.flatMap_nil,List.map_nil,List.append_nil]
 | m+1,b,out,h1,h2=>by
  rw [QS]
  have hbB:(b+1) * w≤B * w:=Nat.mul_le_mul_right _ (by omega)
  rw [Nat.add_mul,Nat.one_mul] at hbB
  have hlt:((b * w:Nat):Int) < ((B * w:Nat):Int):=by omega
  have hposw:∀ n∈a++[(w:Int)],1≤n:=fun n h=>by
   rcases List.mem_append.1 h with h|h
   ·exact hpos n h
   ·simp at h; omega
  have hP:prodI (a++[(w:Int)])=((B * w:Nat):Int):=by rw [prodI_append,hB,prodI_cons,prodI_nil,Int.mul_one]; simp
  have hdig:dig (a++[(w:Int)]) ((b * w:Nat):Int)=dig a (b:Int)++[0]:=by
   rw [dig_snoc a (w:Int) _ hpos (by omega) (by omega) (by rw [hP]; omega)]
   have e1:((b * w:Nat):Int) / (w:Int)=(b:Int):=by rw [Int.natCast_mul]; exact Int.mul_ediv_cancel _ (by omega)
   have e2:((b * w:Nat):Int) % (w:Int)=0:=by rw [Int.natCast_mul]; exact Int.mul_emod_left _ _
   rw [e1,e2]
  obtain ⟨c1,c2,c3⟩:=checkR_ok hca
  have hdl:(dig a (b:Int)).length=a.length:=dig_len _ _
  have hdb:=dig_b hca hpos (show (0:Int)≤(b:Int) by omega) (by rw [hB]; omega)
  have hrow:=row_ok hl hR hn out.length (strd (a++[(w:Int)])) (a++[(w:Int)]) (dig a (b:Int)) (by omega) hdb (f:=b * w) (w:=w) (by have:=Nat.le_mul_of_pos_left w (show 0 < B by omega); omega) (by omega)
  rw [hdl] at hrow
  have hlen:(a++[(w:Int)]).length=a.length+1:=by simp
  have hWn:W (((b * w:Nat):Int)+(w:Int))=(((b+1) * w:Nat):Int):=by
   rw [W_in (by omega) (by omega),Nat.add_mul,Nat.one_mul]; omega
  have hsl:=segs_len R l.length w (b * w) 0 w
  simp only [hlt,if_true,gIndex_ok hc hposw (show (0:Int)≤((b * w:Nat):Int) by omega) (by rw [hP]; exact hlt),Qg,hv,hdig,hlen,hrow]
  rw [app_le (by simp; omega) (by omega),Qg,hWn,pPieces_L1 hl hR hn hw hc hca hpos hB hBw v9 v10 hv m (b+1) _ (by omega) (by simp [Nat.add_mul]; omega)]
  simp only [rowsP,List.range'_succ,List.flatMap_cons,List.map_append,List.map_map,List.append_assoc]
  rfl
theorem last_run {l:List Qb}:∀ {R:List Qe} {a:Nat},RunsAt l a R→1≤R.length→∃ r,R[R.length - 1]? = some r∧r.at0_+r.len=(l.length:Int)
 | [],a,h,h1=>by simp at h1
 | [r],a,h,h1=>by
  obtain ⟨m,⟨e1,e2⟩,⟨h1,h2⟩,_,_,h5⟩:=h
  simp only [RunsAt] at h5
  exact ⟨r,rfl,by omega⟩
 | r::r'::R,a,h,h1=>by
  obtain ⟨m,_,_,_,_,h5⟩:=h
  obtain ⟨q,k1,k2⟩:=last_run h5 (by simp)
  exact ⟨q,by simpa using k1,k2⟩
theorem pPieces_row {l:List Qb} (hl:l.length≤600) {R:List Qe} (hR:RunsAt l 0 R) (hR2:2≤R.length) {a:List Int} {w B:Nat} (hw:1≤w) (hc:checkR (a++[(w:Int)])=0) (hca:checkR a=0) (hpos:∀ n∈a,1≤n) (hB:prodI a=(B:Int)) (hBw:B * w≤65536) :
  Zi (R.map toRn,a++[(w:Int)])=some ((rowsP R l.length a w 0 B).map toPc):=by
 have hlen:=runs_len hR
 obtain ⟨r,k1,k2⟩:=last_run hR (by omega)
 have hP:prodI (a++[(w:Int)])=((B * w:Nat):Int):=by rw [prodI_append,hB,prodI_cons,prodI_nil,Int.mul_one]; simp
 have hB1:1≤B:=by have:=prodI_pos hpos; omega
 have hBw1:1≤B * w:=Nat.mul_pos hB1 hw
 obtain ⟨c1,c2,c3⟩:=checkR_ok hc
 have e1:¬ (((B * w:Nat):Int)=0):=by omega
 have e2:((((R.map toRn).length:Nat):Int) == 0)=false:=by rw [List.length_map]; exact beq_false_of_ne (by omega)
 have e3:¬ ((((R.map toRn).length:Nat):Int)=1):=by simp; omega
 have e4:(((a++[(w:Int)]).length:Nat):Int) > 0:=by simp <;> omega
 have hWl:W ((((R.map toRn).length:Nat):Int) - 1)=((R.length - 1:Nat):Int):=by rw [List.length_map,W_in (by omega) (by omega)]; omega
 have hsum:W ((toRn r).at0_+(toRn r).len)=(l.length:Int):=by
  have:(toRn r).at0_+(toRn r).len=(l.length:Int):=k2
  rw [this]; exact W_in (by omega) (by omega)
 have e:=pPieces_L1 hl hR (by omega) hw hc hca hpos hB hBw (toRn r) (toRn r) hsum B 0 [] (by omega) (by simp)
 have e':QS (((B * w:Nat):Int),a++[(w:Int)],R.map toRn,toRn r,toRn r,(w:Int),[],0)=some ((rowsP R l.length a w 0 B).map toPc):=by simpa using e
 have hcl:((a++[(w:Int)]).length:Nat)≤1000:=by omega
 have hw1:W (((a++[(w:Int)]).length:Int) - 1)=(a.length:Int):=W_len1 (by simp at c1; omega)
 simp only [Zi,gCells_ok _ (Sm_of hcl),cellsR,hc,if_true,hP,Qg,e1,if_false,e2,Bool.false_eq_true,e3,e4,hw1,idx_last,hWl,toRn_idx k1,e']
def piece0 (r:Qe):Qa:=⟨⟨[],[]⟩,if r.fill=true then ⟨1,0,0,[],0,0,0⟩ else ⟨2,r.buffer,r.offset,[],0,0,0⟩⟩
theorem pPieces_nil {l:List Qb} (hl:l.length≤600) {R:List Qe} (hR:RunsAt l 0 R) (hR2:2≤R.length):Zi (R.map toRn,[])=some [toPc (piece0 (runAt R 0))]:=by
 have hlen:=runs_len hR
 obtain ⟨r,k1,k2⟩:=last_run hR (by omega)
 have hc:checkR []=0:=by decide
 have e2:((((R.map toRn).length:Nat):Int) == 0)=false:=by rw [List.length_map]; exact beq_false_of_ne (by omega)
 have e3:¬ ((((R.map toRn).length:Nat):Int)=1):=by simp; omega
 have hWl:W ((((R.map toRn).length:Nat):Int) - 1)=((R.length - 1:Nat):Int):=by rw [List.length_map,W_in (by omega) (by omega)]; omega
 have hsum:W ((toRn r).at0_+(toRn r).len)=(l.length:Int):=by
  have:(toRn r).at0_+(toRn r).len=(l.length:Int):=k2
  rw [this]; exact W_in (by omega) (by omega)
 have hg:0 < l.length:=by omega
 obtain ⟨a1,a2,a3,a4,a5,a6⟩:=runAt_spec hR hg
 obtain ⟨q,b1,b2⟩:=pfind_ok hl hR hg
 rw [a1] at b1; cases b1
 have hp0:(pos R 0).2=0:=by
  have:∀ {R:List Qe} {a:Nat},RunsAt l a R→(pos R 0).2=0:=fun {R}=>by
   intro a h
   cases R with
   | nil=>rfl
   | cons r R =>
    obtain ⟨m,⟨_,e2⟩,⟨h1,_⟩,_⟩:=h
    rw [pos,if_pos (by omega)]
  exact this hR
 rw [hp0] at b2
 have hidx:=gIndex_ok (s:=[]) (o:=0) hc (fun n h=>by simp at h) (Int.le_refl _) (by decide) 0
 have hz:(0:Int) % (l.length:Int)=0:=Int.zero_emod _
 have hlt:¬ (W ((toRn (runAt R 0)).len - (0:Nat)) < 1):=by rw [W_in (by simp only [toRn]; omega) (by simp only [toRn]; omega)]; simp only [toRn]; omega
 have hrow2:∀ out:List Qd,QO ((l.length:Int),R.map toRn,0,0,strd [],[],[],W ((0:Int)+1),W ((1:Int) - 1),out)=some ([],out):=fun out=>by
  rw [QO]
  have:¬ (W ((1:Int) - 1) > 0):=by decide
  simp only [this,if_false]
 have hpart:=part_nil a5 (o:=0) (by omega)
 simp only [Int.natCast_zero,Int.zero_mul,Int.add_zero] at hpart
 have hL2:∀ (v202 v203:Int) (q4:Nat) (v204:List Qd) (v605:Int) (v604:Qk) (q8:Nat) (q5 q6 v201 v608:List Int),Q3 ([],R.map toRn,(l.length:Int),v202,v203,q4,v204,v605,v604,q8,q5,q6,v201,v608,[],0)=some []:=fun v202 v203 q4 v204 v605 v604 q8 q5 q6 v201 v608 =>
  row_L2 [] (R.map toRn) (l.length:Int) v202 v203 q4 v204 v605 v604 q8 q5 q6 v201 v608 [] [] rfl (by simp) (fun x h=>by simp at h)
 have hn1:¬ (W (((0:Nat):Int) - 1)≥0):=by decide
 have hrow:ZJ (R.map toRn,(l.length:Int),0,1,0,strd [],[],[],0)=some ([],[toPc (piece0 (runAt R 0))]):=by
  unfold ZJ
  dsimp only
  rw [QO]
  have h10:(1:Int) > 0:=by decide
  have hr0:remM 0 (l.length:Int)=some 0:=by rw [remM_ok (Int.le_refl _) (by omega),hz]
  have b2':YY (R.map toRn,0)=some (toRn (runAt R 0),0,true):=b2
  have hlt':¬ (W ((toRn (runAt R 0)).len - 0) < 1):=hlt
  simp only [h10,if_true,hr0,Qg,b2',guardM_ok (rfl:([]:List Int).length=0),clone_ok (show ([]:List Int).length≤1000 by simp),hL2,hpart,hn1,if_false,guardM_ok (rfl:([]:List Int).length=([]:List Int).length),hlt']
  rw [app_le (by simp) (by omega),Qg,hrow2]
  rfl
 have hfin:QS (1,[],R.map toRn,toRn r,toRn r,1,[],0)=some [toPc (piece0 (runAt R 0))]:=by
  rw [QS]
  have h01:(0:Int) < 1:=by decide
  have hidx':ZR ([],0,([]:List Qd).length)=some (.inr (dig [] 0,strd [],[],([]:List Int).length)):=hidx
  simp only [h01,if_true,hidx',Qg,hsum]
  have hrow':ZJ (R.map toRn,(l.length:Int),0,1,([]:List Int).length,strd [],[],dig [] 0,([]:List Qd).length)=some ([],[toPc (piece0 (runAt R 0))]):=hrow
  rw [hrow',Qg]
  simp only
  rw [app_le (by simp) (by omega),Qg,QS]
  have:¬ (W ((0:Int)+1) < 1):=by decide
  simp only [this,if_false]
  rfl
 have hn0:¬ ((1:Int)=0):=by decide
 have e4:¬ (((([]:List Int).length:Nat):Int) > 0):=by simp
 simp only [Zi,gCells_ok [] (Sm_of (show ([]:List Int).length≤1000 by simp)),cellsR,hc,if_true,prodI_nil,Qg,hn0,if_false,e2,Bool.false_eq_true,e3,e4,hWl,toRn_idx k1,hfin]
theorem pos_zero {l:List Qb}:∀ {R:List Qe} {a:Nat},RunsAt l a R→pos R 0=(0,0)
 | [],a,h=>rfl
 | r::R,a,h=>by
  obtain ⟨m,⟨_,e2⟩,⟨h1,_⟩,_⟩:=h
  rw [pos,if_pos (by omega)]
theorem pos_next {l:List Qb}:∀ {R:List Qe} {a g:Nat},RunsAt l a R→a+g+1 < l.length →
  if ((pos R g).2:Int)+1 < (runAt R g).len then pos R (g+1)=((pos R g).1,(pos R g).2+1) else pos R (g+1)=((pos R g).1+1,0)
 | [],a,g,h,hg=>by simp only [RunsAt] at h; omega
 | r::R,a,g,h,hg=>by
  obtain ⟨m,⟨e1,e2⟩,⟨h1,h2⟩,h3,h4,h5⟩:=h
  have hm:r.len.toNat=m:=by omega
  by_cases c:g < m
  ·have p1:pos (r::R) g=(0,g):=by rw [pos,hm,if_pos c]
   have hr:runAt (r::R) g=r:=by simp [runAt,p1]
   rw [hr,p1]
   by_cases c2:g+1 < m
   ·have p2:pos (r::R) (g+1)=(0,g+1):=by rw [pos,hm,if_pos c2]
    rw [if_pos (by simp only; omega),p2]
   ·have p2:pos (r::R) (g+1)=(1,0):=by
     rw [pos,hm,if_neg c2,show g+1 - m=0 by omega,pos_zero h5]
    rw [if_neg (by simp only; omega),p2]
  ·have p1:pos (r::R) g=((pos R (g - m)).1+1,(pos R (g - m)).2):=by rw [pos,hm,if_neg c]
   have p2:pos (r::R) (g+1)=((pos R (g - m+1)).1+1,(pos R (g - m+1)).2):=by rw [pos,hm,if_neg (by omega),show g+1 - m=g - m+1 by omega]
   have hr:runAt (r::R) g=runAt R (g - m):=by simp [runAt,p1]
   have ih:=pos_next (g:=g - m) h5 (by omega)
   rw [hr,p1,p2]
   split at ih
   ·rename_i c3
    rw [if_pos c3,ih]
   ·rename_i c3
    rw [if_neg c3,ih]
theorem run_end {l:List Qb}:∀ {R:List Qe} {a:Nat},RunsAt l a R→∀ r∈R,0≤r.at0_∧r.at0_+r.len≤l.length
 | [],a,h,r,hr=>by simp at hr
 | r0::R,a,h,r,hr=>by
  obtain ⟨m,⟨e1,e2⟩,⟨h1,h2⟩,_,_,h5⟩:=h
  rcases List.mem_cons.1 hr with rfl|hr
  ·omega
  ·exact run_end h5 r hr
theorem step_mod {l:List Qb} {R:List Qe} (hR:RunsAt l 0 R) (hn:1≤l.length) (f:Nat) :
  if ((pos R (f % l.length)).2:Int)+1 < (runAt R (f % l.length)).len then pos R ((f+1) % l.length)=((pos R (f % l.length)).1,(pos R (f % l.length)).2+1) else (pos R ((f+1) % l.length)).2=0:=by
 have hlt:f % l.length < l.length:=Nat.mod_lt _ hn
 obtain ⟨a1,a2,a3,a4,a5,a6⟩:=runAt_spec hR hlt
 have hend:=run_end hR _ (List.mem_of_getElem? a1)
 by_cases c:f % l.length+1 < l.length
 ·have e:(f+1) % l.length=f % l.length+1:=by
   rw [Nat.add_mod]
   by_cases h1:l.length=1
   ·omega
   ·rw [Nat.mod_eq_of_lt (show 1 < l.length by omega),Nat.mod_eq_of_lt c]
  have:=pos_next (g:=f % l.length) hR (by omega)
  rw [e]
  split at this
  ·rename_i c2; rw [if_pos c2,this]
  ·rename_i c2; rw [if_neg c2,this]
 ·have e:(f+1) % l.length=0:=by
   have h1:f % l.length+1=l.length:=by omega
   rw [Nat.add_mod]
   by_cases h1':l.length=1
   ·rw [h1']; omega
   ·rw [Nat.mod_eq_of_lt (show 1 < l.length by omega),h1,Nat.mod_self]
  rw [if_neg (by omega),e,pos_zero hR]
theorem offs {l:List Qb} {R:List Qe} (hR:RunsAt l 0 R) (hn:1≤l.length) (f:Nat):∀ i:Nat,((pos R (f % l.length)).2:Int)+i < (runAt R (f % l.length)).len→pos R ((f+i) % l.length)=((pos R (f % l.length)).1,(pos R (f % l.length)).2+i)
 | 0,h=>rfl
 | i+1,h=>by
  have ih:=offs hR hn f i (by omega)
  have:=step_mod hR hn (f+i)
  have hr:runAt R ((f+i) % l.length)=runAt R (f % l.length):=by simp only [runAt,ih]
  rw [hr,ih,if_pos (by simp only; omega)] at this
  exact this
theorem rL2 {p1:List Int} {v20:List (List Int)} {v226:Int} {p0:List Qe} {v2:Int} {v223:Nat} {v225:List Qa} {v626 v627:Int} {v222 v641:List Int} {i:List Int} (hi:idx v20 v226=some i) (hb:∀ x∈i,0≤x∧x≤65536) (hp:p1.length=i.length) (hl:i.length≤900) :
  ∀ (t p:List Int) (g:Nat),i=p++t→∃ g',Q8 (p1,v20,v226,p0,v2,v223,v225,v626,v627,v222,v641,g,p.map (·+1),(p.length:Int))=some (g',i.map (·+1))
 | [],p,g,e=>by
  rw [Q8]
  have:¬ ((p.length:Int) < (p1.length:Int)):=by rw [hp,e]; simp
  simp only [this,if_false]
  rw [e,List.append_nil]
  exact ⟨g,rfl⟩
 | x::t,p,g,e=>by
  rw [Q8]
  have h1:((p.length:Int) < (p1.length:Int)):=by rw [hp,e]; simp; omega
  have h2:idx i (p.length:Int)=some x:=by rw [e]; exact QJ
  have hx:=hb x (by rw [e]; simp)
  have hW:W (x+1)=x+1:=W_in (by omega) (by omega)
  have hWp:W ((p.length:Int)+1)=((p++[x]).length:Int):=by
   have:p.length≤900:=by rw [e] at hl; simp at hl; omega
   rw [W_in (by omega) (by omega)]; simp
  have ha:app 8 (p.map (·+1)) [x+1]=some ((p++[x]).map (·+1)):=by
   have hq9:p.length≤900:=by rw [e] at hl; simp at hl; omega
   rw [app_le (by simp; omega) (by omega)]; simp
  obtain ⟨g',h⟩:=rL2 (p1:=p1) (v20:=v20) (v226:=v226) (p0:=p0) (v2:=v2) (v223:=v223) (v225:=v225) (v626:=v626) (v627:=v627) (v222:=v222) (v641:=v641) hi hb hp hl t (p++[x]) (gb g ([x+1]:List Int).isEmpty) (by rw [e]; simp)
  exact ⟨g',by simp only [h1,if_true,hi,Qg,h2,hW,ha,hWp]; exact h⟩

structure Ctx (l:List Qb) (R:List Qe) (a:List Int) (w B:Nat):Prop where
 hl:l.length≤600
 hR:RunsAt l 0 R
 hn:1≤l.length
 hw:1≤w
 hc:checkR (a++[(w:Int)])=0
 hca:checkR a=0
 hpos:∀ n∈a,1≤n
 hB:prodI a=(B:Int)
 hBw:B * w≤65536
section
variable {l:List Qb} {R:List Qe} {a:List Int} {w B:Nat}
theorem Ctx.bw (C:Ctx l R a w B) {b x:Nat} (hb:b < B) (hx:x < w):b * w+x < B * w:=by
 have hbB:(b+1) * w≤B * w:=Nat.mul_le_mul_right _ (by omega)
 rw [Nat.add_mul,Nat.one_mul] at hbB
 omega
theorem Ctx.posw (C:Ctx l R a w B):∀ n∈a++[(w:Int)],1≤n:=fun n h=>by
 rcases List.mem_append.1 h with h|h
 ·exact C.hpos n h
 ·have:=C.hw; simp at h; omega
theorem Ctx.P (C:Ctx l R a w B):prodI (a++[(w:Int)])=((B * w:Nat):Int):=by rw [prodI_append,C.hB,prodI_cons,prodI_nil,Int.mul_one]; simp
theorem Ctx.ix (C:Ctx l R a w B) {b x:Nat} (hb:b < B) (hx:x < w):(allL (a++[(w:Int)]))[b * w+x]? = some (dig a (b:Int)++[(x:Int)]):=by
 have h:=C.bw hb hx
 have hw:=C.hw
 rw [allL_get C.posw _ (by rw [C.P]; omega)]
 rw [dig_snoc a (w:Int) _ C.hpos (by omega) (by omega) (by rw [C.P]; omega)]
 have e1:((b * w+x:Nat):Int) / (w:Int)=(b:Int):=by
  have:(b * w+x) / w=b:=by rw [Nat.mul_comm,Nat.mul_add_div (by omega),Nat.div_eq_of_lt hx]; omega
  rw [← Int.natCast_ediv,this]
 have e2:((b * w+x:Nat):Int) % (w:Int)=(x:Int):=by
  have:(b * w+x) % w=x:=by rw [Nat.mul_comm,Nat.mul_add_mod,Nat.mod_eq_of_lt hx]
  rw [← Int.natCast_emod,this]
 rw [e1,e2]
theorem idx_of {α:Type} {l:List α} {i:Nat} {x:α} (h:l[i]? = some x):idx l (i:Int)=some x:=by
 obtain ⟨h1,h2⟩:=List.getElem?_eq_some_iff.1 h
 rw [idx_ok h1,h2]
theorem Ctx.len (C:Ctx l R a w B):(allL (a++[(w:Int)])).length=B * w:=by
 have:=allL_len (s:=a++[(w:Int)]) (fun n h=>by have:=C.posw n h; omega)
 rw [C.P] at this; omega
theorem fr_ok (C:Ctx l R a w B) (f x:Nat):((if ((x:Int) == 0)=true then some true else some (((f % l.length:Nat):Int) == 0))>>=fun (v632:Bool)=>if v632=true then some true else Yo (R,W (((f % l.length:Nat):Int) - 1))>>=fun v633=>some (v633 != (((pos R (f % l.length)).1:Nat):Int)))=some (decide (x=0∨(pos R (f % l.length)).2=0)):=by
 have hlt:f % l.length < l.length:=Nat.mod_lt _ C.hn
 have hl:=C.hl
 by_cases h0:x=0
 ·subst h0; simp
 ·have hx:((x:Int) == 0)=false:=by simpa using h0
  simp only [hx,Bool.false_eq_true,if_false,Qg]
  generalize hg:f % l.length=g at *
  cases g with
  | zero=>simp [pos_zero C.hR]
  | succ g =>
   have hz:(((g+1:Nat):Int) == 0)=false:=beq_false_of_ne (by omega)
   have hW:W (((g+1:Nat):Int) - 1)=(g:Int):=by rw [W_in (by omega) (by omega)]; omega
   simp only [hz,Bool.false_eq_true,if_false,hW,rfind_ok C.hl C.hR (show g < l.length by omega),Qg]
   have hp:=pos_next (g:=g) C.hR (by omega)
   split at hp
   ·rw [hp]; simp [h0]
   ·rw [hp]; simp; omega
def shP (p:Qa) (h:List Int):Qa:=⟨⟨p.box.lo,h⟩,p.access⟩
theorem flap_ok {out:List Qa} {hi:List Int} {p:Qa} (h:out.length≤70000):flap 120 (fun (p_:Qa) (h_:List Int)=>(⟨⟨p_.box.lo,h_⟩,p_.access⟩:Qa)) out hi p=some (flP shP out hi++[p]):=by
 have h2:100000 * 120≤room:=by decide +kernel
 unfold flap
 rw [if_pos (by omega)]
 rfl
theorem hot_step (C:Ctx l R a w B) {b x:Nat} (hb:b < B) (hx:x < w) (hx0:x≠0) (ho:(pos R ((b * w+x) % l.length)).2≠0) {out:List Qa} (h0:out≠[]) (h1:out.length≤70000) {pre:List Int} (hp:pre.length=a.length) {y:Int} (hy:0≤y∧y≤70000) (g t:Nat) :
  Qw (allL (a++[(w:Int)]),(l.length:Int),R,a++[(w:Int)],g,pre++[y],t,a.length+1,out,((b * w+x:Nat):Int))=Qw (allL (a++[(w:Int)]),(l.length:Int),R,a++[(w:Int)],g,pre++[y+1],t,a.length+1,out,((b * w+x+1:Nat):Int)):=by
 rw [Qw]
 have hbw:=C.bw hb hx
 have hBw:=C.hBw
 have hn:=C.hn
 obtain ⟨c1,c2,c3⟩:=checkR_ok C.hca
 have hlt:(((b * w+x:Nat):Int) < ((allL (a++[(w:Int)])).length:Int)):=by rw [C.len]; omega
 have hmod:(((b * w+x:Nat):Int) % (l.length:Int))=(((b * w+x) % l.length:Nat):Int):=by rw [Int.natCast_emod]
 have hrem:remM ((b * w+x:Nat):Int) (l.length:Int)=some (((b * w+x) % l.length:Nat):Int):=by rw [remM_ok (by omega) (by omega),hmod]
 have hfind:=rfind_ok C.hl C.hR (Nat.mod_lt (b * w+x) hn)
 have hW1:W (((a++[(w:Int)]).length:Int) - 1)=(a.length:Int):=W_len1 (by omega)
 have hneg:¬ ((a.length:Int) < 0):=by omega
 have hix:=idx_of (C.ix hb hx)
 have hdl:(dig a (b:Int)).length=a.length:=dig_len _ _
 have ix:idx (dig a (b:Int)++[(x:Int)]) (a.length:Int)=some (x:Int):=by rw [← hdl]; exact idx_last
 have hfr:=fr_ok C (b * w+x) x
 rw [show decide (x=0∨(pos R ((b * w+x) % l.length)).2=0)=false by simp [hx0,ho]] at hfr
 have hpos:0 < out.length:=by cases out with|nil=>exact absurd rfl h0|cons=>simp
 have g1:Zf (0 < out.length∧out.length≤4611686018427387904)=some ():=guardM_ok ⟨hpos,by omega⟩
 have g2:Zf ((pre++[y]).length=a.length+1)=some ():=guardM_ok (by simp [hp])
 have i1:idx (pre++[y]) (a.length:Int)=some y:=by rw [← hp]; exact idx_last
 have hWy:W (y+1)=y+1:=W_in (by omega) (by omega)
 have s1:setM (pre++[y]) (a.length:Int) (y+1)=some (pre++[y+1]):=by rw [setM_ok (by simp; omega),← hp,set_last]
 have hWf:W (((b * w+x:Nat):Int)+1)=((b * w+x+1:Nat):Int):=W_nat (by omega)
 simp only [hlt,if_true,hrem,Qg,hfind,hW1,hneg,if_false,hix,ix,hfr,g1,g2,i1,hWy,s1,hWf]
theorem hot_run (C:Ctx l R a w B) {b x:Nat} (hb:b < B) {out:List Qa} (h0:out≠[]) (h1:out.length≤70000) {pre:List Int} (hp:pre.length=a.length) (g t:Nat) :
  ∀ j,x+1+j≤w→(∀ i,i < j→(pos R ((b * w+(x+1+i)) % l.length)).2≠0) →
  Qw (allL (a++[(w:Int)]),(l.length:Int),R,a++[(w:Int)],g,pre++[(x:Int)+1],t,a.length+1,out,((b * w+x+1:Nat):Int))=Qw (allL (a++[(w:Int)]),(l.length:Int),R,a++[(w:Int)],g,pre++[((x+1+j:Nat):Int)],t,a.length+1,out,((b * w+(x+1+j):Nat):Int))
 | 0,_,_=>rfl
 | j+1,hj,ho=>by
  have hbw:=C.bw (b:=b) (x:=x+1+j) hb (by omega)
  have hBw:=C.hBw
  rw [hot_run C hb h0 h1 hp g t j (by omega) fun i hi=>ho i (by omega)]
  rw [hot_step C hb (x:=x+1+j) (by omega) (by omega) (ho j (by omega)) h0 h1 hp (by omega) g t]
  rfl
theorem fresh_step (C:Ctx l R a w B) {b x:Nat} (hb:b < B) (hx:x < w) (ho:x=0∨(pos R ((b * w+x) % l.length)).2=0) {out:List Qa} (h1:out.length≤70000) (hi:List Int) (g t:Nat) :
  ∃ g',Qw (allL (a++[(w:Int)]),(l.length:Int),R,a++[(w:Int)],g,hi,t,hi.length,out,((b * w+x:Nat):Int))=Qw (allL (a++[(w:Int)]),(l.length:Int),R,a++[(w:Int)],g',(dig a (b:Int)).map (·+1)++[(x:Int)+1],t+1,a.length+1,
   flP shP out hi++[⟨⟨dig a (b:Int)++[(x:Int)],(dig a (b:Int)).map (·+1)++[(x:Int)+1]⟩,accR (runAt R ((b * w+x) % l.length)) (pos R ((b * w+x) % l.length)).2 a.length x⟩],((b * w+x+1:Nat):Int)):=by
 rw [Qw]
 have hbw:=C.bw hb hx
 have hBw:=C.hBw
 have hn:=C.hn
 have hl:=C.hl
 obtain ⟨c1,c2,c3⟩:=checkR_ok C.hca
 obtain ⟨d1,d2,d3⟩:=checkR_ok C.hc
 have hlt:(((b * w+x:Nat):Int) < ((allL (a++[(w:Int)])).length:Int)):=by rw [C.len]; omega
 have hmod:(((b * w+x:Nat):Int) % (l.length:Int))=(((b * w+x) % l.length:Nat):Int):=by rw [Int.natCast_emod]
 have hrem:remM ((b * w+x:Nat):Int) (l.length:Int)=some (((b * w+x) % l.length:Nat):Int):=by rw [remM_ok (by omega) (by omega),hmod]
 have hml:=Nat.mod_lt (b * w+x) hn
 have hfind:=rfind_ok C.hl C.hR hml
 have hW1:W (((a++[(w:Int)]).length:Int) - 1)=(a.length:Int):=W_len1 (by omega)
 have hneg:¬ ((a.length:Int) < 0):=by omega
 have hge:((a.length:Int)≥0):=by omega
 have hix:=idx_of (C.ix hb hx)
 have hdl:(dig a (b:Int)).length=a.length:=dig_len _ _
 have ix:idx (dig a (b:Int)++[(x:Int)]) (a.length:Int)=some (x:Int):=by rw [← hdl]; exact idx_last
 have hfr:=fr_ok C (b * w+x) x
 rw [show decide (x=0∨(pos R ((b * w+x) % l.length)).2=0)=true by simp [ho]] at hfr
 have g2:Zf (hi.length=hi.length)=some ():=guardM_ok rfl
 have hxw:x≤65536:=by have:=Nat.le_add_left x (b * w); omega
 have hdb:=dig_b C.hca C.hpos (show (0:Int)≤(b:Int) by omega) (by rw [C.hB]; omega)
 have hbi:∀ y∈dig a (b:Int)++[(x:Int)],0≤y∧y≤65536:=fun y hy=>by
  rcases List.mem_append.1 hy with hy|hy
  ·exact hdb y hy
  ·simp at hy; omega
 obtain ⟨g',hL2⟩:=rL2 (p1:=a++[(w:Int)]) (p0:=R) (v2:=(l.length:Int)) (v223:=t) (v225:=out) (v626:=(((b * w+x) % l.length:Nat):Int)) (v627:=(((pos R ((b * w+x) % l.length)).1:Nat):Int)) (v222:=hi) (v641:=dig a (b:Int)++[(x:Int)]) hix hbi (by simp [hdl]) (by simp [hdl]; omega) (dig a (b:Int)++[(x:Int)]) [] (flg g out+1) rfl
 simp only [List.map_nil,List.length_nil,Int.natCast_zero] at hL2
 refine ⟨g',?_⟩
 obtain ⟨a1,a2,a3,a4,a5,a6⟩:=runAt_spec C.hR hml
 have hrun:=idx_of a1
 have hmap:(dig a (b:Int)++[(x:Int)]).map (·+1)=(dig a (b:Int)).map (·+1)++[(x:Int)+1]:=by simp
 have hmlen:((dig a (b:Int)).map (·+1)++[(x:Int)+1]).length=a.length+1:=by simp [hdl]
 have hWf:W (((b * w+x:Nat):Int)+1)=((b * w+x+1:Nat):Int):=W_nat (by omega)
 have htf:¬ (true=false):=by simp
 have gT:Zf True=some ():=guardM_ok trivial
 simp only [hlt,if_true,hrem,Qg,hfind,hW1,hneg,if_false,hix,ix,hfr,htf,reduceCtorEq,g2,gT,hL2,hrun,hmap,hge]
 generalize hr:runAt R ((b * w+x) % l.length)=r at *
 generalize hoo:(pos R ((b * w+x) % l.length)).2=o at *
 by_cases hf:r.fill=true
 ·simp only [hf,reduceCtorEq,if_false,flap_ok h1,Qg,hWf,hmlen]
  simp only [accR,hf,if_true]
 ·have hf':r.fill=false:=by simpa using hf
  have hol:o≤600:=by omega
  obtain ⟨w1,w2,w3,w4⟩:=step_b a5 hol
  have hbb:=mul_b (a:=r.step) (b:=(x:Int)) (A:=100000) (B:=65536) a5.s.1 a5.s.2 (by omega) (by omega)
  have w5:W (r.step * (x:Int))=r.step * x:=W_in (by omega) (by omega)
  have w6:W (r.offset+(o:Int) * r.step - r.step * x)=r.offset+o * r.step - r.step * x:=by have:=a5.o; exact W_in (by omega) (by omega)
  have w7:W ((((b * w+x) % l.length:Nat):Int) - r.at0_)=(o:Int):=by rw [W_in (by omega) (by omega)]; omega
  have hrep:List.replicate (a++[(w:Int)]).length (0:Int)=List.replicate a.length 0++[0]:=by simp [List.replicate_succ']
  have hrl:(List.replicate a.length (0:Int)).length=a.length:=by simp
  have i1:idx (List.replicate a.length (0:Int)++[0]) (a.length:Int)=some 0:=by
   have:=idx_last (p:=List.replicate a.length (0:Int)) (x:=0)
   rwa [hrl] at this
  have s1:setM (List.replicate a.length (0:Int)++[0]) (a.length:Int) r.step=some (List.replicate a.length 0++[r.step]):=by
   rw [setM_ok (by simp)]
   have:=set_last (p:=List.replicate a.length (0:Int)) (x:=0) (y:=r.step)
   rw [hrl] at this
   rw [this]
  have hg3:Zf ((List.replicate a.length 0++[r.step]).length=(List.replicate a.length (0:Int)++[0]).length)=some ():=guardM_ok (by simp)
  simp only [hf',if_true,make_ok (show (a++[(w:Int)]).length≤1000 by omega),hrep,Qg,i1,s1,w7,w1,w2,w5,w6,hg3,flap_ok h1,hWf,hmlen]
  simp only [accR,hf',Bool.false_eq_true,if_false]
theorem seg_run (C:Ctx l R a w B) {b:Nat} (hb:b < B):∀ (k x wr:Nat) (hi:List Int) (out:List Qa) (g t:Nat),x+wr=w→wr≤k→(wr=0∨x=0∨(pos R ((b * w+x) % l.length)).2=0)→out.length≤b * w+x →
  ∃ g' hi' t' out',Qw (allL (a++[(w:Int)]),(l.length:Int),R,a++[(w:Int)],g,hi,t,hi.length,out,((b * w+x:Nat):Int))=Qw (allL (a++[(w:Int)]),(l.length:Int),R,a++[(w:Int)],g',hi',t',hi'.length,out',((b * w+w:Nat):Int)) ∧
   flP shP out' hi'=flP shP out hi++(segs R l.length k (b * w+x) x wr).map (segP (dig a (b:Int)))∧out'.length≤b * w+w
 | 0,x,wr,hi,out,g,t,h1,h2,h3,h4=>by
  have:x=w:=by omega
  subst this
  exact ⟨g,hi,t,out,rfl,by simp [segs],by omega⟩
 | k+1,x,wr,hi,out,g,t,h1,h2,h3,h4=>by
  by_cases h0:wr=0
  ·have:x=w:=by omega
   subst this
   exact ⟨g,hi,t,out,rfl,by simp [segs,h0],by omega⟩
  ·have hBw:=C.hBw
   have hx:x < w:=by omega
   have hbw:=C.bw (b:=b) (x:=x) hb hx
   have hn:=C.hn
   have hdl:(dig a (b:Int)).length=a.length:=dig_len _ _
   have hml:=Nat.mod_lt (b * w+x) hn
   obtain ⟨a1,a2,a3,a4,a5,a6⟩:=runAt_spec C.hR hml
   obtain ⟨g1,e1⟩:=fresh_step C hb hx (by omega) (out:=out) (by omega) hi g t
   generalize hz:min wr ((runAt R ((b * w+x) % l.length)).len.toNat - (pos R ((b * w+x) % l.length)).2)=z
   have hz1:1≤z:=by omega
   have hzw:z≤wr:=by omega
   have hofs:=offs C.hR hn (b * w+x)
   have hpre:((dig a (b:Int)).map (·+1)).length=a.length:=by simp [hdl]
   have e2:=hot_run C hb (x:=x) (out:=flP shP out hi++[⟨⟨dig a (b:Int)++[(x:Int)],(dig a (b:Int)).map (·+1)++[(x:Int)+1]⟩,accR (runAt R ((b * w+x) % l.length)) (pos R ((b * w+x) % l.length)).2 a.length x⟩]) (by simp) (by simp [flP_len]; omega) hpre g1 (t+1) (z - 1) (by omega) fun i hi=>by
    have:=hofs (1+i) (by omega)
    rw [show b * w+(x+1+i)=b * w+x+(1+i) by omega,this]
    simp only; omega
   rw [e2,show x+1+(z - 1)=x+z by omega] at e1
   have hlen2:a.length+1=((dig a (b:Int)).map (·+1)++[((x+z:Nat):Int)]).length:=by simp [hdl]
   rw [hlen2] at e1
   have hfr:wr - z=0∨x+z=0∨(pos R ((b * w+(x+z)) % l.length)).2=0:=by
    by_cases hq:wr - z=0
    ·exact .inl hq
    ·refine .inr (.inr ?_)
     have hzl:z=(runAt R ((b * w+x) % l.length)).len.toNat - (pos R ((b * w+x) % l.length)).2:=by omega
     have h5:=hofs (z - 1) (by omega)
     have h6:=step_mod C.hR hn (b * w+x+(z - 1))
     have hr:runAt R ((b * w+x+(z - 1)) % l.length)=runAt R ((b * w+x) % l.length):=by simp only [runAt,h5]
     rw [hr,h5,if_neg (by simp only; omega)] at h6
     rw [show b * w+(x+z)=b * w+x+(z - 1)+1 by omega]
     exact h6
   obtain ⟨g',hi',t',out',f1,f2,f3⟩:=seg_run C hb k (x+z) (wr - z) ((dig a (b:Int)).map (·+1)++[((x+z:Nat):Int)]) (flP shP out hi++[⟨⟨dig a (b:Int)++[(x:Int)],(dig a (b:Int)).map (·+1)++[(x:Int)+1]⟩,accR (runAt R ((b * w+x) % l.length)) (pos R ((b * w+x) % l.length)).2 a.length x⟩]) g1 (t+1) (by omega) (by omega) hfr (by simp [flP_len]; omega)
   refine ⟨g',hi',t',out',e1.trans f1,?_,f3⟩
   rw [f2,flP_snoc,segs,if_neg h0,hz]
   rw [show b * w+(x+z)=b * w+x+z by omega]
   simp only [List.map_cons,List.append_assoc,List.singleton_append]
   congr 2
   simp only [segP,shP,hdl]
theorem rows_run (C:Ctx l R a w B):∀ (m b:Nat) (hi:List Int) (out:List Qa) (g t:Nat),b+m=B→out.length≤b * w →
  ∃ g' hi' t' out',Qw (allL (a++[(w:Int)]),(l.length:Int),R,a++[(w:Int)],g,hi,t,hi.length,out,((b * w:Nat):Int))=Qw (allL (a++[(w:Int)]),(l.length:Int),R,a++[(w:Int)],g',hi',t',hi'.length,out',((B * w:Nat):Int)) ∧
   flP shP out' hi'=flP shP out hi++rowsP R l.length a w b m
 | 0,b,hi,out,g,t,h1,h2=>by
  have:b=B:=by omega
  subst this
  exact ⟨g,hi,t,out,rfl,by simp [rowsP]⟩
 | m+1,b,hi,out,g,t,h1,h2=>by
  obtain ⟨g1,hi1,t1,out1,e1,e2,e3⟩:=seg_run C (b:=b) (by omega) w 0 w hi out g t (by omega) (Nat.le_refl _) (by omega) (by omega)
  rw [show b * w+w=(b+1) * w by rw [Nat.add_mul,Nat.one_mul]] at e1 e3
  obtain ⟨g2,hi2,t2,out2,f1,f2⟩:=rows_run C m (b+1) hi1 out1 g1 t1 (by omega) e3
  refine ⟨g2,hi2,t2,out2,e1.trans f1,?_⟩
  rw [f2,e2]
  simp only [rowsP,List.range'_succ,List.flatMap_cons,List.append_assoc,Nat.add_zero]
theorem total_L1 (l:List Qb) (hl:l.length≤600):∀ (s p:List Qe) (b:Nat),p.length≤b→b≤l.length→RunsAt l b s→Zh (p++s,(b:Int),(p.length:Int))=some (l.length:Int)
 | [],p,b,hp,hb,h=>by
  rw [Zh]
  simp only [RunsAt] at h
  simp only [Z6,if_false,h]
 | r::s,p,b,hp,hb,h=>by
  obtain ⟨m,⟨e1,e2⟩,⟨h1,h2⟩,_,_,h5⟩:=h
  rw [Zh]
  have hW:W ((b:Int)+r.len)=((b+m:Nat):Int):=by rw [W_in (by omega) (by omega)]; omega
  have hWp:W ((p.length:Int)+1)=((p++[r]).length:Int):=by rw [W_in (by omega) (by omega)]; simp
  simp only [Zy,if_true,QJ,Qg,hW,hWp]
  rw [QB]
  exact total_L1 l hl s (p++[r]) (b+m) (by simp; omega) h2 h5
theorem total_ok (hl:l.length≤600) (hR:RunsAt l 0 R):Yt R=some (l.length:Int):=by
 have e:=total_L1 l hl R [] 0 (Nat.le_refl _) (Nat.zero_le _) hR
 have e':Zh (R,0,0)=some (l.length:Int):=e
 simp only [Yt,e',Qg]
theorem rPieces_row (C:Ctx l R a w B) (hR2:2≤R.length) (hall:ZS (a++[(w:Int)])=some (allL (a++[(w:Int)]))):Q7 (R,a++[(w:Int)])=some (rowsP R l.length a w 0 B):=by
 have hB1:1≤B:=by have:=prodI_pos C.hpos; have:=C.hB; omega
 have hBw1:1≤B * w:=Nat.mul_pos hB1 C.hw
 have hn:=C.hn
 obtain ⟨c1,c2,c3⟩:=checkR_ok C.hc
 obtain ⟨g,hi,t,out,e1,e2⟩:=rows_run C B 0 [] [] 0 0 (by omega) (by simp)
 have hlt:¬ (((B * w:Nat):Int) < ((allL (a++[(w:Int)])).length:Int)):=by rw [C.len]; omega
 conv at e1=>rhs; rw [Qw]
 simp only [hlt,if_false] at e1
 have e1':Qw (allL (a++[(w:Int)]),(l.length:Int),R,a++[(w:Int)],0,[],0,0,[],0)=some (g,hi,t,hi.length,out):=by
  have:(((0 * w:Nat)):Int)=0:=by simp
  rw [this] at e1
  exact e1
 have hS:Sm (a++[(w:Int)]).length:=Sm_of (show (a++[(w:Int)]).length≤1000 by omega)
 have k1:¬ (((B * w:Nat):Int)=0):=by omega
 have k2:¬ ((l.length:Int)=0):=by omega
 have k3:¬ ((R.length:Int)=1):=by omega
 have gT:Zf (hi.length=hi.length)=some ():=guardM_ok rfl
 simp only [Q7,Cells_ok _ hS,cellsR,C.hc,if_true,C.P,Qg,k1,if_false,total_ok C.hl C.hR,k2,k3,Bool.false_eq_true,hall,e1',gT]
 have:flP shP out hi=rowsP R l.length a w 0 B:=by rw [e2]; rfl
 rw [← this]
 rfl
end
def okB:List Int→List Int→List Int→Prop
 | [],[],[]=>True
 | n::s,l::lo,h::hi=>(0≤l∧l < h∧h≤n)∧okB s lo hi
 | _,_,_=>False
def inB:List Int→List Int→List Int→Bool
 | [],[],[]=>true
 | l::lo,h::hi,i::is=>(decide (l≤i) && decide (i < h)) && inB lo hi is
 | _,_,_=>false
def lessL:List Int→List Int→Bool
 | a::a',b::b'=>if a≠b then decide (a < b) else lessL a' b'
 | _,_=>false
theorem okB_len:∀ {s lo hi:List Int},okB s lo hi→lo.length=s.length∧hi.length=s.length
 | [],[],[],_=>⟨rfl,rfl⟩
 | n::s,l::lo,h::hi,H=>by have:=okB_len H.2; simp [this]
 | [],_::_,_,h=>by simp [okB] at h
 | [],[],_::_,h=>by simp [okB] at h
 | _::_,[],_,h=>by simp [okB] at h
 | _::_,_::_,[],h=>by simp [okB] at h
theorem W_l {p:List Int} {x:Int} (h:p.length≤100000):W ((p.length:Int)+1)=((p++[x]).length:Int):=by
 rw [W_in (by omega) (by omega)]; simp
theorem bR_L1:∀ (s lo hi pl ph:List Int),okB s lo hi→(∀ n∈s,n≤65536)→pl.length=ph.length→pl.length+lo.length≤600→ZH (⟨pl++lo,ph++hi⟩,(pl.length:Int))=some (.inr ())
 | [],[],[],pl,ph,H,hs,hp,hl=>by
  rw [ZH]
  simp only [Z6,if_false]
 | n::s,l::lo,h::hi,pl,ph,H,hs,hp,hl=>by
  rw [ZH]
  have i2:idx (ph++h::hi) (pl.length:Int)=some h:=by rw [hp]; exact QJ
  have hn:=hs n (by simp)
  obtain ⟨⟨k1,k2,k3⟩,k4⟩:=H
  have ih:=bR_L1 s lo hi (pl++[l]) (ph++[h]) k4 (fun n hn=>hs n (List.mem_cons_of_mem _ hn)) (by simp [hp]) (by simp at hl ⊢; omega)
  rw [← QB,← QB] at ih
  have g1:¬ l < 0:=by omega
  have g2:¬ l > h:=by omega
  have g3:¬ h > 65536:=by omega
  simp only [Zy,if_true,QJ,Qg,i2,g1,g2,g3,if_false,decide_false,Bool.false_eq_true,W_l (x:=l) (show pl.length≤100000 by omega),ih]
 | [],_::_,_,_,_,h,_,_,_=>by simp [okB] at h
 | [],[],_::_,_,_,h,_,_,_=>by simp [okB] at h
 | _::_,[],_,_,_,h,_,_,_=>by simp [okB] at h
 | _::_,_::_,[],_,_,h,_,_,_=>by simp [okB] at h
theorem bR_ok {s:List Int} {b:Qo} (H:okB s b.lo b.hi) (hs:∀ n∈s,n≤65536) (hl:s.length≤16):YM b=some true:=by
 obtain ⟨lo,hi⟩:=b
 obtain ⟨l1,l2⟩:=okB_len H
 simp only at H l1 l2
 have e:=bR_L1 s lo hi [] [] H hs rfl (by simp; omega)
 simp only [List.nil_append,List.length_nil,Int.natCast_zero] at e
 have g1:¬ ((lo.length:Int)≠(hi.length:Int)):=by simp; omega
 have g2:¬ ((lo.length:Int) > 16):=by omega
 simp only [YM,g1,g2,if_false,decide_false,Qg,Bool.false_eq_true,e]
theorem bE_L1:∀ (s lo hi pl ph:List Int),okB s lo hi→pl.length=ph.length→pl.length+lo.length≤600→ZI (⟨pl++lo,ph++hi⟩,(pl.length:Int))=some (.inr ())
 | [],[],[],pl,ph,H,hp,hl=>by
  rw [ZI]
  simp only [Z6,if_false]
 | n::s,l::lo,h::hi,pl,ph,H,hp,hl=>by
  rw [ZI]
  have i2:idx (ph++h::hi) (pl.length:Int)=some h:=by rw [hp]; exact QJ
  obtain ⟨⟨k1,k2,k3⟩,k4⟩:=H
  have ih:=bE_L1 s lo hi (pl++[l]) (ph++[h]) k4 (by simp [hp]) (by simp at hl ⊢; omega)
  rw [← QB,← QB] at ih
  have g1:¬ l≥h:=by omega
  simp only [Zy,if_true,QJ,Qg,i2,g1,if_false,W_l (x:=l) (show pl.length≤100000 by omega),ih]
 | [],_::_,_,_,_,h,_,_=>by simp [okB] at h
 | [],[],_::_,_,_,h,_,_=>by simp [okB] at h
 | _::_,[],_,_,_,h,_,_=>by simp [okB] at h
 | _::_,_::_,[],_,_,h,_,_=>by simp [okB] at h
theorem bE_ok {s:List Int} {b:Qo} (H:okB s b.lo b.hi) (hl:s.length≤16):Xj b=some false:=by
 obtain ⟨lo,hi⟩:=b
 obtain ⟨l1,l2⟩:=okB_len H
 simp only at H l1 l2
 have e:=bE_L1 s lo hi [] [] H rfl (by simp; omega)
 simp only [List.nil_append,List.length_nil,Int.natCast_zero] at e
 simp only [Xj,e,Qg]
theorem bX_L2 {B:List Qo} {v:Int} {b:Qo} (hb:idx B v=some b):∀ (s lo hi ps ph:List Int),okB s lo hi→b.hi=ph++hi→ps.length=ph.length→ps.length+s.length≤600→ZG (ps++s,B,v,(ps.length:Int))=some (.inr ())
 | [],[],[],ps,ph,H,hh,hp,hl=>by
  rw [ZG]
  simp only [Z6,if_false]
 | n::s,l::lo,h::hi,ps,ph,H,hh,hp,hl=>by
  rw [ZG]
  have i2:idx b.hi (ps.length:Int)=some h:=by rw [hh,hp]; exact QJ
  obtain ⟨⟨k1,k2,k3⟩,k4⟩:=H
  have ih:=bX_L2 hb s lo hi (ps++[n]) (ph++[h]) k4 (by rw [hh,QB]) (by simp [hp]) (by simp at hl ⊢; omega)
  rw [← QB] at ih
  have g1:¬ h > n:=by omega
  simp only [Zy,if_true,QJ,hb,Qg,i2,g1,if_false,W_l (x:=n) (show ps.length≤100000 by omega),ih]
 | [],_::_,_,_,_,h,_,_,_=>by simp [okB] at h
 | [],[],_::_,_,_,h,_,_,_=>by simp [okB] at h
 | _::_,[],_,_,_,h,_,_,_=>by simp [okB] at h
 | _::_,_::_,[],_,_,h,_,_,_=>by simp [okB] at h
theorem has_L1:∀ (i lo hi pi pl ph:List Int),lo.length=i.length→hi.length=i.length→pl.length=pi.length→ph.length=pi.length→pi.length+i.length≤600→Z2 (pi++i,⟨pl++lo,ph++hi⟩,(pi.length:Int))=some (if inB lo hi i=true then .inr () else .inl ())
 | [],[],[],pi,pl,ph,_,_,h1,h2,hl=>by
  rw [Z2]
  simp only [Z6,if_false]; rfl
 | x::i,l::lo,h::hi,pi,pl,ph,e1,e2,h1,h2,hl=>by
  rw [Z2]
  have i1:idx (pl++l::lo) (pi.length:Int)=some l:=by rw [← h1]; exact QJ
  have i2:idx (ph++h::hi) (pi.length:Int)=some h:=by rw [← h2]; exact QJ
  have ih:=has_L1 i lo hi (pi++[x]) (pl++[l]) (ph++[h]) (by simpa using e1) (by simpa using e2) (by simp [h1]) (by simp [h2]) (by simp at hl ⊢; omega)
  rw [← QB,← QB,← QB] at ih
  simp only [Zy,if_true,QJ,Qg,i1,i2,W_l (x:=x) (show pi.length≤100000 by omega),ih,inB]
  by_cases g1:x < l
  ·have:¬ l≤x:=by omega
   simp [g1,this]
  ·have g1':l≤x:=by omega
   by_cases g2:x≥h
   ·have:¬ x < h:=by omega
    simp [g1,g2,this]
   ·have:x < h:=by omega
    simp [g1,g1',g2,this]
 | [],_::_,_,_,_,_,h,_,_,_,_=>by simp at h
 | [],[],_::_,_,_,_,_,h,_,_,_=>by simp at h
 | _::_,[],_,_,_,_,h,_,_,_,_=>by simp at h
 | _::_,_::_,[],_,_,_,_,h,_,_,_=>by simp at h
theorem has_ok {b:Qo} {i:List Int} (h1:b.lo.length=i.length) (h2:b.hi.length=i.length) (hl:i.length≤600):Xt (b,i)=some (inB b.lo b.hi i):=by
 obtain ⟨lo,hi⟩:=b
 simp only at h1 h2 ⊢
 have e:=has_L1 i lo hi [] [] [] h1 h2 rfl rfl (by simp; omega)
 simp only [List.nil_append,List.length_nil,Int.natCast_zero] at e
 have g:¬ ((i.length:Int)≠(lo.length:Int)):=by simp; omega
 simp only [Xt,g,if_false,e,Qg]
 cases inB lo hi i <;> rfl
theorem less_L1:∀ (a b p q:List Int),a.length=b.length→p.length=q.length→p.length+a.length≤600→lessL a b=true→Z7 (p++a,q++b,(p.length:Int))=some (.inl true)
 | [],[],p,q,_,_,_,h=>by simp [lessL] at h
 | x::a,y::b,p,q,e1,e2,hl,h=>by
  rw [Z7]
  have l2:((p.length:Int) < ((q++y::b).length:Int)):=by rw [e2]; exact Zy
  have i2:idx (q++y::b) (p.length:Int)=some y:=by rw [e2]; exact QJ
  simp only [Zy,if_true,l2,decide_true,Qg,QJ,i2]
  by_cases g:x=y
  ·have ih:=less_L1 a b (p++[x]) (q++[y]) (by simpa using e1) (by simp [e2]) (by simp at hl ⊢; omega) (by simpa [lessL,g] using h)
   rw [← QB,← QB] at ih
   simp only [g,ne_eq,not_true,if_false]
   rw [g] at ih
   rw [W_l (x:=y) (show p.length≤100000 by omega)]
   rw [← g] at ih ⊢
   exact ih
  ·have:x < y:=by simpa [lessL,g] using h
   simp [g,this]
 | [],_::_,_,_,h,_,_,_=>by simp at h
 | _::_,[],_,_,h,_,_,_=>by simp at h
theorem less_ok {a b:List Int} (h1:a.length=b.length) (hl:a.length≤600) (h:lessL a b=true):Y3 (a,b)=some true:=by
 have e:=less_L1 a b [] [] h1 rfl (by simp; omega) h
 simp only [List.nil_append,List.length_nil,Int.natCast_zero] at e
 simp only [Y3,e,Qg]
theorem dig_less:∀ {s:List Int} {f g:Int},(∀ n∈s,1≤n)→0≤f→f < g→g < prodI s→lessL (dig s f) (dig s g)=true
 | [],f,g,_,h0,h1,h2=>by rw [prodI_nil] at h2; omega
 | n::s,f,g,hp,h0,h1,h2=>by
  have hP:=prodI_pos (fun n hn=>hp n (List.mem_cons_of_mem _ hn))
  have d1:=Int.emod_add_mul_ediv f (prodI s)
  have d2:=Int.emod_add_mul_ediv g (prodI s)
  have m1:=Int.emod_nonneg f (show prodI s≠0 by omega)
  have m2:=Int.emod_nonneg g (show prodI s≠0 by omega)
  have n1:=Int.emod_lt_of_pos f (show 0 < prodI s by omega)
  have n2:=Int.emod_lt_of_pos g (show 0 < prodI s by omega)
  simp only [dig,lessL]
  have hle:f / prodI s≤g / prodI s:=Int.ediv_le_ediv (by omega) (by omega)
  by_cases e:f / prodI s=g / prodI s
  ·rw [if_neg (by simp [e])]
   rw [e] at d1
   exact dig_less (fun n hn=>hp n (List.mem_cons_of_mem _ hn)) m1 (by omega) n2
  ·rw [if_pos e]
   exact decide_eq_true (by omega)
def hits (p:Qa) (i:List Int) (c:Qb):Prop:=∃ v ok,Xl (p.access,i)=some (v,ok)∧(if ok=false then c=⟨true,0,0⟩ else c=⟨false,p.access.buffer,v⟩)
structure Cov (s:List Int) (cf:Nat→Qb) (p:Qa) (F z:Nat):Prop where
 hz1:1≤z
 box:okB s p.box.lo p.box.hi
 lo:p.box.lo=dig s (F:Int)
 inb:∀ f:Nat,(f:Int) < prodI s→inB p.box.lo p.box.hi (dig s (f:Int))=decide (F≤f∧f < F+z)
 acc:Zp (p.access,(s.length:Int))=some true
 str:p.access.strides.length≤1000
 hit:∀ f:Nat,F≤f→f < F+z→hits p (dig s (f:Int)) (cf f)
def Til (s:List Int) (cf:Nat→Qb) (N:Nat):Nat→List Qa→Prop
 | F,[]=>F=N
 | F,p::P=>∃ z,Cov s cf p F z∧F+z≤N∧Til s cf N (F+z) P
section
variable {s:List Int} {cf:Nat→Qb} {N:Nat}
theorem Til_len:∀ {P:List Qa} {F:Nat},Til s cf N F P→F+P.length≤N
 | [],F,h=>by simp only [Til] at h; simp; omega
 | p::P,F,⟨z,hc,hz,h⟩=>by have:=Til_len h; have:=hc.hz1; simp; omega
theorem Til_mem:∀ {P:List Qa} {F:Nat},Til s cf N F P→∀ p∈P,∃ F z,Cov s cf p F z
 | p::P,F,⟨z,hc,hz,h⟩,q,hq=>by
  rcases List.mem_cons.1 hq with rfl|hq
  ·exact ⟨F,z,hc⟩
  ·exact Til_mem h q hq
theorem Back_L1:∀ (P p:List Qa),p.length+P.length≤100000→ZA ((p++P).map toPc,p,(p.length:Int))=some (p++P)
 | [],p,h=>by
  rw [ZA]
  have:¬ ((p.length:Int) < (((p++[]).map toPc).length:Int)):=by simp
  simp only [this,if_false]; simp only [List.append_nil]
 | x::P,p,h=>by
  rw [ZA]
  have h1:((p.length:Int) < (((p++x::P).map toPc).length:Int)):=by simp; omega
  have h2:idx ((p++x::P).map toPc) (p.length:Int)=some (toPc x):=idx_of (by simp)
  have hW:W ((p.length:Int)+1)=((p++[x]).length:Int):=by simp at h; rw [W_in (by omega) (by omega)]; simp
  have ih:=Back_L1 P (p++[x]) (by simp at h ⊢; omega)
  rw [← QB] at ih
  simp only [h1,if_true,h2,Qg,hW]
  rw [app_le (by simp at h ⊢; omega) (by omega),Qg]
  exact ih
theorem Back_ok {P:List Qa} (h:P.length≤100000):Y0 (P.map toPc)=some P:=by
 have e:=Back_L1 P [] (by simp; omega)
 have e':ZA (P.map toPc,[],0)=some P:=e
 simp only [Y0,e',Qg]
theorem Same_L1:∀ (P p:List Qa),p.length+P.length≤100000→(∀ x∈P,x.box.lo.length≤1000∧x.box.hi.length≤1000∧x.access.strides.length≤1000)→ZB (p++P,p++P,(p.length:Int))=some (.inr ())
 | [],p,h,hs=>by
  rw [ZB]
  simp only [Z6,if_false]
 | x::P,p,h,hs=>by
  rw [ZB]
  have hW:W ((p.length:Int)+1)=((p++[x]).length:Int):=by simp at h; rw [W_in (by omega) (by omega)]; simp
  have ih:=Same_L1 P (p++[x]) (by simp at h ⊢; omega) (fun y hy=>hs y (List.mem_cons_of_mem _ hy))
  rw [← QB] at ih
  obtain ⟨k1,k2,k3⟩:=hs x (by simp)
  simp only [Zy,if_true,QJ,Qg,X6,X7,Equal_ok _ _ (Sm_of k1),Equal_ok _ _ (Sm_of k2),Equal_ok _ _ (Sm_of k3),decide_true,beq_self_eq_true,Bool.true_eq_false,if_false,Bool.not_true,Bool.false_eq_true,hW,ih]
theorem Same_ok {P:List Qa} (h:P.length≤100000) (hs:∀ x∈P,x.box.lo.length≤1000∧x.box.hi.length≤1000∧x.access.strides.length≤1000):Y2 (P,P)=some true:=by
 have e:=Same_L1 P [] (by simp; omega) hs
 have e':ZB (P,P,0)=some (.inr ()):=e
 simp only [Y2,ne_eq,not_true,if_false,e',Qg]
theorem idx_prev {α:Type} {p s:List α} {x:α}:idx ((p++[x])++s) (p.length:Int)=some x:=idx_of (by simp)
theorem Cov_L1 (hp:∀ n∈s,1≤n∧n≤65536) (hl:s.length≤16) (hN:(N:Int)=prodI s) (hN2:N≤65536):∀ (P p:List Qa) (F:Nat),p.length≤F→Til s cf N F P→(p=[]∨∃ q x F',p=q++[x]∧x.box.lo=dig s ((F':Nat):Int)∧F' < F) →
  QZ (p++P,s,p.map (·.box),(p.length:Int))=some (.inr ((p++P).map (·.box)))
 | [],p,F,hF,h,hq=>by
  rw [QZ]
  simp only [Z6,if_false]; simp only [List.append_nil]
 | x::P,p,F,hF,⟨z,hc,hz,h⟩,hq=>by
  rw [QZ]
  have hz1:=hc.hz1
  obtain ⟨l1,l2⟩:=okB_len hc.box
  have hW:W ((p.length:Int)+1)=((p++[x]).length:Int):=by rw [W_in (by omega) (by omega)]; simp
  have ih:=Cov_L1 hp hl hN hN2 P (p++[x]) (F+z) (by simp; omega) h (.inr ⟨p,x,F,rfl,hc.lo,by omega⟩)
  rw [← QB] at ih
  have happ:app 48 (p.map (·.box)) [x.box]=some ((p++[x]).map (·.box)):=by
   rw [app_le (by simp; omega) (by omega)]; simp
  have hprev:(if (p.length:Int) > 0 then idx (p++x::P) (W ((p.length:Int) - 1))>>=fun v613=>Y3 (v613.box.lo,x.box.lo)>>=fun v614=>some (!v614) else some false)=some false:=by
   rcases hq with rfl|⟨q,y,F',rfl,hy,hF'⟩
   ·rfl
   ·have g:(((q++[y]).length:Nat):Int) > 0:=by simp <;> omega
    have hWq:W ((((q++[y]).length:Nat):Int) - 1)=(q.length:Int):=by simp at hF; rw [W_in (by simp <;> omega) (by simp <;> omega)]; simp
    have hls:=less_ok (a:=y.box.lo) (b:=x.box.lo) (by rw [hy,hc.lo,dig_len,dig_len]) (by rw [hy,dig_len]; omega) (by rw [hy,hc.lo]; exact dig_less (fun n hn=>(hp n hn).1) (by omega) (by omega) (by omega))
    simp only [g,if_true,hWq,idx_prev,Qg,hls,Bool.not_true]
  simp only [Zy,if_true,QJ,Qg,bR_ok hc.box (fun n hn=>(hp n hn).2) hl,bE_ok hc.box hl,hc.acc,Bool.true_eq_false,if_false,Bool.false_eq_true,Bool.not_true,hprev,happ,hW,ih]
theorem X_L1 (hp:∀ n∈s,1≤n∧n≤65536) (hl:s.length≤16):∀ (P p:List Qo),p.length+P.length≤100000→(∀ b∈P,okB s b.lo b.hi)→Q5 (p++P,s,(p.length:Int))=some (.inr ())
 | [],p,h,hb=>by
  rw [Q5]
  simp only [Z6,if_false]
 | b::P,p,h,hb=>by
  rw [Q5]
  have hB:=hb b (by simp)
  obtain ⟨l1,l2⟩:=okB_len hB
  have hW:W ((p.length:Int)+1)=((p++[b]).length:Int):=by simp at h; rw [W_in (by omega) (by omega)]; simp
  have ih:=X_L1 hp hl P (p++[b]) (by simp at h ⊢; omega) (fun y hy=>hb y (List.mem_cons_of_mem _ hy))
  rw [← QB] at ih
  have e2:=bX_L2 (B:=p++b::P) (v:=(p.length:Int)) QJ s b.lo b.hi [] [] hB rfl rfl (by simp; omega)
  simp only [List.nil_append,List.length_nil,Int.natCast_zero] at e2
  have hne:((b.lo.length:Int) != (s.length:Int))=false:=by rw [l1]; simp
  simp only [Zy,if_true,QJ,Qg,bR_ok hB (fun n hn=>(hp n hn).2) hl,Bool.true_eq_false,if_false,hne,Bool.false_eq_true,e2,hW,ih]
theorem X_L4 {A:List (List Int)} {k f:Nat} (hA:idx A (k:Int)=some (dig s (f:Int))) (hf:(f:Int) < prodI s) (hl:s.length≤16):∀ (P p:List Qa) (F:Nat) (m:Nat),p.length+P.length≤100000→m≤1→Til s cf N F P→QY ((p++P).map (·.box),A,(k:Int),(m:Int),(p.length:Int))=some (if F≤f∧f < N then (m:Int)+1 else (m:Int))
 | [],p,F,m,h,hm,ht=>by
  rw [QY]
  have:¬ ((p.length:Int) < (((p++([]:List Qa)).map (fun x:Qa=>x.box)).length:Int)):=by simp
  simp only [Til] at ht
  simp only [this,if_false]
  rw [if_neg (by omega)]
 | x::P,p,F,m,h,hm,⟨z,hc,hz,ht⟩=>by
  rw [QY]
  have h1:((p.length:Int) < (((p++x::P).map (·.box)).length:Int)):=by simp; omega
  have h2:idx ((p++x::P).map (·.box)) (p.length:Int)=some x.box:=idx_of (by simp)
  have hW:W ((p.length:Int)+1)=((p++[x]).length:Int):=by simp at h; rw [W_in (by omega) (by omega)]; simp
  obtain ⟨l1,l2⟩:=okB_len hc.box
  have hh:=has_ok (b:=x.box) (i:=dig s (f:Int)) (by rw [l1,dig_len]) (by rw [l2,dig_len]) (by rw [dig_len]; omega)
  rw [hc.inb f hf] at hh
  simp only [h1,if_true,h2,Qg,hA,hh,hW]
  have hz1:=hc.hz1
  by_cases g:F≤f∧f < F+z
  ·have hWm:W ((m:Int)+1)=((m+1:Nat):Int):=W_nat (by omega)
   have hnone:∀ (P p:List Qa) (F:Nat) (m:Int),f < F→p.length+P.length≤100000→Til s cf N F P→QY ((p++P).map (·.box),A,(k:Int),m,(p.length:Int))=some m:=fun P=>by
    induction P with
    | nil =>
     intro p F m _ _ _
     rw [QY]
     have:¬ ((p.length:Int) < (((p++([]:List Qa)).map (fun x:Qa=>x.box)).length:Int)):=by simp
     simp only [this,if_false]
    | cons x P ih =>
     intro p F m hlt h ⟨z,hc,hz,ht⟩
     rw [QY]
     have h1:((p.length:Int) < (((p++x::P).map (·.box)).length:Int)):=by simp; omega
     have h2:idx ((p++x::P).map (·.box)) (p.length:Int)=some x.box:=idx_of (by simp)
     have hW:W ((p.length:Int)+1)=((p++[x]).length:Int):=by simp at h; rw [W_in (by omega) (by omega)]; simp
     obtain ⟨l1,l2⟩:=okB_len hc.box
     have hh:=has_ok (b:=x.box) (i:=dig s (f:Int)) (by rw [l1,dig_len]) (by rw [l2,dig_len]) (by rw [dig_len]; omega)
     rw [hc.inb f hf] at hh
     have hd:decide (F≤f∧f < F+z)=false:=decide_eq_false (by omega)
     have:=ih (p++[x]) (F+z) m (by omega) (by simp at h ⊢; omega) ht
     rw [← QB] at this
     simp only [h1,if_true,h2,Qg,hA,hh,hW,hd,Bool.false_eq_true,if_false]
     exact this
   have:=hnone P (p++[x]) (F+z) ((m+1:Nat):Int) (by omega) (by simp at h ⊢; omega) ht
   rw [← QB] at this
   have hd:decide (F≤f∧f < F+z)=true:=decide_eq_true g
   simp only [hd,if_true,hWm,this]
   rw [if_pos ⟨g.1,by omega⟩]
   congr 1
  ·have:=X_L4 hA hf hl P (p++[x]) (F+z) m (by simp at h ⊢; omega) hm ht
   rw [← QB] at this
   have hd:decide (F≤f∧f < F+z)=false:=decide_eq_false g
   simp only [hd,Bool.false_eq_true,if_false,this]
   congr 1
   by_cases q:F+z≤f∧f < N
   ·rw [if_pos q,if_pos (by omega)]
   ·rw [if_neg q,if_neg (by omega)]
theorem X_L3 (hp:∀ n∈s,1≤n) (hl:s.length≤16) (hN:(N:Int)=prodI s) (hN2:N≤65536) (P:List Qa) (ht:Til s cf N 0 P):∀ (m k:Nat),k+m=N→Q6 (allL s,P.map (·.box),(k:Int))=some (.inr ())
 | 0,k,h=>by
  rw [Q6]
  have hA:=allL_len (s:=s) (fun n hn=>by have:=hp n hn; omega)
  have:¬ ((k:Int) < ((allL s).length:Int)):=by omega
  simp only [this,if_false]
 | m+1,k,h=>by
  rw [Q6]
  have hA:=allL_len (s:=s) (fun n hn=>by have:=hp n hn; omega)
  have h1:((k:Int) < ((allL s).length:Int)):=by omega
  have hlen:=Til_len ht
  have e4:=X_L4 (A:=allL s) (k:=k) (f:=k) (idx_of (allL_get hp k (by omega))) (by omega) hl P [] 0 0 (by simp; omega) (by omega) ht
  rw [if_pos (by omega)] at e4
  simp only [List.nil_append,List.length_nil,Int.natCast_zero] at e4
  have g:¬ ((0:Int)+1≠1):=by decide
  simp only [h1,if_true,e4,Qg,g,if_false,W_nat (show k≤1000000 by omega)]
  exact X_L3 hp hl hN hN2 P ht m (k+1) (by omega)
theorem Covers_ok (hp:∀ n∈s,1≤n∧n≤65536) (hl:s.length≤16) (hN:(N:Int)=prodI s) (hN2:N≤65536) (hall:ZS s=some (allL s)) {P:List Qa} (ht:Til s cf N 0 P):Yj (s,P)=some true:=by
 have hlen:=Til_len ht
 have e1:=Cov_L1 hp hl hN hN2 P [] 0 (Nat.le_refl _) ht (.inl rfl)
 have e1':QZ (P,s,[],0)=some (.inr (P.map (·.box))):=e1
 have e2:=X_L1 hp hl (P.map (·.box)) [] (by simp; omega) (fun b hb=>by
  obtain ⟨p,hp,rfl⟩:=List.mem_map.1 hb
  obtain ⟨F,z,hc⟩:=Til_mem ht p hp
  exact hc.box)
 have e2':Q5 (P.map (·.box),s,0)=some (.inr ()):=e2
 have e3:Q6 (allL s,P.map (·.box),0)=some (.inr ()):=X_L3 (fun n hn=>(hp n hn).1) hl hN hN2 P ht N 0 (by omega)
 simp only [Yj,e1',Qg,Xi,e2',hall,e3]
theorem Or_L1 {f:Nat} (hf:(f:Int) < prodI s) (hl:s.length≤16):∀ (P p:List Qa) (F:Nat),p.length+P.length≤100000→F≤f→f < N→Til s cf N F P→Zz (p++P,dig s (f:Int),(p.length:Int))=some (.inl ((cf f).fill,(cf f).buffer,(cf f).offset))
 | [],p,F,h,hF,hfN,ht=>by simp only [Til] at ht; omega
 | x::P,p,F,h,hF,hfN,⟨z,hc,hz,ht⟩=>by
  rw [Zz]
  have hW:W ((p.length:Int)+1)=((p++[x]).length:Int):=by simp at h; rw [W_in (by omega) (by omega)]; simp
  obtain ⟨l1,l2⟩:=okB_len hc.box
  have hh:=has_ok (b:=x.box) (i:=dig s (f:Int)) (by rw [l1,dig_len]) (by rw [l2,dig_len]) (by rw [dig_len]; omega)
  rw [hc.inb f hf] at hh
  by_cases g:F≤f∧f < F+z
  ·obtain ⟨v,ok,hat,hcf⟩:=hc.hit f g.1 g.2
   simp only [Zy,if_true,QJ,Qg,hh,g,and_self,decide_true,hat]
   cases ok with
   | true=>simp only [Bool.true_eq_false,if_false] at hcf ⊢; rw [hcf]
   | false=>simp only [if_true] at hcf ⊢; rw [hcf]
  ·have hd:decide (F≤f∧f < F+z)=false:=decide_eq_false g
   have ih:=Or_L1 hf hl P (p++[x]) (F+z) (by simp at h ⊢; omega) (by omega) hfN ht
   rw [← QB] at ih
   simp only [Zy,if_true,QJ,Qg,hh,hd,Bool.false_eq_true,if_false,hW,ih]
theorem Origin_ok {f:Nat} (hf:(f:Int) < prodI s) (hl:s.length≤16) (hN:(N:Int)=prodI s) (hN2:N≤65536) {P:List Qa} (ht:Til s cf N 0 P):YX (P,dig s (f:Int))=some (cf f,true):=by
 have hlen:=Til_len ht
 have e:=Or_L1 hf hl P [] 0 (by simp; omega) (Nat.zero_le _) (by omega) ht
 have e':Zz (P,dig s (f:Int),0)=some (.inl ((cf f).fill,(cf f).buffer,(cf f).offset)):=e
 simp only [YX,e',Qg]
end
theorem W_cong {n m:Int} (h:n % 18446744073709551616=m % 18446744073709551616):W n=W m:=by
 simp only [W,IntKind.wrap,IntKind.bits,IntKind.signed]; simp; rw [h]
theorem W_self (n:Int):W n % 18446744073709551616=n % 18446744073709551616:=by
 simp only [W,IntKind.wrap,IntKind.bits,IntKind.signed]; simp; split <;> omega
def dotE:List Int→List Int→Int
 | a::s,b::t=>a * b+dotE s t
 | _,_=>0
theorem dotF_mod:∀ (s t:List Int) (x:Int),dotF s t x % 18446744073709551616=(x+dotE s t) % 18446744073709551616
 | a::s,b::t,x=>by
  rw [dotF,dotE,dotF_mod s t]
  have h1:=W_self (x+W (a * b))
  have h2:=W_self (a * b)
  generalize a * b=y at *
  generalize W y=z at *
  generalize W (x+z)=u at *
  generalize dotE s t=e at *
  omega
 | [],_,x=>by simp [dotF,dotE]
 | _::_,[],x=>by simp [dotF,dotE]
theorem W_dot {b:Int} {s t:List Int} {v:Int} (h:b+dotE s t=v) (h1:-1000000000000≤v) (h2:v≤1000000000000):W (b+dotF s t 0)=v:=by
 have h3:=dotF_mod s t 0
 rw [W_cong (m:=v) (by omega),W_in h1 h2]
theorem dotE_dig:∀ {s:List Int},(∀ n∈s,1≤n)→∀ j:Int,0≤j→j < prodI s→dotE (strd s) (dig s j)=j
 | [],_,j,h0,h1=>by rw [prodI_nil] at h1; simp only [dig,strd,dotE]; omega
 | n::s,hp,j,h0,h1=>by
  have hs:=prodI_pos (fun n hn=>hp n (List.mem_cons_of_mem _ hn))
  have hm:=Int.emod_nonneg j (show prodI s≠0 by omega)
  have hl:=Int.emod_lt_of_pos j (show 0 < prodI s by omega)
  have he:=Int.emod_add_mul_ediv j (prodI s)
  rw [dig,strd,dotE,dotE_dig (fun n hn=>hp n (List.mem_cons_of_mem _ hn)) _ hm hl]
  omega
theorem dotE_scale (k:Int):∀ (s t:List Int),dotE (s.map (· * k)) t=k * dotE s t
 | a::s,b::t=>by
  simp only [List.map_cons,dotE]
  rw [dotE_scale k s t,Int.mul_add,Int.mul_comm a k,Int.mul_assoc]
 | [],_=>by simp [dotE]
 | _::_,[]=>by simp [dotE]
theorem dotE_last:∀ (rk:Nat) (q:List Int) (st x:Int),q.length=rk→dotE (List.replicate rk 0++[st]) (q++[x])=st * x
 | 0,q,st,x,h=>by
  rw [List.eq_nil_of_length_eq_zero h]; simp [dotE]
 | rk+1,[],st,x,h=>by simp at h
 | rk+1,y::q,st,x,h=>by
  rw [List.replicate_succ,List.cons_append,List.cons_append,dotE,dotE_last rk q st x (by simpa using h)]
  omega
theorem strd_mem:∀ {s:List Int},(∀ n∈s,1≤n)→prodI s≤65536→∀ x∈strd s,1≤x∧x≤65536
 | [],_,_,x,hx=>by simp [strd] at hx
 | n::s,hp,hP,x,hx=>by
  have hs:=fun m hm=>hp m (List.mem_cons_of_mem n hm)
  have h1:=prodI_pos hs
  have h2:prodI s≤prodI (n::s):=by
   have:=prod_le (a:=[n]) (b:=s) (fun m hm=>by simp at hm; subst hm; exact hp _ (List.mem_cons_self ..)) hs
   simpa using this
  rw [strd] at hx
  rcases List.mem_cons.1 hx with rfl|hx
  ·omega
  ·exact strd_mem hs (by omega) x hx
theorem near_ok {x:Int} (h:-1000000000000≤x∧x≤1000000000000):ZX (x,1099511627776)=some true:=by
 have hW:W (0 - 1099511627776)=-1099511627776:=by decide
 have g:x≥-1099511627776:=by omega
 have g2:x≤1099511627776:=by omega
 simp only [ZX,hW,g,if_true,g2,decide_true]
theorem bnd_L1 (acc:Qr):∀ (s p:List Int),acc.strides=p++s→acc.strides.length≤1000→(∀ x∈s,-1000000000000≤x∧x≤1000000000000)→Zn (acc,1099511627776,(p.length:Int))=some (.inr ())
 | [],p,h,hl,hb=>by
  rw [Zn]
  have:¬ ((p.length:Int) < (acc.strides.length:Int)):=by rw [h]; simp
  simp only [this,if_false]
 | x::s,p,h,hl,hb=>by
  rw [Zn]
  have h1:((p.length:Int) < (acc.strides.length:Int)):=by rw [h]; exact Zy
  have h2:idx acc.strides (p.length:Int)=some x:=by rw [h]; exact QJ
  have hW:W ((p.length:Int)+1)=((p++[x]).length:Int):=by rw [h] at hl; simp at hl; rw [W_in (by omega) (by omega)]; simp
  have ih:=bnd_L1 acc s (p++[x]) (by rw [h]; simp) hl (fun y hy=>hb y (List.mem_cons_of_mem _ hy))
  simp only [h1,if_true,h2,Qg,near_ok (hb x (by simp)),Bool.true_eq_false,if_false,hW,ih]
structure smA (acc:Qr):Prop where
 b:0≤acc.buffer∧acc.buffer≤1000000000000
 o:-1000000000000≤acc.base∧acc.base≤1000000000000
 t:-1000000000000≤acc.start∧acc.start≤1000000000000
 s:-1000000000000≤acc.step∧acc.step≤1000000000000
 m:-1000000000000≤acc.mod∧acc.mod≤1000000000000
 l:acc.strides.length≤1000
 x:∀ x∈acc.strides,-1000000000000≤x∧x≤1000000000000
theorem bnd_ok {acc:Qr} (h:smA acc):YJ (acc,1099511627776)=some true:=by
 have e:=bnd_L1 acc acc.strides [] rfl h.l h.x
 simp only [List.length_nil,Int.natCast_zero] at e
 have hb:-1000000000000≤acc.buffer∧acc.buffer≤1000000000000:=⟨by have:=h.b; omega,h.b.2⟩
 simp only [YJ,e,Qg,near_ok hb,near_ok h.o,near_ok h.t,near_ok h.s,near_ok h.m,if_true]
theorem right_fill {n:Nat} (hn:n≤16):Zp (⟨1,0,0,[],0,0,0⟩,(n:Int))=some true:=by
 have hb:=bnd_ok (acc:=⟨1,0,0,[],0,0,0⟩) ⟨by simp,by simp,by simp,by simp,by simp,by simp,by simp⟩
 have g1:¬ ((n:Int) < 0):=by omega
 have g2:¬ ((n:Int) > 16):=by omega
 have g3:¬ ((0:Int) < 0):=by omega
 simp only [Zp,g1,g2,if_false,decide_false,Qg,Bool.false_eq_true,hb,Bool.not_true,g3,if_true,beq_self_eq_true]
 rfl
theorem right_2 {n:Nat} (hn:n≤16) {b o:Int} {st:List Int} (hs:smA ⟨2,b,o,st,0,0,0⟩) (hl:st.length=n):Zp (⟨2,b,o,st,0,0,0⟩,(n:Int))=some true:=by
 have hb:=bnd_ok hs
 have g1:¬ ((n:Int) < 0):=by omega
 have g2:¬ ((n:Int) > 16):=by omega
 have g3:¬ (b < 0):=by have:=hs.b.1; simp only at this; omega
 have g4:¬ ((2:Int)=1):=by omega
 have g5:(st.length:Int)=(n:Int):=by omega
 simp only [Zp,g1,g2,if_false,decide_false,Qg,Bool.false_eq_true,hb,Bool.not_true,g3,g4,if_true,g5,beq_self_eq_true]
theorem right_3 {n:Nat} (hn:n≤16) {b o t m:Int} {st:List Int} (hs:smA ⟨3,b,o,st,0,t,m⟩) (hl:st.length=n) (hm:1≤m):Zp (⟨3,b,o,st,0,t,m⟩,(n:Int))=some true:=by
 have hb:=bnd_ok hs
 have g1:¬ ((n:Int) < 0):=by omega
 have g2:¬ ((n:Int) > 16):=by omega
 have g3:¬ (b < 0):=by have:=hs.b.1; simp only at this; omega
 have g4:¬ ((3:Int)=1):=by omega
 have g6:¬ ((3:Int)=2):=by omega
 have g5:(st.length:Int)=(n:Int):=by omega
 have g7:m > 0:=by omega
 simp only [Zp,g1,g2,if_false,decide_false,Qg,Bool.false_eq_true,hb,Bool.not_true,g3,g4,g6,if_true,g5,g7,decide_true]
theorem hits_fill (bx:Qo) (i:List Int) (hi:i.length≤1000):hits ⟨bx,⟨1,0,0,[],0,0,0⟩⟩ i ⟨true,0,0⟩:=by
 refine ⟨0,false,?_,rfl⟩
 simp only [Xl,rDot_ok (a:=[]) (b:=i) (by simp) hi,Qg,if_true]
theorem hits_2 (bx:Qo) {b o v:Int} {st i:List Int} (hs:st.length≤1000) (hi:i.length≤1000) (h:o+dotE st i=v) (h1:-1000000000000≤v) (h2:v≤1000000000000):hits ⟨bx,⟨2,b,o,st,0,0,0⟩⟩ i ⟨false,b,v⟩:=by
 refine ⟨v,true,?_,by simp⟩
 have g4:¬ ((2:Int)=1):=by omega
 simp only [Xl,rDot_ok hs hi,Qg,g4,if_false,if_true,W_dot h h1 h2]
theorem hits_3 (bx:Qo) {b o t v:Int} {n f:Nat} {st i:List Int} (hs:st.length≤1000) (hi:i.length≤1000) (h:dotE st i=(f:Int)) (hf:f≤65536) (hn:1≤n∧n≤600) (ho:0≤o∧o≤100000) (ht:-100000≤t∧t≤100000) (hv:o+((f % n:Nat):Int) * t=v):hits ⟨bx,⟨3,b,o,st,0,t,(n:Int)⟩⟩ i ⟨false,b,v⟩:=by
 refine ⟨v,true,?_,by simp⟩
 have g4:¬ ((3:Int)=1):=by omega
 have g5:¬ ((3:Int)=2):=by omega
 have hd:W (0+dotF st i 0)=(f:Int):=W_dot (b:=0) (by omega) (by omega) (by omega)
 have hr:remM (f:Int) (n:Int)=some ((f % n:Nat):Int):=by rw [remM_ok (by omega) (by omega),Int.natCast_emod]
 have hmn:=Nat.mod_lt f (show n > 0 by omega)
 have g6:¬ (((f % n:Nat):Int) < 0):=by omega
 have hm:=mul_b (a:=((f % n:Nat):Int)) (b:=t) (A:=600) (B:=100000) (by omega) (by omega) ht.1 ht.2
 have w1:W (t * ((f % n:Nat):Int))=((f % n:Nat):Int) * t:=by rw [Int.mul_comm]; exact W_in (by omega) (by omega)
 have w2:W (o+((f % n:Nat):Int) * t)=v:=by rw [hv]; exact W_in (by omega) (by omega)
 simp only [Xl,rDot_ok hs hi,Qg,g4,g5,if_false,hd,hr,g6,w1,w2]
theorem okB_app:∀ {s lo hi:List Int} {n l h:Int},okB s lo hi→0≤l∧l < h∧h≤n→okB (s++[n]) (lo++[l]) (hi++[h])
 | [],[],[],n,l,h,_,H=>⟨H,trivial⟩
 | _::s,_::lo,_::hi,n,l,h,H1,H=>⟨H1.1,okB_app H1.2 H⟩
 | [],_::_,_,_,_,_,h,_=>by simp [okB] at h
 | [],[],_::_,_,_,_,h,_=>by simp [okB] at h
 | _::_,[],_,_,_,_,h,_=>by simp [okB] at h
 | _::_,_::_,[],_,_,_,h,_=>by simp [okB] at h
theorem okB_one:∀ {s i:List Int},vld s i=true→okB s i (i.map (·+1))
 | [],[],_=>trivial
 | n::s,x::i,h=>by
  simp only [vld,Bool.and_eq_true,decide_eq_true_eq] at h
  simp only [List.map_cons,okB]
  exact ⟨by omega,okB_one h.2⟩
 | [],_::_,h=>by cases h
 | _::_,[],h=>by cases h
theorem okB_whole:∀ {s:List Int},(∀ n∈s,1≤n)→okB s (List.replicate s.length 0) s
 | [],_=>trivial
 | n::s,h=>by
  rw [List.length_cons,List.replicate_succ]
  exact ⟨by have:=h n (by simp); omega,okB_whole fun m hm=>h m (List.mem_cons_of_mem _ hm)⟩
theorem inB_whole:∀ {s i:List Int},vld s i=true→inB (List.replicate s.length 0) s i=true
 | [],[],_=>rfl
 | n::s,x::i,h=>by
  simp only [vld,Bool.and_eq_true,decide_eq_true_eq] at h
  rw [List.length_cons,List.replicate_succ,inB,inB_whole h.2]
  simp [h.1]
 | [],_::_,h=>by cases h
 | _::_,[],h=>by cases h
theorem inB_app:∀ {lo hi i:List Int} {l h x:Int},lo.length=i.length→hi.length=i.length→inB (lo++[l]) (hi++[h]) (i++[x])=(inB lo hi i && (decide (l≤x) && decide (x < h)))
 | [],[],[],l,h,x,_,_=>by simp [inB]
 | a::lo,b::hi,c::i,l,h,x,h1,h2=>by
  simp only [List.cons_append,inB]
  rw [inB_app (by simpa using h1) (by simpa using h2)]
  simp only [Bool.and_assoc]
 | [],_::_,[],_,_,_,_,h=>by simp at h
 | [],_,_::_,_,_,_,h,_=>by simp at h
 | _::_,_,[],_,_,_,h,_=>by simp at h
 | _::_,[],_::_,_,_,_,_,h=>by simp at h
theorem inB_one:∀ {i j:List Int},i.length=j.length→(inB i (i.map (·+1)) j=true↔i=j)
 | [],[],_=>by simp [inB]
 | a::i,b::j,h=>by
  have:=inB_one (i:=i) (j:=j) (by simpa using h)
  simp only [List.map_cons,inB,Bool.and_eq_true,decide_eq_true_eq,this,List.cons.injEq]
  constructor
  ·rintro ⟨h1,h2⟩; exact ⟨by omega,h2⟩
  ·rintro ⟨h1,h2⟩; exact ⟨by omega,h2⟩
 | [],_::_,h=>by simp at h
 | _::_,[],h=>by simp at h
theorem less_irr:∀ a:List Int,lessL a a=false
 | []=>rfl
 | x::a=>by rw [lessL,if_neg (by simp),less_irr a]
theorem dig_inj {s:List Int} (hp:∀ n∈s,1≤n) {f g:Int} (hf:0≤f∧f < prodI s) (hg:0≤g∧g < prodI s) (h:dig s f=dig s g):f=g:=by
 rcases Int.lt_trichotomy f g with c|c|c
 ·have:=dig_less hp hf.1 c hg.2
  rw [h,less_irr] at this; cases this
 ·exact c
 ·have:=dig_less hp hg.1 c hf.2
  rw [h,less_irr] at this; cases this
theorem dig_zero:∀ s:List Int,dig s 0=List.replicate s.length 0
 | []=>rfl
 | n::s=>by rw [dig,List.length_cons,List.replicate_succ,Int.zero_ediv,Int.zero_emod,dig_zero s]
section
variable {l:List Qb} {R:List Qe} {a:List Int} {w B:Nat}
def cellF (l:List Qb) (f:Nat):Qb:=ce l (f % l.length)
theorem Ctx.digs (C:Ctx l R a w B) {b x:Nat} (hb:b < B) (hx:x < w):dig (a++[(w:Int)]) ((b * w+x:Nat):Int)=dig a (b:Int)++[(x:Int)]:=by
 have h:=C.bw hb hx
 have h1:=C.ix hb hx
 rw [allL_get C.posw _ (by rw [C.P]; omega)] at h1
 exact Option.some.inj h1
theorem acc_small {r:Qe} (h:bndR r) {o x rk:Nat} (ho:o≤600) (hx:x≤65536) (hrk:rk≤100) (hf:r.fill=false):smA ⟨2,r.buffer,r.offset+o * r.step - r.step * x,List.replicate rk 0++[r.step],0,0,0⟩:=by
 have h1:=mul_b (a:=(o:Int)) (b:=r.step) (A:=600) (B:=100000) (by omega) (by omega) h.s.1 h.s.2
 have h2:=mul_b (a:=r.step) (b:=(x:Int)) (A:=100000) (B:=65536) h.s.1 h.s.2 (by omega) (by omega)
 have h3:=h.o
 have h4:=h.b
 have h5:=h.s
 refine ⟨by simp only; omega,by simp only; omega,by simp,by simp,by simp,by simp; omega,fun y hy=>?_⟩
 simp only [List.mem_append,List.mem_replicate,List.mem_singleton] at hy
 rcases hy with ⟨_,rfl⟩|rfl <;> omega
theorem seg_cov (C:Ctx l R a w B) {b x z:Nat} (hb:b < B) (hz:1≤z) (hx:x+z≤w) (ho:((pos R ((b * w+x) % l.length)).2:Int)+z≤(runAt R ((b * w+x) % l.length)).len) :
  Cov (a++[(w:Int)]) (cellF l) (segP (dig a (b:Int)) (x,z,runAt R ((b * w+x) % l.length),(pos R ((b * w+x) % l.length)).2)) (b * w+x) z:=by
 have hn:=C.hn
 have hl:=C.hl
 have hBw:=C.hBw
 have hbw:=C.bw (b:=b) (x:=x) hb (by omega)
 have hml:=Nat.mod_lt (b * w+x) hn
 have hdl:(dig a (b:Int)).length=a.length:=dig_len _ _
 obtain ⟨a1,a2,a3,a4,a5,a6⟩:=runAt_spec C.hR hml
 obtain ⟨c1,c2,c3⟩:=checkR_ok C.hc
 have hxl:x≤65536:=by have:=Nat.le_add_left x (b * w); omega
 have hal:(a++[(w:Int)]).length=a.length+1:=by simp
 have hsm:((pos R ((b * w+x) % l.length)).2)≤600:=by omega
 refine ⟨hz,?_,?_,fun f hf=>?_,?_,?_,fun f h1 h2=>?_⟩
 ·show okB (a++[(w:Int)]) (dig a (b:Int)++[(x:Int)]) ((dig a (b:Int)).map (·+1)++[((x+z:Nat):Int)])
  exact okB_app (okB_one (vld_dig C.hpos (by omega) (by rw [C.hB]; omega))) ⟨by omega,by omega,by omega⟩
 ·exact (C.digs hb (by omega)).symm
 ·rw [C.P] at hf
  have hw:=C.hw
  obtain ⟨b',x',hfb,hfx,rfl⟩:∃ b' x',b' < B∧x' < w∧f=b' * w+x':=⟨f / w,f % w,by rw [Nat.div_lt_iff_lt_mul (by omega)]; omega,Nat.mod_lt _ (by omega),by rw [Nat.mul_comm]; exact (Nat.div_add_mod f w).symm⟩
  rw [C.digs hfb hfx]
  show inB (dig a (b:Int)++[(x:Int)]) ((dig a (b:Int)).map (·+1)++[((x+z:Nat):Int)]) (dig a (b':Int)++[(x':Int)])=_
  rw [inB_app (by rw [hdl,dig_len]) (by rw [List.length_map,hdl,dig_len])]
  have h1:inB (dig a (b:Int)) ((dig a (b:Int)).map (·+1)) (dig a (b':Int))=decide (b=b'):=by
   rw [Bool.eq_iff_iff,inB_one (by rw [hdl,dig_len]),decide_eq_true_eq]
   constructor
   ·intro h
    have:=dig_inj C.hpos (f:=(b:Int)) (g:=(b':Int)) (by rw [C.hB]; omega) (by rw [C.hB]; omega) h
    omega
   ·rintro h; rw [← h]
  rw [h1,← Bool.decide_and,← Bool.decide_and]
  refine decide_eq_decide.2 ?_
  constructor
  ·rintro ⟨rfl,h2,h3⟩; omega
  ·rintro ⟨h2,h3⟩
   have hb':b=b':=by
    rcases Nat.lt_trichotomy b b' with c|c|c
    ·have:(b+1) * w≤b' * w:=Nat.mul_le_mul_right _ (by omega)
     rw [Nat.add_mul,Nat.one_mul] at this
     omega
    ·exact c
    ·have:(b'+1) * w≤b * w:=Nat.mul_le_mul_right _ (by omega)
     rw [Nat.add_mul,Nat.one_mul] at this
     omega
   subst hb'
   omega
 ·show Zp (accR (runAt R ((b * w+x) % l.length)) (pos R ((b * w+x) % l.length)).2 (dig a (b:Int)).length x,((a++[(w:Int)]).length:Int))=some true
  unfold accR
  split
  ·exact right_fill c1
  ·rename_i hf
   rw [hdl]
   exact right_2 c1 (acc_small a5 hsm hxl (by omega) (by simpa using hf)) (by simp)
 ·show (accR _ _ _ _).strides.length≤1000
  unfold accR
  split
  ·simp
  ·simp [hdl]; omega
 ·obtain ⟨j,rfl⟩:∃ j,f=b * w+x+j:=⟨f - (b * w+x),by omega⟩
  have hj:j < z:=by omega
  have hof:=offs C.hR hn (b * w+x) j (by omega)
  have hr:runAt R ((b * w+x+j) % l.length)=runAt R ((b * w+x) % l.length):=by simp only [runAt,hof]
  obtain ⟨d1,d2,d3,d4,d5,d6⟩:=runAt_spec C.hR (Nat.mod_lt (b * w+x+j) hn)
  have hd:=C.digs (b:=b) (x:=x+j) hb (by omega)
  rw [← Nat.add_assoc] at hd
  unfold cellF
  rw [d4,hr,hof,hd]
  show hits ⟨_,accR (runAt R ((b * w+x) % l.length)) (pos R ((b * w+x) % l.length)).2 (dig a (b:Int)).length x⟩ _ _
  rw [hr,hof] at d3
  simp only at d3
  unfold accR cellRn
  by_cases hf:(runAt R ((b * w+x) % l.length)).fill=true
  ·simp only [hf,if_true]
   exact hits_fill _ _ (by simp [hdl]; omega)
  ·simp only [hf,if_false,Bool.false_eq_true]
   generalize runAt R ((b * w+x) % l.length)=r at *
   generalize (pos R ((b * w+x) % l.length)).2=o at *
   have h1:=mul_b (a:=((o+j:Nat):Int)) (b:=r.step) (A:=600) (B:=100000) (by omega) (by omega) a5.s.1 a5.s.2
   have h3:=a5.o
   refine hits_2 _ (by simp [hdl]; omega) (by simp [hdl]; omega) ?_ (by omega) (by omega)
   rw [hdl,dotE_last a.length _ _ _ hdl]
   have e1:r.step * ((x+j:Nat):Int)=r.step * x+j * r.step:=by
    rw [Int.natCast_add,Int.mul_add,Int.mul_comm r.step (j:Int)]
   have e2:((o+j:Nat):Int) * r.step=o * r.step+j * r.step:=by rw [Int.natCast_add,Int.add_mul]
   rw [e1,e2]
   omega
theorem segs_til (C:Ctx l R a w B) {b:Nat} (hb:b < B):∀ (k x wr:Nat) (Q:List Qa),x+wr=w→wr≤k→Til (a++[(w:Int)]) (cellF l) (B * w) (b * w+w) Q→Til (a++[(w:Int)]) (cellF l) (B * w) (b * w+x) ((segs R l.length k (b * w+x) x wr).map (segP (dig a (b:Int)))++Q)
 | 0,x,wr,Q,h1,h2,h3=>by
  have:x=w:=by omega
  subst this
  simpa [segs] using h3
 | k+1,x,wr,Q,h1,h2,h3=>by
  by_cases h0:wr=0
  ·have:x=w:=by omega
   subst this
   simpa [segs,h0] using h3
  ·rw [segs,if_neg h0]
   have hml:=Nat.mod_lt (b * w+x) C.hn
   obtain ⟨a1,a2,a3,a4,a5,a6⟩:=runAt_spec C.hR hml
   have hbw:=C.bw (b:=b) (x:=w - 1) hb (by have:=C.hw; omega)
   generalize hz:min wr ((runAt R ((b * w+x) % l.length)).len.toNat - (pos R ((b * w+x) % l.length)).2)=z
   have ih:=segs_til C hb k (x+z) (wr - z) Q (by omega) (by omega) h3
   rw [← Nat.add_assoc] at ih
   rw [List.map_cons,List.cons_append]
   exact ⟨z,seg_cov C hb (by omega) (by omega) (by omega),by omega,ih⟩
theorem rows_til (C:Ctx l R a w B):∀ (m b:Nat),b+m=B→Til (a++[(w:Int)]) (cellF l) (B * w) (b * w) (rowsP R l.length a w b m)
 | 0,b,h=>by
  have:b=B:=by omega
  subst this
  simp only [rowsP,List.range'_zero,List.flatMap_nil,Til]
 | m+1,b,h=>by
  have ih:=rows_til C m (b+1) (by omega)
  rw [Nat.add_mul,Nat.one_mul] at ih
  have:=segs_til C (b:=b) (by omega) w 0 w _ (by omega) (Nat.le_refl _) ih
  simp only [rowsP,List.range'_succ,List.flatMap_cons]
  exact this
end
theorem whole_til {s:List Int} {cf:Nat→Qb} {N:Nat} (hp:∀ n∈s,1≤n) (hN:(N:Int)=prodI s) (acc:Qr) (hacc:Zp (acc,(s.length:Int))=some true) (hstr:acc.strides.length≤1000) (hit:∀ f:Nat,f < N→hits ⟨⟨List.replicate s.length 0,s⟩,acc⟩ (dig s (f:Int)) (cf f)) :
  Til s cf N 0 [⟨⟨List.replicate s.length 0,s⟩,acc⟩]:=by
 have h1:=prodI_pos hp
 refine ⟨N,⟨by omega,okB_whole hp,(dig_zero s).symm,fun f hf=>?_,hacc,hstr,fun f _ h2=>hit f (by omega)⟩,by omega,by simp only [Til]; omega⟩
 rw [inB_whole (vld_dig hp (by omega) hf)]
 exact (decide_eq_true (by omega)).symm
theorem Count_ok {s:List Int} (hc:checkR s=0):Yh (List.replicate s.length 0,s)=some (prodI s):=by
 obtain ⟨h1,h2,h3⟩:=checkR_ok hc
 unfold Yh
 have e1:=Count_L1 s [] (by simp; omega)
 simp only [List.nil_append,List.length_nil,Nat.zero_add,Int.natCast_zero] at e1
 by_cases g:s.any (fun n=>decide (n≤0))=true
 ·obtain ⟨n,hn,h0⟩:=List.any_eq_true.1 g
  have:n=0:=by have:=h3 n hn; have:=of_decide_eq_true h0; omega
  subst this
  simp only [e1,g,if_true,Qg,prodI_zero hn]
 ·have hp:∀ n∈s,1≤n:=fun n hn=>by
   rcases Int.lt_or_le 0 n with h|h
   ·omega
   ·exact absurd (List.any_eq_true.2 ⟨n,hn,decide_eq_true h⟩) g
  have e2:=Count_L2 s [] 1 (by simp; omega) hp (by omega) (by omega)
  simp only [List.nil_append,List.length_nil,Nat.zero_add,Int.natCast_zero,Int.one_mul] at e2
  simp only [e1,g,if_false,Qg,e2]
  rfl
theorem whole_ok (s:List Int) (h:s.length≤600):Xs s=some ⟨List.replicate s.length 0,s⟩:=by
 simp only [Xs,make_ok (show s.length≤1000 by omega),Qg,clone_ok (show s.length≤1000 by omega)]
theorem listed_one (x:Qd) {c:Int} (hc:Yh (x.box.lo,x.box.hi)=some c):YW [x]=some (if c > 0 then [x] else []):=by
 unfold YW QU
 dsimp only
 rw [Qt]
 have i0:idx [x] 0=some x:=rfl
 have l0:((0:Int) < (([x]:List Qd).length:Int)):=by simp
 have l1:¬ ((1:Int) < (([x]:List Qd).length:Int)):=by simp
 have w:W (0+1)=1:=by decide
 have s1:∀ y:List Qd,y.length≤1→Qy y=some ():=fun y hy=>by
  unfold Qy
  rw [if_pos hy]
 simp only [l0,if_true,i0,Qg,Y1,Ju,hc]
 by_cases g:c > 0
 ·simp only [g,decide_true,if_true]
  rw [app_le (by simp) (by omega),Qg,w,Qt]
  simp only [l1,if_false,Qg,List.nil_append,s1 [x] (by simp)]
 ·simp only [g,decide_false,Bool.false_eq_true,if_false,w]
  rw [Qt]
  simp only [l1,if_false,Qg,s1 [] (by simp)]
theorem prod_nonneg {s:List Int} (h:∀ n∈s,0≤n):0≤prodI s:=by
 by_cases g:prodI s=0
 ·omega
 ·have:=prodI_pos (prodI_zero_iff h g); omega
def fillR (s:List Int):Qa:=⟨⟨List.replicate s.length 0,s⟩,⟨1,0,0,[],0,0,0⟩⟩
theorem pFilled_ok {s:List Int} (hc:checkR s=0):YV s=some (if prodI s=0 then [] else [toPc (fillR s)]):=by
 obtain ⟨h1,h2,h3⟩:=checkR_ok hc
 have hn:=prod_nonneg fun n hn=>(h3 n hn).1
 unfold YV
 simp only [whole_ok s (by omega),Qg]
 rw [listed_one _ (c:=prodI s) (Count_ok hc),Qg]
 by_cases z:prodI s=0
 ·rw [if_neg (by omega),if_pos z]
 ·rw [if_pos (by omega),if_neg z]; rfl
theorem rwhole_ok (s:List Int) (a:Qr) (h:s.length≤600):YN (s,a)=some [⟨⟨List.replicate s.length 0,s⟩,a⟩]:=by
 simp only [YN,make_ok (show s.length≤1000 by omega),Qg]
theorem rS_L2 (o:List Int) (k:Int) (c:Nat):∀ (s p:List Int) (v:Int),p.length+s.length≤600→(∀ n∈s,1≤n)→1≤v→v * prodI s≤65536→QR (p++s,c,o,k,v,(p.length:Int))=some (v * prodI s)
 | [],p,v,h,hp,h1,h2=>by
  rw [QR]
  simp only [Z6,if_false,Qg,Bool.false_eq_true,prodI_nil,Int.mul_one]
 | x::s,p,v,h,hp,h1,h2=>by
  rw [QR]
  have hx:=hp x (List.mem_cons_self ..)
  have hs:=prodI_pos (fun n hn=>hp n (List.mem_cons_of_mem _ hn))
  rw [prodI_cons,← Int.mul_assoc] at h2
  have b1:1≤v * x:=by have:=Int.mul_le_mul h1 hx (by omega) (by omega); omega
  have b2:(v * x) * 1≤v * x * prodI s:=Int.mul_le_mul_of_nonneg_left hs (by omega)
  have w2:W (v * x)=v * x:=W_ok (by omega) (by omega)
  have e:=rS_L2 o k c s (p++[x]) (v * x) (by simp at h ⊢; omega) (fun n hn=>hp n (List.mem_cons_of_mem _ hn)) b1 h2
  rw [← QB] at e
  simp only [Zy,if_true,show v > 0 by omega,decide_true,Qg,QJ,JW h,w2,e,prodI_cons,Int.mul_assoc]
theorem rS_L1:∀ (s p out:List Int) (c:Nat),p.length+s.length≤600→checkR (p++s)=0→(∀ n∈p++s,1≤n)→out.length≤p.length→∃ g,QM (p++s,c,out,(p.length:Int))=some (g,out++strd s)
 | [],p,out,c,h,hc,hp,ho=>by
  rw [QM]
  simp only [Z6,if_false]
  simp only [strd,List.append_nil]
  exact ⟨_,rfl⟩
 | x::s,p,out,c,h,hc,hp,ho=>by
  rw [QM]
  have hS:Sm (p++x::s).length:=Sm_of (show (p++x::s).length≤1000 by simp at h ⊢; omega)
  have hP:=prodI_pos hp
  have hps:∀ n∈s,1≤n:=fun n hn=>hp n (by simp [hn])
  have hle:prodI s≤65536:=by
   have:=prod_le (a:=p++[x]) (b:=s) (fun n hn=>hp n (by simp at hn ⊢; rcases hn with h|h <;> simp [h])) hps
   rw [← QB] at this
   have:=(checkR_ok hc).2.1; omega
  have hcell:ZW (p++x::s)=some (prodI (p++x::s)):=by rw [Cells_ok _ hS,cellsR,if_pos hc]
  have e2:=rS_L2 out (p.length:Int) c s (p++[x]) 1 (by simp at h ⊢; omega) hps (by omega) (by omega)
  rw [← QB,Int.one_mul] at e2
  obtain ⟨g,e⟩:=rS_L1 s (p++[x]) (out++[prodI s]) (gb c ([prodI s]:List Int).isEmpty) (by simp at h ⊢; omega) (by rw [← QB]; exact hc) (by rw [← QB]; exact hp) (by simp; omega)
  rw [← QB] at e
  simp only [Zy,if_true,hcell,Qg,show ¬ prodI (p++x::s)=0 by omega,if_false,JW h,e2]
  rw [app_le (by simp at h ⊢; omega) (by omega),Qg,e,strd]
  exact ⟨g,by simp⟩
theorem rStr_ok {s:List Int} (hc:checkR s=0) (hp:∀ n∈s,1≤n):∃ g,ZU s=some (g,strd s):=by
 obtain ⟨h1,h2,h3⟩:=checkR_ok hc
 obtain ⟨g,e⟩:=rS_L1 s [] [] 0 (by simp; omega) hc hp (by simp)
 have e':QM (s,0,[],0)=some (g,strd s):=e
 have hS:Sm s.length:=Sm_of (show s.length≤1000 by omega)
 exact ⟨g,by simp only [ZU,Check_ok s hS,Qg,hc,ne_eq,not_true,if_false,e']⟩
theorem scal_L1 (k:Int) (v:List Int):∀ (t p:List Int),(p++t).length=v.length→(p++t).length≤600→(∀ x∈t,-1000000000000≤x * k∧x * k≤1000000000000)→Zl (v,k,p.map (· * k)++t,(p.length:Int))=some ((p++t).map (· * k))
 | [],p,h1,h2,h3=>by
  rw [Zl]
  have:¬ ((p.length:Int) < (v.length:Int)):=by rw [← h1]; simp
  simp only [this,if_false]; simp only [List.append_nil]
 | x::t,p,h1,h2,h3=>by
  rw [Zl]
  have hlt:((p.length:Int) < (v.length:Int)):=by rw [← h1]; simp; omega
  have g1:Zf ((p.map (· * k)++x::t).length=v.length)=some ():=guardM_ok (by rw [← h1]; simp)
  have i1:idx (p.map (· * k)++x::t) (p.length:Int)=some x:=idx_of (by simp)
  have hx:=h3 x (by simp)
  have hW:W (x * k)=x * k:=W_in hx.1 hx.2
  have s1:setM (p.map (· * k)++x::t) (p.length:Int) (x * k)=some ((p++[x]).map (· * k)++t):=by
   rw [setM_ok (by simp)]
   have:=mid_set (p:=p.map (· * k)) (s:=t) (x:=x) (y:=x * k)
   rw [List.length_map] at this
   rw [this]; simp
  have hWp:W ((p.length:Int)+1)=((p++[x]).length:Int):=by simp at h2; rw [W_in (by omega) (by omega)]; simp
  have ih:=scal_L1 k v t (p++[x]) (by simpa using h1) (by simpa using h2) (fun y hy=>h3 y (List.mem_cons_of_mem _ hy))
  rw [← QB] at ih
  simp only [hlt,if_true,g1,Qg,i1,hW,s1,hWp]
  exact ih
theorem strd_sc {s:List Int} (hc:checkR s=0) (hp:∀ n∈s,1≤n) {k:Int} (hk:-100000≤k∧k≤100000):∀ x∈strd s,-1000000000000≤x * k∧x * k≤1000000000000:=fun x hx=>by
 obtain ⟨h1,h2,h3⟩:=checkR_ok hc
 have hm:=strd_mem hp h2 x hx
 have:=mul_b (a:=x) (b:=k) (A:=65536) (B:=100000) (by omega) (by omega) hk.1 hk.2
 omega
theorem scaled_ok {s:List Int} (hc:checkR s=0) (hp:∀ n∈s,1≤n) {k:Int} (hk:-100000≤k∧k≤100000):YA (s,k)=some ((strd s).map (· * k)):=by
 obtain ⟨h1,h2,h3⟩:=checkR_ok hc
 obtain ⟨g,eg⟩:=rStr_ok hc hp
 have hl:=strd_len s
 have e:=scal_L1 k (strd s) (strd s) [] rfl (by simp; omega) (strd_sc hc hp hk)
 have e':Zl (strd s,k,strd s,0)=some ((strd s).map (· * k)):=e
 simp only [YA,eg,Qg,e']
 rw [guardM_ok (by simp)]; rfl
theorem tim_L1 (k:Int):∀ (t p:List Int),(p++t).length≤600→(∀ x∈t,-1000000000000≤x * k∧x * k≤1000000000000)→ZC (p++t,k,p.map (· * k),(p.length:Int))=some ((p++t).map (· * k))
 | [],p,h2,h3=>by
  rw [ZC]
  simp only [Z6,if_false]; simp only [List.append_nil]
 | x::t,p,h2,h3=>by
  rw [ZC]
  have hx:=h3 x (by simp)
  have hW:W (x * k)=x * k:=W_in hx.1 hx.2
  have hWp:W ((p.length:Int)+1)=((p++[x]).length:Int):=by simp at h2; rw [W_in (by omega) (by omega)]; simp
  have ih:=tim_L1 k t (p++[x]) (by simpa using h2) (fun y hy=>h3 y (List.mem_cons_of_mem _ hy))
  rw [← QB,List.map_append] at ih
  simp only [Zy,if_true,QJ,Qg,hW,hWp]
  rw [app_le (by simp at h2 ⊢; omega) (by omega),Qg]
  exact ih
theorem times_ok {s:List Int} (hc:checkR s=0) (hp:∀ n∈s,1≤n) {k:Int} (hk:-100000≤k∧k≤100000):Xw (strd s,k)=some ((strd s).map (· * k)):=by
 obtain ⟨h1,h2,h3⟩:=checkR_ok hc
 have hl:=strd_len s
 have e:=tim_L1 k (strd s) [] (by simp; omega) (strd_sc hc hp hk)
 have e':ZC (strd s,k,[],0)=some ((strd s).map (· * k)):=e
 simp only [Xw,e',Qg]
def acc1 (r:Qe) (s:List Int):Qr:=if r.fill=true then ⟨1,0,0,[],0,0,0⟩ else if r.step=0∨prodI s≤r.len then ⟨2,r.buffer,r.offset,(strd s).map (· * r.step),0,0,0⟩ else ⟨3,r.buffer,r.offset,strd s,0,r.step,r.len⟩
def one1 (r:Qe) (s:List Int):Qa:=⟨⟨List.replicate s.length 0,s⟩,acc1 r s⟩
theorem single_ok {r:Qe} {s:List Int} (hc:checkR s=0) (hp:∀ n∈s,1≤n) (hb:bndR r):Xk (toRn r,s)=some (toA (acc1 r s)):=by
 obtain ⟨h1,h2,h3⟩:=checkR_ok hc
 have hS:Sm s.length:=Sm_of (show s.length≤1000 by omega)
 simp only [Xk,strides_ok hc hp,Qg,toRn,gCells_ok s hS,cellsR,hc,if_true]
 unfold acc1
 by_cases hf:r.fill=true
 ·simp only [hf,if_true]; rfl
 ·by_cases h0:r.step=0
  ·simp only [hf,if_false,h0,if_true,Qg,true_or,times_ok hc hp (k:=0) (by omega)]; rfl
  ·by_cases h1:prodI s≤r.len
   ·simp only [hf,if_false,h0,h1,decide_true,if_true,Qg,or_true,times_ok hc hp hb.s]; rfl
   ·simp only [hf,if_false,h0,h1,decide_false,Qg,Bool.false_eq_true,or_self]; rfl
theorem QbT {r:Qe} {s:List Int} {n:Nat} (hc:checkR s=0) (hp:∀ n∈s,1≤n) (hb:bndR r) (hn:1≤n) (hl:r.len=(n:Int)) (ht:Yt [r]=some (n:Int)):Q7 ([r],s)=some [one1 r s]:=by
 obtain ⟨h1,h2,h3⟩:=checkR_ok hc
 have hS:Sm s.length:=Sm_of (show s.length≤1000 by omega)
 have hP:=prodI_pos hp
 have k1:¬ (prodI s=0):=by omega
 have k2:¬ ((n:Int)=0):=by omega
 have k3:((([r]:List Qe).length:Nat):Int)=1:=rfl
 have i0:idx [r] 0=some r:=rfl
 simp only [Q7,Cells_ok s hS,cellsR,hc,if_true,Qg,k1,if_false,ht,k2,k3,i0]
 unfold one1 acc1
 by_cases hf:r.fill=true
 ·simp only [hf,if_true,rwhole_ok s _ (show s.length≤600 by omega),Qg]
 ·simp only [hf,if_false,scaled_ok hc hp hb.s,scaled_ok hc hp (show -100000≤(1:Int)∧(1:Int)≤100000 by omega),Qg]
  by_cases h0:r.step=0
  ·simp only [h0,ne_eq,not_true,if_false,Qg,Bool.false_eq_true,true_or,if_true,rwhole_ok s _ (show s.length≤600 by omega)]
  ·by_cases h1:prodI s≤r.len
   ·have:¬ (prodI s > (n:Int)):=by omega
    simp only [h0,ne_eq,not_false_eq_true,if_true,this,decide_false,Qg,Bool.false_eq_true,if_false,h1,or_true,rwhole_ok s _ (show s.length≤600 by omega)]
   ·have:prodI s > (n:Int):=by omega
    have hm:(strd s).map (· * (1:Int))=strd s:=by simp
    have h1':¬ (prodI s≤(n:Int)):=by omega
    simp only [h0,ne_eq,not_false_eq_true,if_true,this,decide_true,Qg,h1',or_self,if_false,Bool.false_eq_true,rwhole_ok s _ (show s.length≤600 by omega),hm,hl]
theorem p_one {r:Qe} {s:List Int} (hc:checkR s=0) (hp:∀ n∈s,1≤n) (hb:bndR r):Zi ([toRn r],s)=some [toPc (one1 r s)]:=by
 obtain ⟨h1,h2,h3⟩:=checkR_ok hc
 have hS:Sm s.length:=Sm_of (show s.length≤1000 by omega)
 have hP:=prodI_pos hp
 have k1:¬ (prodI s=0):=by omega
 have k3:((([toRn r]:List Qk).length:Nat):Int)=1:=rfl
 have k4:((1:Int) == 0)=false:=by decide
 have i0:idx [toRn r] 0=some (toRn r):=rfl
 simp only [Zi,gCells_ok s hS,cellsR,hc,if_true,Qg,k1,if_false,k3,k4,i0,Bool.false_eq_true,whole_ok s (show s.length≤600 by omega),single_ok hc hp hb]
 rfl
theorem one_til {l:List Qb} {r:Qe} {s:List Int} {N:Nat} (hl:l.length≤600) (hR:RunsAt l 0 [r]) (hc:checkR s=0) (hp:∀ n∈s,1≤n) (hN:(N:Int)=prodI s):Til s (cellF l) N 0 [one1 r s]:=by
 obtain ⟨h1,h2,h3⟩:=checkR_ok hc
 obtain ⟨m,⟨e1,e2⟩,⟨k1,k2⟩,hce,hb,hend⟩:=hR
 simp only [RunsAt] at hend
 have hm:m=l.length:=by omega
 subst hm
 have hsl:=strd_len s
 have hcr:∀ f:Nat,cellF l f=cellRn r (f % l.length):=fun f=>by
  have:=hce (f % l.length) (Nat.mod_lt _ k1)
  rw [Nat.zero_add] at this
  exact this
 unfold one1
 refine whole_til hp hN _ ?_ ?_ (fun f hf=>?_)
 ·unfold acc1
  split
  ·exact right_fill h1
  ·split
   ·refine right_2 h1 ⟨by have:=hb.b; simp only; omega,by have:=hb.o; simp only; omega,by simp,by simp,by simp,by simp [hsl]; omega,fun x hx=>?_⟩ (by simp [hsl])
    simp only [List.mem_map] at hx
    obtain ⟨y,hy,rfl⟩:=hx
    exact strd_sc hc hp hb.s y hy
   ·refine right_3 h1 ⟨by have:=hb.b; simp only; omega,by have:=hb.o; simp only; omega,by simp,by have:=hb.s; simp only; omega,by simp only; omega,by simp only [hsl]; omega,fun x hx=>?_⟩ hsl (by omega)
    have:=strd_mem hp h2 x hx
    omega
 ·unfold acc1
  split
  ·simp
  ·split
   ·simp [hsl]; omega
   ·simp only [hsl]; omega
 ·rw [hcr]
  have hdl:(dig s (f:Int)).length=s.length:=dig_len _ _
  have hde:=dotE_dig hp (f:Int) (by omega) (by omega)
  have hml:=Nat.mod_lt f k1
  unfold acc1 cellRn
  by_cases hf1:r.fill=true
  ·simp only [hf1,if_true]
   exact hits_fill _ _ (by rw [hdl]; omega)
  ·simp only [hf1,if_false,Bool.false_eq_true]
   have ho:=hb.o
   have hs:=hb.s
   by_cases hk:r.step=0∨prodI s≤r.len
   ·rw [if_pos hk]
    have hv:r.step * (f:Int)=((f % l.length:Nat):Int) * r.step:=by
     rcases hk with h0|h0
     ·rw [h0]; simp
     ·rw [Nat.mod_eq_of_lt (by omega),Int.mul_comm]
    have hmm:=mul_b (a:=((f % l.length:Nat):Int)) (b:=r.step) (A:=600) (B:=100000) (by omega) (by omega) hs.1 hs.2
    refine hits_2 _ (by simp [hsl]; omega) (by rw [hdl]; omega) ?_ (by omega) (by omega)
    rw [dotE_scale,hde,hv]
   ·rw [if_neg hk,e2]
    exact hits_3 _ (by rw [hsl]; omega) (by rw [hdl]; omega) hde (by omega) ⟨k1,hl⟩ ho hs rfl

theorem nil_til {l:List Qb} {R:List Qe} (hl:l.length≤600) (hn:1≤l.length) (hR:RunsAt l 0 R):Til [] (cellF l) 1 0 [piece0 (runAt R 0)]:=by
 obtain ⟨a1,a2,a3,a4,a5,a6⟩:=runAt_spec hR (show 0 < l.length by omega)
 rw [pos_zero hR] at a4
 refine whole_til (s:=[]) (fun n h=>by simp at h) (by simp [prodI_nil]) _ ?_ ?_ (fun f hf=>?_)
 ·split
  ·exact right_fill (n:=0) (by omega)
  ·refine right_2 (n:=0) (by omega) ⟨by have:=a5.b; simp only; omega,by have:=a5.o; simp only; omega,by simp,by simp,by simp,by simp,by simp⟩ rfl
 ·split <;> simp
 ·have:f=0:=by omega
  subst this
  have hc:cellF l 0=cellRn (runAt R 0) 0:=by
   unfold cellF
   rw [Nat.zero_mod]; exact a4
  rw [hc]
  unfold cellRn
  by_cases hf:(runAt R 0).fill=true
  ·simp only [hf,if_true]
   exact hits_fill _ _ (by simp [dig])
  ·simp only [hf,if_false,Bool.false_eq_true]
   have:=a5.o
   exact hits_2 _ (by simp) (by simp [dig]) (by simp [dotE]) (by omega) (by omega)
theorem rPieces_nil {l:List Qb} {R:List Qe} (hl:l.length≤600) (hR:RunsAt l 0 R) (hR2:2≤R.length):Q7 (R,[])=some [piece0 (runAt R 0)]:=by
 have hlen:=runs_len hR
 have hn:1≤l.length:=by omega
 obtain ⟨a1,a2,a3,a4,a5,a6⟩:=runAt_spec hR (show 0 < l.length by omega)
 have hc:checkR []=0:=by decide
 have hS:Sm ([]:List Int).length:=Sm_of (show ([]:List Int).length≤1000 by simp)
 have k1:¬ ((1:Int)=0):=by decide
 have k2:¬ ((l.length:Int)=0):=by omega
 have k3:¬ ((R.length:Int)=1):=by omega
 have hall:ZS []=some [[]]:=All_ok (s:=[]) (by simp) (by decide)
 have hp0:=pos_zero hR
 have hrem:remM 0 (l.length:Int)=some 0:=by rw [remM_ok (Int.le_refl _) (by omega),Int.zero_emod]
 have hf0:=rfind_ok hl hR (show 0 < l.length by omega)
 rw [hp0] at hf0
 have hf0':Yo (R,0)=some 0:=hf0
 rw [hp0] at a1
 have hrun:idx R 0=some (runAt R 0):=idx_of a1
 have hL2:∀ (g t:Nat),Q8 ([],[[]],0,R,(l.length:Int),t,[],0,0,[],[],g,[],0)=some (g,[]):=fun g t=>by
  rw [Q8]
  have:¬ ((0:Int) < (([]:List Int).length:Int)):=by simp
  simp only [this,if_false]
 have hend:∀ (g:Nat) (hi:List Int) (t n:Nat) (out:List Qa),Qw ([[]],(l.length:Int),R,[],g,hi,t,n,out,W (0+1))=some (g,hi,t,n,out):=fun g hi t n out=>by
  rw [Qw]
  have:¬ (W ((0:Int)+1) < (([[]]:List (List Int)).length:Int)):=by decide
  simp only [this,if_false]
 have hlt:((0:Int) < (([[]]:List (List Int)).length:Int)):=by decide
 have hneg:W ((([]:List Int).length:Int) - 1) < 0:=by decide
 have hge:¬ (W ((([]:List Int).length:Int) - 1)≥0):=by decide
 have hix:idx ([[]]:List (List Int)) 0=some []:=rfl
 have g1:Zf (([]:List Int).length=0)=some ():=guardM_ok rfl
 have gT:Zf True=some ():=guardM_ok trivial
 have hmk:makeM 8 (([]:List Int).length:Int) (0:Int)=some []:=make_ok (n:=0) (by omega)
 have hat:(runAt R 0).at0_=0:=by rw [hp0] at a2; simpa using a2
 have w7:W (0 - (runAt R 0).at0_)=0:=by rw [hat]; decide
 have w8:W (0 * (runAt R 0).step)=0:=by rw [Int.zero_mul]; decide
 have w9:W ((runAt R 0).offset+0)=(runAt R 0).offset:=by have:=a5.o; rw [Int.add_zero]; exact W_in (by omega) (by omega)
 have hfp:∀ p:Qa,flap 120 (fun (p_:Qa) (h_:List Int)=>(⟨⟨p_.box.lo,h_⟩,p_.access⟩:Qa)) [] [] p=some [p]:=fun p=>flap_ok (by simp)
 have hL1:∃ g t,Qw ([[]],(l.length:Int),R,[],0,[],0,0,[],0)=some (g,[],t,0,[piece0 (runAt R 0)]):=by
  rw [Qw]
  unfold piece0
  by_cases hf:(runAt R 0).fill=true
  ·simp only [hlt,if_true,hrem,Qg,hf0',hneg,hix,g1,gT,hL2,hrun,hf,reduceCtorEq,if_false,hfp,hend]
   exact ⟨_,_,rfl⟩
  ·have hf':(runAt R 0).fill=false:=by simpa using hf
   simp only [hlt,if_true,hrem,Qg,hf0',hneg,hix,g1,gT,hL2,hrun,hf',reduceCtorEq,if_false,hfp,hend,hmk,hge,w7,w8,w9,Bool.false_eq_true]
   exact ⟨_,_,rfl⟩
 obtain ⟨g,t,hL1⟩:=hL1
 simp only [Q7,Cells_ok _ hS,cellsR,hc,if_true,prodI_nil,Qg,k1,if_false,total_ok hl hR,k2,k3,Bool.false_eq_true,hall,hL1,g1]
 rfl
def cfL (l:List Qb) (f:Nat):Qb:=if l.length=0 then ⟨true,0,0⟩ else cellF l f
theorem loop_ok {s:List Int} {l:List Qb} {N:Nat} (hp:∀ n∈s,1≤n) (hsl:s.length≤16) (hN:(N:Int)=prodI s) (hN2:N≤65536) (hl:l.length≤600) {P:List Qa} (ht:Til s (cfL l) N 0 P):∀ m k:Nat,k+m=N→QE (allL s,l,P,(k:Int))=some (.inr ())
 | 0,k,h=>by
  rw [QE]
  have hA:=allL_len (s:=s) (fun n hn=>by have:=hp n hn; omega)
  have:¬ ((k:Int) < ((allL s).length:Int)):=by omega
  simp only [this,if_false]
 | m+1,k,h=>by
  rw [QE]
  have hA:=allL_len (s:=s) (fun n hn=>by have:=hp n hn; omega)
  have h1:((k:Int) < ((allL s).length:Int)):=by omega
  have hi:=idx_of (allL_get hp k (by omega))
  have ho:=Origin_ok (f:=k) (by omega) hsl hN hN2 ht
  have hex:(if (l.length:Int) > 0 then remM (k:Int) (l.length:Int)>>=fun v626=>idx l v626>>=fun v627=>some (v627.fill,v627.buffer,v627.offset) else some (true,(0:Int),(0:Int)))=some ((cfL l k).fill,(cfL l k).buffer,(cfL l k).offset):=by
   unfold cfL
   by_cases h0:l.length=0
   ·have:¬ ((l.length:Int) > 0):=by omega
    rw [if_neg this,if_pos h0]
   ·have g:(l.length:Int) > 0:=by omega
    have hr:remM (k:Int) (l.length:Int)=some ((k % l.length:Nat):Int):=by rw [remM_ok (by omega) (by omega),Int.natCast_emod]
    have hm:=Nat.mod_lt k (show l.length > 0 by omega)
    simp only [g,if_true,hr,Qg,ce_idx hm,h0,if_false]
    rfl
  have ih:=loop_ok hp hsl hN hN2 hl ht m (k+1) (by omega)
  simp only [h1,if_true,hex,Qg,hi,ho,Bool.true_eq_false,if_false,beq_self_eq_true,Bool.and_self,Bool.not_true,Bool.false_eq_true,W_nat (show k≤1000000 by omega),ih]
theorem pieces_ok {l:List Qb} {s:List Int} {N:Nat} (hl:l.length≤600) (hc:∀ c∈l,cellR c) (hs:checkR s=0) (hp:∀ n∈s,1≤n) (hN:(N:Int)=prodI s) (hall:ZS s=some (allL s)) :
  ∃ P,Zi ((ofR l).map toRn,s)=some (P.map toPc)∧Q7 (ofR l,s)=some P∧Til s (cfL l) N 0 P:=by
 obtain ⟨h1,h2,h3⟩:=checkR_ok hs
 have hS:Sm s.length:=Sm_of (show s.length≤1000 by omega)
 have hP:=prodI_pos hp
 have k1:¬ (prodI s=0):=by omega
 by_cases h0:l.length=0
 ·have he:=List.eq_nil_of_length_eq_zero h0
  subst he
  have hof:ofR []=[]:=rfl
  rw [hof]
  refine ⟨[fillR s],?_,?_,?_⟩
  ·have k2:(((([]:List Qe).map toRn).length:Int) == 0)=true:=rfl
   simp only [Zi,gCells_ok s hS,cellsR,hs,if_true,Qg,k1,if_false,k2,pFilled_ok hs]
   rfl
  ·have e:=total_L1 [] (by simp) [] [] 0 (Nat.le_refl _) (Nat.zero_le _) rfl
   have e':Zh ([],0,0)=some 0:=e
   simp only [Q7,Cells_ok s hS,cellsR,hs,if_true,Qg,k1,if_false,Yt,e',rwhole_ok s _ (show s.length≤600 by omega)]
   rfl
  ·refine whole_til hp hN _ (right_fill h1) (by simp) (fun f hf=>?_)
   exact hits_fill _ _ (by rw [dig_len]; omega)
 ·have hn:1≤l.length:=by omega
  have hR:RunsAt l 0 (ofR l):=ofF_runs hc l.length 0 (Nat.zero_le _) (by omega)
  have hcf:cfL l=cellF l:=funext fun f=>by unfold cfL; rw [if_neg h0]
  rw [hcf]
  generalize hRR:ofR l=R at hR ⊢
  match R,hR with
  | [],hR=>simp only [RunsAt] at hR; omega
  | [r],hR =>
   have ht:=total_ok hl hR
   have hR':=hR
   obtain ⟨m,⟨e1,e2⟩,⟨q1,q2⟩,hce,hb,hend⟩:=hR'
   simp only [RunsAt] at hend
   have hm:m=l.length:=by omega
   subst hm
   exact ⟨[one1 r s],p_one hs hp hb,QbT hs hp hb hn e2 ht,one_til hl hR hs hp hN⟩
  | r::r'::R,hR =>
   have hR2:2≤(r::r'::R).length:=by simp
   rcases List.eq_nil_or_concat s with rfl|⟨a,w,rfl⟩
   ·have:N=1:=by rw [prodI_nil] at hN; omega
    subst this
    exact ⟨[piece0 (runAt (r::r'::R) 0)],pPieces_nil hl hR hR2,rPieces_nil hl hR hR2,nil_til hl hn hR⟩
   ·simp only [List.concat_eq_append] at *
    have hw:=hp w (by simp)
    have hpa:∀ n∈a,1≤n:=fun n hn=>hp n (by simp [hn])
    have hPa:=prodI_pos hpa
    obtain ⟨w',rfl⟩:∃ w':Nat,w=(w':Int):=⟨w.toNat,by omega⟩
    obtain ⟨B,hB⟩:∃ B:Nat,prodI a=(B:Int):=⟨(prodI a).toNat,by omega⟩
    have hPP:prodI (a++[(w':Int)])=((B * w':Nat):Int):=by rw [prodI_append,hB,prodI_cons,prodI_nil,Int.mul_one]; simp
    have hNN:N=B * w':=by omega
    subst hNN
    have hca:checkR a=0:=by
     have hle:prodI a≤65536:=by
      have hb1:B * 1≤B * w':=Nat.mul_le_mul_left _ (by omega)
      omega
     unfold checkR
     have n1:negB a=false:=by
      cases hq:negB a with
      | false=>rfl
      | true =>
       obtain ⟨d,hd,hd2⟩:=List.any_eq_true.1 hq
       have:=hpa d hd; simp at hd2; omega
     have n2:bigB a=false:=by
      cases hq:bigB a with
      | false=>rfl
      | true =>
       obtain ⟨d,hd,hd2⟩:=List.any_eq_true.1 hq
       have:=(h3 d (by simp [hd])).2; simp at hd2; omega
     rw [n1,if_neg (by simp),if_neg]
     rw [n2]
     simp at h1
     rintro (c|c|c)
     ·omega
     ·cases c
     ·omega
    have C:Ctx l (r::r'::R) a w' B:=⟨hl,hR,hn,by omega,hs,hca,hpa,hB,by omega⟩
    refine ⟨_,pPieces_row hl hR hR2 (by omega) hs hca hpa hB (by omega),rPieces_row C hR2 hall,?_⟩
    have:=rows_til C B 0 (by omega)
    rwa [Nat.zero_mul] at this
theorem RunsReshape_ok (l:List Qb) (s:List Int) (hS:Sm s.length):Yx (l,s)=some true:=by
 unfold Yx
 obtain ⟨b,eb,hb⟩:=small_ok2 s 200 (by omega) hS
 obtain ⟨c,ec,hc⟩:=right_ok l 100 (by omega)
 simp only [XS,Qg,Bool.true_eq_false,if_false,ec]
 cases c with
 | false=>rfl
 | true =>
  simp only [Bool.not_true,Bool.false_eq_true,if_false,eb,Qg]
  cases b with
  | false=>rfl
  | true =>
   have hsm:=hb rfl
   obtain ⟨g1,g2,g3,g4⟩:=hb rfl
   obtain ⟨hl0,hcl⟩:=hc rfl
   have hl:l.length≤600:=by omega
   obtain ⟨h1,h2,h3⟩:=checkR_ok g2
   have hall:=small_All hsm (by omega)
   simp only [Bool.not_true,Bool.false_eq_true,if_false,cells_ok l hl,pOf_ok hl hcl,rOf_ok hl hcl,Qg]
   by_cases z:prodI s=0
   ·have hSm:Sm s.length:=hS
    have e1:Zi ((ofR l).map toRn,s)=some []:=by
     simp only [Zi,gCells_ok s hSm,cellsR,g2,z,if_true,Qg,pFilled_ok g2]
    have e2:Q7 (ofR l,s)=some []:=by
     simp only [Q7,Cells_ok s hSm,cellsR,g2,z,if_true,Qg]
    have e3:Y0 []=some []:=Back_ok (P:=[]) (by simp)
    have e4:Y2 ([],[])=some true:=Same_ok (P:=[]) (by simp) (by simp)
    have hA:=allL_len (s:=s) (fun n hn=>(h3 n hn).1)
    have hA0:allL s=[]:=List.eq_nil_of_length_eq_zero (by omega)
    have e5:Yj (s,[])=some true:=by
     have c1:QZ ([],s,[],0)=some (.inr []):=by
      rw [QZ]
      have:¬ ((0:Int) < (([]:List Qa).length:Int)):=by simp
      simp only [this,if_false]
     have c2:Q5 ([],s,0)=some (.inr ()):=by
      rw [Q5]
      have:¬ ((0:Int) < (([]:List Qo).length:Int)):=by simp
      simp only [this,if_false]
     have c3:Q6 ([],[],0)=some (.inr ()):=by
      rw [Q6]
      have:¬ ((0:Int) < (([]:List (List Int)).length:Int)):=by simp
      simp only [this,if_false]
     simp only [Yj,c1,Qg,Xi,c2,hall,hA0,c3]
    have e6:QE ([],l,[],0)=some (.inr ()):=by
     rw [QE]
     have:¬ ((0:Int) < (([]:List (List Int)).length:Int)):=by simp
     simp only [this,if_false]
    simp only [e1,e2,Qg,e3,e4,Bool.true_eq_false,if_false,e5,Bool.not_true,Bool.false_eq_true,hall,hA0,e6]
   ·have hp:=prodI_zero_iff (fun n hn=>(h3 n hn).1) z
    have hP:=prodI_pos hp
    obtain ⟨N,hN⟩:∃ N:Nat,(N:Int)=prodI s:=⟨(prodI s).toNat,by omega⟩
    obtain ⟨P,e1,e2,ht⟩:=pieces_ok hl hcl g2 hp hN hall
    have hlen:=Til_len ht
    have hp2:∀ n∈s,1≤n∧n≤65536:=fun n hn=>⟨hp n hn,(h3 n hn).2⟩
    have e3:=Back_ok (P:=P) (by omega)
    have e4:=Same_ok (P:=P) (by omega) fun x hx=>by
     obtain ⟨F,z,hcv⟩:=Til_mem ht x hx
     obtain ⟨l1,l2⟩:=okB_len hcv.box
     exact ⟨by omega,by omega,hcv.str⟩
    have e5:=Covers_ok hp2 h1 hN (by omega) hall ht
    have e6:=loop_ok hp h1 hN (by omega) hl ht N 0 (by omega)
    have e6':QE (allL s,l,P,0)=some (.inr ()):=e6
    simp only [e1,e2,Qg,e3,e4,Bool.true_eq_false,if_false,e5,Bool.not_true,Bool.false_eq_true,hall,e6']
set_option maxHeartbeats 2000000
theorem ua4:prog.underlying 4=some TypeDesc.bool:=by kernel_rfl
theorem ua3:prog.underlying 3=some (TypeDesc.int IntKind.i64):=by kernel_rfl
theorem ua45 : prog.underlying 45 = some (TypeDesc.struct { toList := [{ name := "Fill", type := 4, offset := 0, embedded := false, tag := "", pkgPath := "", byteOffset := 0 }, { name := "Buffer", type := 3, offset := 1, embedded := false, tag := "", pkgPath := "", byteOffset := 8 }, { name := "Offset", type := 3, offset := 2, embedded := false, tag := "", pkgPath := "", byteOffset := 16 }] }) := by kernel_rfl
theorem ua41:prog.underlying 41=some (TypeDesc.slice 45):=by kernel_rfl
theorem ua22:prog.underlying 22=some (TypeDesc.slice 3):=by kernel_rfl
theorem exists_map {α β:Type} {f:β→α} {p:β→Prop}:∀ {L:List α},(∀ x∈L,∃ y,x=f y∧p y)→∃ l:List β,L=l.map f∧∀ y∈l,p y
 | [],_=>⟨[],rfl,fun y h=>by cases h⟩
 | x::L,h=>by
  obtain ⟨y,rfl,hy⟩:=h x (List.mem_cons_self ..)
  obtain ⟨l,rfl,hl⟩:=exists_map (fun x hx=>h x (List.mem_cons_of_mem _ hx))
  exact ⟨y::l,rfl,fun z hz=>by
   rcases List.mem_cons.1 hz with rfl|hz
   ·exact hy
   ·exact hl z hz⟩
variable {B:Nat} {n:Nat} {cs:List Dat}
def ok4 (B:Nat) (x:Bool):Prop:=True
theorem tc4 (h:TyC prog B n 4 cs):∃ m:Bool,cs=[J2 m]∧ok4 B m:=by
 cases n with
 | zero=>exact h.elim
 | succ n =>
  simp only [TyC,ua4] at h
  obtain ⟨m,rfl⟩:=h
  exact ⟨m,rfl,trivial⟩
theorem tc3 (h:TyC prog B n 3 cs):∃ m:Int,cs=[(Qj m)]∧((-9223372036854775808)≤m∧m≤9223372036854775807):=by
 cases n with
 | zero=>exact h.elim
 | succ n =>
  simp only [TyC,ua3] at h
  obtain ⟨m,rfl,hm⟩:=h
  refine ⟨m,rfl,?_⟩
  simpa [Lit.wf,IntKind.min,IntKind.max,IntKind.signed,IntKind.bits] using hm
structure ok45 (B:Nat) (x:Qb):Prop where
 fill:(ok4 B x.fill)
 buffer:((-9223372036854775808)≤x.buffer∧x.buffer≤9223372036854775807)
 offset:((-9223372036854775808)≤x.offset∧x.offset≤9223372036854775807)
theorem tc45 (h:TyC prog B n 45 cs):∃ x:Qb,cs=[(J2 x.fill),(Qj x.buffer),(Qj x.offset)]∧ok45 B x:=by
 cases n with
 | zero=>exact h.elim
 | succ n =>
  simp only [TyC,ua45,List.foldr] at h
  obtain ⟨_,_,rfl,h0,_,_,rfl,h1,_,_,rfl,h2,rfl⟩:=h
  obtain ⟨m0,rfl,i0⟩:=tc4 h0
  obtain ⟨m1,rfl,i1⟩:=tc3 h1
  obtain ⟨m2,rfl,i2⟩:=tc3 h2
  exact ⟨⟨m0,m1,m2⟩,rfl,i0,i1,i2⟩
def ok41 (B:Nat) (x:(List Qb)):Prop:=x.length≤B∧∀ m∈x,(ok45 B m)
theorem tc41 (h:TyC prog B n 41 cs):∃ l:(List Qb),cs=[.lst ((List.map Qb.toD) l)]∧ok41 B l:=by
 cases n with
 | zero=>exact h.elim
 | succ n =>
  simp only [TyC,ua41] at h
  obtain ⟨L,rfl,hl,hx⟩:=h
  obtain ⟨l,rfl,hm⟩:=exists_map (f:=fun m=>[(J2 m.fill),(Qj m.buffer),(Qj m.offset)]) (p:=fun m=>(ok45 B m)) (fun x hx'=>tc45 (hx x hx'))
  refine ⟨l,?_,by simpa using hl,hm⟩
  have e:(l.map (fun m=>[(J2 m.fill),(Qj m.buffer),(Qj m.offset)])).map (elemD prog 45)=l.map Qb.toD:=by
   rw [List.map_map]; exact List.map_congr_left (fun m _=>by simp only [Function.comp_apply]; simp [elemD,aggB,ua45]; rfl)
  rw [e]
def ok22 (B:Nat) (x:(List Int)):Prop:=x.length≤B∧∀ m∈x,((-9223372036854775808)≤m∧m≤9223372036854775807)
theorem tc22 (h:TyC prog B n 22 cs):∃ l:(List Int),cs=[.lst ((List.map Qj) l)]∧ok22 B l:=by
 cases n with
 | zero=>exact h.elim
 | succ n =>
  simp only [TyC,ua22] at h
  obtain ⟨L,rfl,hl,hx⟩:=h
  obtain ⟨l,rfl,hm⟩:=exists_map (f:=fun m=>[(Qj m)]) (p:=fun m=>((-9223372036854775808)≤m∧m≤9223372036854775807)) (fun x hx'=>tc3 (hx x hx'))
  refine ⟨l,?_,by simpa using hl,hm⟩
  have e:(l.map (fun m=>[(Qj m)])).map (elemD prog 3)=l.map Qj:=by
   rw [List.map_map]; exact List.map_congr_left (fun m _=>by simp only [Function.comp_apply]; simp [elemD,aggB,ua3])
  rw [e]
theorem ty41 {d:Dat} (h:TyA prog B 41 d):∃ m:(List Qb),d=(.lst ((List.map Qb.toD) m))∧(ok41 B m):=by
 obtain ⟨n,cs,h,hd⟩:=h
 obtain ⟨m,rfl,hm⟩:=tc41 h
 exact ⟨m,by rw [hd]; simp [elemD,aggB,ua41],hm⟩
theorem ty22 {d:Dat} (h:TyA prog B 22 d):∃ m:(List Int),d=(.lst ((List.map Qj) m))∧(ok22 B m):=by
 obtain ⟨n,cs,h,hd⟩:=h
 obtain ⟨m,rfl,hm⟩:=tc22 h
 exact ⟨m,by rw [hd]; simp [elemD,aggB,ua22],hm⟩
def argTs:List TypeId:=[4,3,45,41,22]
theorem argTs_closed:closedTs prog argTs=true:=by kernel_rfl
theorem laidOut:laidOutB prog=true:=by kernel_rfl
theorem summ:SummOK prog env:=fun f s h=>by cases h
theorem mixed:prog.follows .mixedOrders=true:=by kernel_rfl
theorem pure_of {f:FuncId} {dss:List Dat} {p:PV} (ho:p.out=true) (h:PC prog env f (dss.map .dat) [] p []):PureCall prog f dss p:=by
 obtain ⟨N,hN⟩:=h
 exact pure_sound summ mixed (hN N (Nat.le_refl _)) ho
end Go.Proofs.Tryz
