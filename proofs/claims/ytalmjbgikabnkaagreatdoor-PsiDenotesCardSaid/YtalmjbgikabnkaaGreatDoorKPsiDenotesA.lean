/-
 Models of functions, their walks, and plain laws.
-/
import Derived.Test.YtalmjbgikabnkaaGreatDoorPmSx
import Derived.Test.YtalmjbgikabnkaaGreatDoorProg
import Derived.Test.YtalmjbgikabnkaaGreatDoorPmStr
namespace Go.Proofs.Tryz
open Go Go.Pm
set_option linter.unusedVariables false
set_option linter.unusedSimpArgs false
set_option maxRecDepth 2000
/-- lists that a machine can hold -/
def Sm (n:Nat):Prop:=n≤9223372036854775807
theorem Sm_of {n m:Nat} (h:n≤m) (hm:m≤9223372036854775807:=by decide):Sm n:=Nat.le_trans h hm
theorem idx_ok {α:Type} {l:List α} {j:Nat} (h:j < l.length):idx l (j:Int)=some l[j]:=by simp [idx,h]
theorem app_ok {α:Type} {b:Nat} {l es:List α} (h:(l.length+es.length) * b≤room):app b l es=some (l++es):=if_pos h
theorem W_ok {n:Int} (h1:-9223372036854775808≤n) (h2:n < 9223372036854775808):W n=n:=by
 simp only [W,IntKind.wrap,IntKind.bits,IntKind.signed]; simp; split <;> omega
theorem W_succ {j:Nat} (h:j < 9223372036854775807):W ((j:Int)+1)=((j+1:Nat):Int):=by rw [W_ok (by omega) (by omega)]; omega
/-! a loop over a list: what lies behind, what lies ahead -/
section
variable {α:Type} {p s:List α} {x:α}
theorem Zm:((p.length:Int) < ((p++x::s).length:Int)):=by simp; omega
theorem Ya:¬ ((p.length:Int) < ((p++([]:List α)).length:Int)):=by simp
theorem QS:idx (p++x::s) (p.length:Int)=some x:=by simp [idx]
theorem QM:p++x::s=(p++[x])++s:=by simp
theorem mid_W (hs:Sm (p++x::s).length):W ((p.length:Int)+1)=((p++[x]).length:Int):=by
 unfold Sm at hs
 rw [W_ok (by omega) (by simp at hs; omega)]; simp
end
theorem Qj {α β:Type} (a:α) (f:α→Option β):(some a>>=f)=f a:=rfl
set_option maxHeartbeats 2000000
def hintOf:FuncId→Hint
 | 6=>{ own:=[((1,3),[(8,70)]),((1,4),[(8,70)])],keep:=[(3,[1,2,3,4])] }
 | 7=>{ own:=[((3,0),[(0,45)])],keep:=[(5,[2,3,4,5,6])] }
 | 10=>{ own:=[],keep:=[(4,[2,3,5])] }
 | 12=>{ own:=[((1,3),[(1,2)]),((1,4),[(1,2)])],keep:=[(4,[1,2,3,4,5])] }
 | 13=>{ own:=[],keep:=[(4,[0,1,5])] }
 | 18=>{ own:=[],keep:=[(4,[1,2,4,6])] }
 | 19=>{ own:=[((1,0),[(0,64)])],keep:=[(3,[1,3,11,12])] }
 | 20=>{ own:=[((1,14),[(7,39)]),((1,15),[(7,39)])],keep:=[(3,[1,2,3,4])] }
 | 21=>{ own:=[((1,2),[(1,2)]),((1,3),[(1,2)]),((6,0),[(1000,3)]),((19,0),[(1000,3)])],keep:=[(4,[1,2,4,5,6,7]),(11,[1,2,4,5,6,7,8,9,10]),(21,[1,2,4,5,6,7,8,9,11])] }
 | 23=>{ own:=[],keep:=[(5,[0,1,5,6])] }
 | 24=>{ own:=[],keep:=[(4,[0,1,5])] }
 | 27=>{ own:=[((1,0),[(0,84)])],keep:=[(4,[1,3,4,5])] }
 | 29=>{ own:=[],keep:=[(4,[0,1,5])] }
 | 30=>{ own:=[],keep:=[(2,[0,3]),(7,[0,3,4])] }
 | 37=>{ own:=[((3,0),[(0,128)])],keep:=[(5,[0,4,5]),(26,[0,4,5,12,13,14])] }
 | 39=>{ own:=[],keep:=[(4,[0,12,13,14])] }
 | 41=>{ own:=[((3,7),[(0,3)])],keep:=[] }
 | 44=>{ own:=[((5,0),[(0,27)]),((12,1),[(0,3)])],keep:=[(3,[0,3,4]),(7,[0,3,4,5,6]),(10,[0,3,4,5,6,7])] }
 | 46=>{ own:=[],keep:=[(4,[0,1,5])] }
 | 49=>{ own:=[],keep:=[(2,[1,2,9,10])] }
 | 50=>{ own:=[((0,5),[(6000,3)])],keep:=[] }
 | 55=>{ own:=[],keep:=[(5,[0,1,5,6])] }
 | 56=>{ own:=[],keep:=[(3,[1,2,5])] }
 | 57=>{ own:=[],keep:=[(3,[1,3,4])] }
 | 58=>{ own:=[],keep:=[(3,[1,3,4])] }
 | 59=>{ own:=[],keep:=[(4,[1,3])] }
 | 62=>{ own:=[],keep:=[(19,[0,6,8,10,11,12])] }
 | 65=>{ own:=[((1,0),[(0,27)])],keep:=[(3,[1,3,4])] }
 | 66=>{ own:=[],keep:=[(2,[0,3])] }
 | 67=>{ own:=[],keep:=[(3,[0,4,5]),(9,[0,4,6]),(17,[0,7,8])] }
 | 69=>{ own:=[],keep:=[(1,[0,1])] }
 | 71=>{ own:=[],keep:=[(5,[0,1,6,7])] }
 | 73=>{ own:=[],keep:=[(2,[0,2,4,5,6])] }
 | 76=>{ own:=[((2,0),[(1000,3)]),((3,0),[(1000,3)])],keep:=[] }
 | 78=>{ own:=[],keep:=[(3,[1,5,13,14,15])] }
 | 79=>{ own:=[((3,0),[(1000,3)]),((18,0),[(0,3)])],keep:=[(8,[2,7,8,9]),(20,[1,2,7,8,10])] }
 | 81=>{ own:=[],keep:=[(2,[0,1,4,6])] }
 | 82=>{ own:=[((8,0),[(0,71)])],keep:=[(3,[0,3,4,6,7])] }
 | 84=>{ own:=[((3,4),[(2,3),(3,3)]),((3,5),[(2,3),(3,3)])],keep:=[(7,[0,4,6,7])] }
 | 85=>{ own:=[((3,4),[(2,3),(3,3)]),((3,5),[(2,3),(3,3)])],keep:=[(7,[0,4,6,7])] }
 | 88=>{ own:=[((1,0),[(0,3)])],keep:=[(3,[0,2,3,4])] }
 | 93=>{ own:=[((1,0),[(0,3)])],keep:=[(3,[0,1,2,7,8])] }
 | 97=>{ own:=[],keep:=[(4,[1,2,5])] }
 | 99=>{ own:=[((10,5),[(0,2)])],keep:=[(9,[0,1,4,7])] }
 | 102=>{ own:=[],keep:=[(8,[0,3,4,18,19])] }
 | 103=>{ own:=[],keep:=[(3,[0,1,5,11,12])] }
 | 109=>{ own:=[],keep:=[(3,[0,1,5,6])] }
 | 110=>{ own:=[((3,0),[(0,3)])],keep:=[(5,[1,5,6])] }
 | 112=>{ own:=[((1,2),[(2,3)]),((1,3),[(2,3)])],keep:=[(3,[0,1,4,5,6]),(7,[0,1,4,5,6,7,8])] }
 | 113=>{ own:=[((3,0),[(0,3)])],keep:=[(6,[1,2,6,7,8]),(13,[1,6,7,9]),(17,[1,6,7,9,10,11])] }
 | 114=>{ own:=[((6,0),[(0,3)])],keep:=[(2,[1,4]),(8,[1,5,6])] }
 | 115=>{ own:=[((1,0),[(0,3)])],keep:=[(3,[0,1,5,6])] }
 | 116=>{ own:=[],keep:=[(5,[1,2,5])] }
 | 117=>{ own:=[],keep:=[(3,[1,3,4])] }
 | 118=>{ own:=[],keep:=[(4,[1,2,5])] }
 | 119=>{ own:=[],keep:=[(3,[0,5,6])] }
 | 120=>{ own:=[],keep:=[(3,[1,3,4])] }
 | 124=>{ own:=[],keep:=[(2,[0,1,7,8])] }
 | 125=>{ own:=[],keep:=[(3,[2,8,13,14,15])] }
 | 126=>{ own:=[],keep:=[(15,[2,6])] }
 | 127=>{ own:=[],keep:=[(2,[0,1,7,8])] }
 | 129=>{ own:=[],keep:=[(5,[1,3,4]),(10,[1,3,5]),(14,[1,3,5,6,7])] }
 | 130=>{ own:=[],keep:=[(6,[1,3,4,5])] }
 | 150=>{ own:=[],keep:=[(2,[1,2,10,11,12])] }
 | 155=>{ own:=[],keep:=[(5,[1,3,23,24,25])] }
 | 156=>{ own:=[((1,0),[(0,3)])],keep:=[(3,[1,7,11,12,13])] }
 | 163=>{ own:=[],keep:=[(8,[7,8])] }
 | 167=>{ own:=[],keep:=[(4,[0,1,12,13])] }
 | 172=>{ own:=[((9,1),[(2000,3)])],keep:=[(3,[0,3,9,10,11]),(11,[6,25,26,27])] }
 | _=>{}
def env:Env where
 summ:=fun _=>none
 hint:=hintOf
 pure:=fun f=>f != 25 && f != 26 && f != 49 && f != 50 && f != 76 && f != 148 && f != 150 && f != 152 && f != 154 && f != 156 && f != 157 && f != 159 && f != 163 && f != 168 && f != 173 && f != 174
 split:=fun f=>f == 76

structure Qo where
 shape:(List Int)
 data:(List Int)
def Qo.toD (x:Qo):Dat:=.agg [(.lst ((List.map Qc) x.shape)),(.lst ((List.map Qc) x.data))]
theorem Qo.fit (x:Qo):Dat.fits 2 x.toD=true:=rfl
structure Qn where
 name:ByteArray
 value:Qo
def Qn.toD (x:Qn):Dat:=.agg [(strD x.name),(.lst ((List.map Qc) x.value.shape)),(.lst ((List.map Qc) x.value.data))]
theorem Qn.fit (x:Qn):Dat.fits 3 x.toD=true:=rfl
structure Qh where
 kind:Int
 fn:Int
 axis:Int
 name:ByteArray
 nums:(List Int)
 kids:(List Qh)
mutual
def Qh.toD:Qh→Dat
 | ⟨kind,fn,axis,name,nums,kids⟩=>.agg [(Qc kind),(Qc fn),(Qc axis),(strD name),(.lst ((List.map Qc) nums)),(.lst (Qh.toDs kids))]
def Qh.toDs:List Qh→List Dat
 | []=>[]
 | k::ks=>Qh.toD k::Qh.toDs ks
end
theorem Qh.toDs_eq:∀ l:List Qh,Qh.toDs l=l.map Qh.toD
 | []=>rfl
 | k::ks=>by rw [Qh.toDs,Qh.toDs_eq ks]; rfl
def Qh.ex (x:Qh):Dat:=.agg [(Qc x.kind),(Qc x.fn),(Qc x.axis),(strD x.name),(.lst ((List.map Qc) x.nums)),(.lst (Qh.toDs x.kids))]
theorem Qh.toD_eq (x:Qh):x.toD=x.ex:=by cases x; rfl
theorem Qh.fit (x:Qh):Dat.fits 6 x.toD=true:=by cases x; rfl
structure Qa where
 kind:Int
 shape:(List Int)
 buffer:Int
 starts:(List Int)
 axis:Int
 amount:Int
 perm:(List Int)
 kids:(List Qa)
mutual
def Qa.toD:Qa→Dat
 | ⟨kind,shape,buffer,starts,axis,amount,perm,kids⟩=>.agg [(Qc kind),(.lst ((List.map Qc) shape)),(Qc buffer),(.lst ((List.map Qc) starts)),(Qc axis),(Qc amount),(.lst ((List.map Qc) perm)),(.lst (Qa.toDs kids))]
def Qa.toDs:List Qa→List Dat
 | []=>[]
 | k::ks=>Qa.toD k::Qa.toDs ks
end
theorem Qa.toDs_eq:∀ l:List Qa,Qa.toDs l=l.map Qa.toD
 | []=>rfl
 | k::ks=>by rw [Qa.toDs,Qa.toDs_eq ks]; rfl
def Qa.ex (x:Qa):Dat:=.agg [(Qc x.kind),(.lst ((List.map Qc) x.shape)),(Qc x.buffer),(.lst ((List.map Qc) x.starts)),(Qc x.axis),(Qc x.amount),(.lst ((List.map Qc) x.perm)),(.lst (Qa.toDs x.kids))]
theorem Qa.toD_eq (x:Qa):x.toD=x.ex:=by cases x; rfl
theorem Qa.fit (x:Qa):Dat.fits 8 x.toD=true:=by cases x; rfl
structure Ql where
 name:ByteArray
 value:Qo
def Ql.toD (x:Ql):Dat:=.agg [(strD x.name),(.lst ((List.map Qc) x.value.shape)),(.lst ((List.map Qc) x.value.data))]
theorem Ql.fit (x:Ql):Dat.fits 3 x.toD=true:=rfl
structure Qv where
 core:Qa
 sources:(List Ql)
def Qv.toD (x:Qv):Dat:=.agg [(Qc x.core.kind),(.lst ((List.map Qc) x.core.shape)),(Qc x.core.buffer),(.lst ((List.map Qc) x.core.starts)),(Qc x.core.axis),(Qc x.core.amount),(.lst ((List.map Qc) x.core.perm)),(.lst (Qa.toDs x.core.kids)),(.lst ((List.map Ql.toD) x.sources))]
theorem Qv.fit (x:Qv):Dat.fits 9 x.toD=true:=rfl
structure QK where
 values:(List Int)
 scalar:Bool
def QK.toD (x:QK):Dat:=.agg [(.lst ((List.map Qc) x.values)),(Qf9 x.scalar)]
theorem QK.fit (x:QK):Dat.fits 2 x.toD=true:=rfl
structure Qu where
 left:(List Int)
 right:(List Int)
 shape:(List Int)
 starts:(List Int)
 axis:Int
 amount:Int
 perm:(List Int)
def Qu.toD (x:Qu):Dat:=.agg [(.lst ((List.map Qc) x.left)),(.lst ((List.map Qc) x.right)),(.lst ((List.map Qc) x.shape)),(.lst ((List.map Qc) x.starts)),(Qc x.axis),(Qc x.amount),(.lst ((List.map Qc) x.perm))]
theorem Qu.fit (x:Qu):Dat.fits 7 x.toD=true:=rfl
structure Qi where
 kind:Int
 shape:(List Int)
 buffer:Int
 starts:(List Int)
 axis:Int
 amount:Int
 perm:(List Int)
 kids:(List Qi)
mutual
def Qi.toD:Qi→Dat
 | ⟨kind,shape,buffer,starts,axis,amount,perm,kids⟩=>.agg [(Qc kind),(.lst ((List.map Qc) shape)),(Qc buffer),(.lst ((List.map Qc) starts)),(Qc axis),(Qc amount),(.lst ((List.map Qc) perm)),(.lst (Qi.toDs kids))]
def Qi.toDs:List Qi→List Dat
 | []=>[]
 | k::ks=>Qi.toD k::Qi.toDs ks
end
theorem Qi.toDs_eq:∀ l:List Qi,Qi.toDs l=l.map Qi.toD
 | []=>rfl
 | k::ks=>by rw [Qi.toDs,Qi.toDs_eq ks]; rfl
def Qi.ex (x:Qi):Dat:=.agg [(Qc x.kind),(.lst ((List.map Qc) x.shape)),(Qc x.buffer),(.lst ((List.map Qc) x.starts)),(Qc x.axis),(Qc x.amount),(.lst ((List.map Qc) x.perm)),(.lst (Qi.toDs x.kids))]
theorem Qi.toD_eq (x:Qi):x.toD=x.ex:=by cases x; rfl
theorem Qi.fit (x:Qi):Dat.fits 8 x.toD=true:=by cases x; rfl
structure QB where
 name:ByteArray
 value:Qo
def QB.toD (x:QB):Dat:=.agg [(strD x.name),(.lst ((List.map Qc) x.value.shape)),(.lst ((List.map Qc) x.value.data))]
theorem QB.fit (x:QB):Dat.fits 3 x.toD=true:=rfl
structure QR where
 core:Qi
 sources:(List QB)
def QR.toD (x:QR):Dat:=.agg [(Qc x.core.kind),(.lst ((List.map Qc) x.core.shape)),(Qc x.core.buffer),(.lst ((List.map Qc) x.core.starts)),(Qc x.core.axis),(Qc x.core.amount),(.lst ((List.map Qc) x.core.perm)),(.lst (Qi.toDs x.core.kids)),(.lst ((List.map QB.toD) x.sources))]
theorem QR.fit (x:QR):Dat.fits 9 x.toD=true:=rfl
structure Z4 where
 fill:Bool
 buffer:Int
 offset:Int
def Z4.toD (x:Z4):Dat:=.agg [(Qf9 x.fill),(Qc x.buffer),(Qc x.offset)]
theorem Z4.fit (x:Z4):Dat.fits 3 x.toD=true:=rfl
structure Q4 where
 strides:(List Int)
 dims:(List Int)
def Q4.toD (x:Q4):Dat:=.agg [(.lst ((List.map Qc) x.strides)),(.lst ((List.map Qc) x.dims))]
theorem Q4.fit (x:Q4):Dat.fits 2 x.toD=true:=rfl
structure QH where
 fill:Bool
 buffer:Int
 offset:Int
def QH.toD (x:QH):Dat:=.agg [(Qf9 x.fill),(Qc x.buffer),(Qc x.offset)]
theorem QH.fit (x:QH):Dat.fits 3 x.toD=true:=rfl
def Qcc (x:(Qo × Int)):Option Bool :=
 match x with
 | (p0,p1) =>
 if (p0.shape.length:Int)≤100 then
  some (decide ((p0.data.length:Int)≤p1))
 else
 some false
def QeV:(Qo × Int)→Bool→Prop:=fun x r=>match x,r with
 | (p0,p1),r0=>∀ H,PC prog env 52 ([(Qo.toD p0),(Qc p1)].map .dat) H (Qp r0) H
theorem QfN:∀ x r,Qcc x=some r→QeV x r:=by
 intro x r0 hm
 unfold Qcc at hm
 unfold QeV
 obtain ⟨p0,p1⟩:=x
 intro H
 refine PC_sx (ds:=[(Qo.toD p0),(Qc p1)]) (fn:=f52) rfl ?_
 refine Qe (R_G (Qb 2 (Qg (Qe (R_G (Qb 2 ?_))))))
 refine QG Qc p0.shape (es:=(List.map Qc) p0.shape) rfl ?_
 refine Qb 2 ?_
 refine Qy 9 hm (rfl) (fun hm=>?_) (fun hm=>?_)
 ·refine Qb 2 ?_
  refine QG Qc p0.data (es:=(List.map Qc) p0.data) rfl ?_
  refine Qb 4 (Qg (Qt ?_))
  obtain rfl:=Qq hm
  exact ⟨trivial,Qk⟩
 refine Qb 7 (Qg (Qt ?_))
 obtain rfl:=Qq hm
 exact ⟨trivial,Qk⟩
def YP (x:((List Qn) × Int × Int)):Option (Unit ⊕ Unit) :=
 match x with
 | (p0,p1,v201) =>
 if v201 < (p0.length:Int) then
  (idx p0 v201>>=fun v602 =>
  Qcc (v602.value,p1)>>=fun (v603:Bool) =>
  if v603=false then
   some true
  else
  idx p0 v201>>=fun v604 =>
  some (decide ((v604.name.size:Int) > 100))
  )>>=fun (v601:Bool) =>
  if v601=true then
   some (Sum.inl ())
  else
  YP (p0,p1,(W (v201+1)))
 else
 some (Sum.inr ())
 partial_fixpoint
def QdF:((List Qn) × Int × Int)→(Unit ⊕ Unit)→Prop:=fun x r=>match x with
 | (p0,p1,v201)=>∀ st,prune 0 ((Qw (QD [1,1,0,1,0,0] (QE f29))).bind (env.hint 29).keepAt) st=⟨kp 32 [(0,(.dat (.lst ((List.map Qn.toD) p0)))),(1,(Qd p1)),(5,(Qd v201))],[]⟩ →
  RL prog env (env.hint 29) true (QD [1,1,0,1,0,0] (QE f29)) 0 st (fun e s=>match r with|.inl _=>e=.ret∧∃ d,s=⟨sl d 32 [(4,(Qp false))],[]⟩|.inr (_)=>e=.exit 0∧∃ d,s=⟨sl d 32 [],[]⟩)
theorem QaW:∀ x r,YP x=some r→QdF x r:=by
 refine YP.partial_correctness _ (fun YP QaW x r hm=>?_)
 unfold QdF
 obtain ⟨p0,p1,v201⟩:=x
 intro st hst
 refine RL_at hst ?_
 clear hst
 refine Qe (Qe (R_G (Qb 2 ?_)))
 refine QG Qn.toD p0 (es:=(List.map Qn.toD) p0) rfl ?_
 refine Qb 1 (Qg ?_)
 refine Qx hm (rfl) (fun hm=>?_) (fun hm=>?_)
 ·refine Qs (Qe (Qz (Qe ?_)))
  obtain ⟨v601,hs,hm⟩:=Qf hm
  refine Q7 (fun d=>⟨sl d 32 [(0,(.dat (.lst ((List.map Qn.toD) p0)))),(1,(Qd p1)),(5,(Qd v201)),(31,(Qp v601))],[]⟩) ?_ (fun d=>?_)
  ·replace hm:=hs
   clear hs
   refine R_G (Qb 2 ?_)
   refine QF 3 Qn.toD hm rfl (fun _=>rfl) (fun v602 hm=>?_)
   refine Qb 3 ?_
   obtain ⟨v603,hx,hm⟩:=Qf hm
   have hq:=QfN _ _ hx []
   refine Qr hq ?_
   refine Qb 2 ?_
   refine Qy 23 hm (ZL _) (fun hm=>?_) (fun hm=>?_)
   ·refine Qb 8 (Qg ?_)
    obtain rfl:=Qq hm
    exact Qm
   refine Qb 2 ?_
   refine QF 3 Qn.toD hm rfl (fun _=>rfl) (fun v604 hm=>?_)
   refine Qb 2 ?_
   refine QL rfl (fun _=>Qeo (b:=v604.name) (by kernel_rfl) rfl (by kernel_rfl)) ?_
   refine Qb 2 (Qg ?_)
   obtain rfl:=Qq hm
   exact Qm
  clear hs
  refine Qx hm (QC _) (fun hm=>?_) (fun hm=>?_)
  ·refine Qe (R_G (Qb 1 (Qg (Qt ?_))))
   obtain rfl:=Qq hm
   exact ⟨rfl,Qm⟩
  refine Qs (R_G (Qb 3 (Qg ?_)))
  exact QaW _ _ hm _ (by kernel_rfl)
 refine QP ?_
 obtain rfl:=Qq hm
 exact ⟨rfl,Qm⟩
def Qck (x:((List Qn) × Int)):Option Bool :=
 match x with
 | (p0,p1) =>
 if (p0.length:Int) > 12 then
  some false
 else
 (
 YP (p0,p1,0)>>=fun (out:Unit ⊕ Unit) =>
 match out with
 | .inl _ =>
  some false
 | .inr (_) =>
  some true
 )
def QeX:((List Qn) × Int)→Bool→Prop:=fun x r=>match x,r with
 | (p0,p1),r0=>∀ H,PC prog env 29 ([(.lst ((List.map Qn.toD) p0)),(Qc p1)].map .dat) H (Qp r0) H
theorem QfX:∀ x r,Qck x=some r→QeX x r:=by
 intro x r0 hm
 unfold Qck at hm
 unfold QeX
 obtain ⟨p0,p1⟩:=x
 intro H
 refine PC_sx (ds:=[(.lst ((List.map Qn.toD) p0)),(Qc p1)]) (fn:=f29) rfl ?_
 refine Qe (R_G (Qb 1 (Qg (Qe (Qe (R_G (Qb 1 ?_)))))))
 refine QG Qn.toD p0 (es:=(List.map Qn.toD) p0) rfl ?_
 refine Qb 1 (Qg ?_)
 refine Qx hm (rfl) (fun hm=>?_) (fun hm=>?_)
 ·refine Qe (R_G (Qb 1 (Qg (Qt ?_))))
  obtain rfl:=Qq hm
  exact ⟨trivial,Qk⟩
 refine Qs (Qe (Qe (R_G (Qb 1 (Qg (Qz ?_))))))
 obtain ⟨out,hs,hm⟩:=Qf hm
 refine QT ?_
 rcases out with _|_
 ·refine RL_use (QaW _ _ hs) (by kernel_rfl) ?_
  clear hs
  intro e s hp
  obtain ⟨rfl,d,rfl⟩:=hp
  obtain rfl:=Qq hm
  exact ⟨trivial,Qk⟩
 ·refine RL_use (QaW _ _ hs) (by kernel_rfl) ?_
  clear hs
  intro e s hp
  obtain ⟨rfl,d,rfl⟩:=hp
  refine Qe (R_G (Qb 1 (Qg (Qt ?_))))
  obtain rfl:=Qq hm
  exact ⟨trivial,Qk⟩
def XZ (x:Int):Option Bool :=
 match x with
 | p0 =>
 (if p0≥65 then
  some (decide (p0≤90))
 else
 some false
 )>>=fun (v1:Bool) =>
 (if v1=true then
  some true
 else
 if p0≥97 then
  some (decide (p0≤122))
 else
 some false
 )>>=fun (v2:Bool) =>
 if v2=true then
  some true
 else
 some (p0 == 95)
def Qdl:Int→Bool→Prop:=fun x r=>match x,r with
 | p0,r0=>∀ H,PC prog env 68 ([(numD .u8 p0)].map .dat) H (Qp r0) H
theorem Qdp:∀ x r,XZ x=some r→Qdl x r:=by
 intro p0 r0 hm
 unfold XZ at hm
 unfold Qdl
 intro H
 refine PC_sx (ds:=[(numD .u8 p0)]) (fn:=f68) rfl ?_
 refine Qe (R_G (Qb 1 (Qg (Qe ?_))))
 refine Qdd ?_
 refine Qb 3 ?_
 obtain ⟨v1,hs,hm⟩:=Qf hm
 refine ZS (j:=6) (fun d=>⟨sl d 21 [(0,(.dat (numD .u8 p0))),(2,(Qp false)),(8,(Qp v1))],[]⟩) (fun d=>?_) (fun hJ=>?_)
 ·clear hs
  refine Qb 1 ?_
  obtain ⟨v2,hs,hm⟩:=Qf hm
  refine ZS (j:=14) (fun d=>⟨sl d 21 [(0,(.dat (numD .u8 p0))),(2,(Qp false)),(16,(Qp v2))],[]⟩) (fun d=>?_) (fun hJ=>?_)
  ·clear hs
   refine Qb 1 ?_
   refine Qy 17 hm (QC _) (fun hm=>?_) (fun hm=>?_)
   ·refine Qb 4 ?_
    refine Qg ⟨by kernel_rfl,?_⟩
    refine Qt ?_
    obtain rfl:=Qq hm
    exact ⟨trivial,Qk⟩
   refine Qb 4 ?_
   refine Qg ⟨by kernel_rfl,?_⟩
   refine Qt ?_
   obtain rfl:=Qq hm
   exact ⟨trivial,Qk⟩
  clear hm
  refine Qy 9 hs (QC _) (fun hm=>?_) (fun hm=>?_)
  ·refine Qb 7 ?_
   obtain rfl:=Qq hm
   exact hJ _ _
  refine Qb 3 ?_
  refine Qy 12 hm (rfl) (fun hm=>?_) (fun hm=>?_)
  ·refine Qb 4 ?_
   obtain rfl:=Qq hm
   exact hJ _ _
  refine Qb 4 ?_
  obtain rfl:=Qq hm
  exact hJ _ _
 clear hm
 refine Qy 5 hs (rfl) (fun hm=>?_) (fun hm=>?_)
 ·refine Qb 3 ?_
  obtain rfl:=Qq hm
  exact hJ _ _
 refine Qb 3 ?_
 obtain rfl:=Qq hm
 exact hJ _ _
def J4 (x:Int):Option Bool :=
 match x with
 | p0 =>
 if p0≥48 then
  some (decide (p0≤57))
 else
 some false
def QdO:Int→Bool→Prop:=fun x r=>match x,r with
 | p0,r0=>∀ H,PC prog env 98 ([(numD .u8 p0)].map .dat) H (Qp r0) H
theorem Qfx:∀ x r,J4 x=some r→QdO x r:=by
 intro p0 r0 hm
 unfold J4 at hm
 unfold QdO
 intro H
 refine PC_sx (ds:=[(numD .u8 p0)]) (fn:=f98) rfl ?_
 refine Qe (R_G (Qb 1 (Qg (Qe (R_G (Qb 3 ?_))))))
 refine Qy 5 hm (rfl) (fun hm=>?_) (fun hm=>?_)
 ·refine Qb 4 (Qg (Qt ?_))
  obtain rfl:=Qq hm
  exact ⟨trivial,Qk⟩
 refine Qb 4 (Qg (Qt ?_))
 obtain rfl:=Qq hm
 exact ⟨trivial,Qk⟩
def YQ (x:(ByteArray × Int)):Option (Int) :=
 match x with
 | (p0,v201) =>
 (if v201 < (p0.size:Int) then
  sidx p0 v201>>=fun v603 =>
  XZ v603>>=fun (v604:Bool) =>
  if v604=true then
   some true
  else
  sidx p0 v201>>=fun v605 =>
  J4 v605>>=fun (v606:Bool) =>
  some v606
 else
 some false
 )>>=fun (v602:Bool) =>
 if v602=true then
  YQ (p0,(W (v201+1)))
 else
 some v201
 partial_fixpoint
def Qdq:(ByteArray × Int)→Int→Prop:=fun x r=>match x with
 | (p0,v201)=>∀ st,prune 0 ((Qw (QD [1,0,0,0] (QE f69))).bind (env.hint 69).keepAt) st=⟨kp 24 [(0,(.dat (strD p0))),(1,(Qd v201))],[]⟩ →
  RL prog env (env.hint 69) true (QD [1,0,0,0] (QE f69)) 0 st (fun e s=>match r with|v601=>e=.exit 0∧∃ d,s=⟨sl d 24 [(1,(Qd v601))],[]⟩)
theorem QbW:∀ x r,YQ x=some r→Qdq x r:=by
 refine YQ.partial_correctness _ (fun YQ QbW x r hm=>?_)
 unfold Qdq
 obtain ⟨p0,v201⟩:=x
 intro st hst
 refine RL_at hst ?_
 clear hst
 refine Qe (Qe ?_)
 obtain ⟨v602,hs,hm⟩:=Qf hm
 refine Q7 (fun d=>⟨sl d 24 [(0,(.dat (strD p0))),(1,(Qd v201)),(20,(Qp v602))],[]⟩) ?_ (fun d=>?_)
 ·replace hm:=hs
  clear hs
  refine R_G (Qb 2 ?_)
  refine QL rfl (fun _=>Qeo (b:=p0) (by kernel_rfl) rfl (by kernel_rfl)) ?_
  refine Qb 2 ?_
  refine Qy 9 hm (rfl) (fun hm=>?_) (fun hm=>?_)
  ·refine Qb 2 ?_
   obtain ⟨v603,hx,hm⟩:=Qf hm
   refine QL rfl (fun _=>Qfl (b:=p0) (n:=v201) (v:=v603) (k:=.i64) hx (by kernel_rfl) rfl (by kernel_rfl) (by kernel_rfl)) ?_
   obtain ⟨v604,hx,hm⟩:=Qf hm
   have hq:=Qdp _ _ hx []
   refine Qr hq ?_
   refine Qb 1 ?_
   refine Qy 14 hm (QC _) (fun hm=>?_) (fun hm=>?_)
   ·refine Qb 6 (Qg ?_)
    obtain rfl:=Qq hm
    exact Qm
   refine Qb 2 ?_
   obtain ⟨v605,hx,hm⟩:=Qf hm
   refine QL rfl (fun _=>Qfl (b:=p0) (n:=v201) (v:=v605) (k:=.i64) hx (by kernel_rfl) rfl (by kernel_rfl) (by kernel_rfl)) ?_
   obtain ⟨v606,hx,hm⟩:=Qf hm
   have hq:=Qfx _ _ hx []
   refine Qr hq ?_
   refine Qb 2 (Qg ?_)
   obtain rfl:=Qq hm
   exact Qm
  refine Qb 11 (Qg ?_)
  obtain rfl:=Qq hm
  exact Qm
 clear hs
 refine Qx hm (QC _) (fun hm=>?_) (fun hm=>?_)
 ·refine Qs (Qz (R_G (Qb 3 (Qg ?_))))
  exact QbW _ _ hm _ (by kernel_rfl)
 refine QP ?_
 obtain rfl:=Qq hm
 exact ⟨rfl,Qm⟩
def Qch (x:(ByteArray × Int)):Option Int :=
 match x with
 | (p0,p1) =>
 YQ (p0,p1)>>=fun (v601:Int) =>
 some v601
def Qe1:(ByteArray × Int)→Int→Prop:=fun x r=>match x,r with
 | (p0,p1),r0=>∀ H,PC prog env 69 ([(strD p0),(Qc p1)].map .dat) H (Qd r0) H
theorem QfQ:∀ x r,Qch x=some r→Qe1 x r:=by
 intro x r0 hm
 unfold Qch at hm
 unfold Qe1
 obtain ⟨p0,p1⟩:=x
 intro H
 refine PC_sx (ds:=[(strD p0),(Qc p1)]) (fn:=f69) rfl ?_
 refine Qe (R_G (Qb 1 (Qg (Qe (Qz ?_)))))
 obtain ⟨v601,hs,hm⟩:=Qf hm
 refine QT ?_
 refine RL_use (QbW _ _ hs) (by kernel_rfl) ?_
 clear hs
 intro e s hp
 obtain ⟨rfl,d,rfl⟩:=hp
 refine Qe (R_G (Qb 2 (Qg (Qt ?_))))
 obtain rfl:=Qq hm
 exact ⟨trivial,Qk⟩
def X5 (x:ByteArray):Option Bool :=
 match x with
 | p0 =>
 (if (p0.size:Int) > 0 then
  sidx p0 0>>=fun v2 =>
  XZ v2>>=fun (v3:Bool) =>
  some v3
 else
 some false
 )>>=fun (v1:Bool) =>
 if v1=true then
  Qch (p0,0)>>=fun (v4:Int) =>
  some (v4 == (p0.size:Int))
 else
 some false
def Qem:ByteArray→Bool→Prop:=fun x r=>match x,r with
 | p0,r0=>∀ H,PC prog env 53 ([(strD p0)].map .dat) H (Qp r0) H
theorem Qet:∀ x r,X5 x=some r→Qem x r:=by
 intro p0 r0 hm
 unfold X5 at hm
 unfold Qem
 intro H
 refine PC_sx (ds:=[(strD p0)]) (fn:=f53) rfl ?_
 refine Qe (R_G (Qb 1 (Qg (Qe ?_))))
 refine Qdd ?_
 refine Qb 1 ?_
 refine QL rfl (fun _=>Qeo (b:=p0) (by kernel_rfl) rfl (by kernel_rfl)) ?_
 refine Qb 2 ?_
 obtain ⟨v1,hs,hm⟩:=Qf hm
 refine ZS (j:=8) (fun d=>⟨sl d 18 [(0,(.dat (strD p0))),(2,(Qp false)),(10,(Qp v1))],[]⟩) (fun d=>?_) (fun hJ=>?_)
 ·clear hs
  refine Qb 1 ?_
  refine Qy 11 hm (QC _) (fun hm=>?_) (fun hm=>?_)
  ·refine Qb 1 ?_
   obtain ⟨v4,hx,hm⟩:=Qf hm
   have hq:=QfQ _ _ hx []
   refine Qr hq ?_
   refine Qb 1 ?_
   refine QL rfl (fun _=>Qeo (b:=p0) (by kernel_rfl) rfl (by kernel_rfl)) ?_
   refine Qb 3 ?_
   refine Qg ⟨by kernel_rfl,?_⟩
   refine Qt ?_
   obtain rfl:=Qq hm
   exact ⟨trivial,Qk⟩
  refine Qb 7 ?_
  refine Qg ⟨by kernel_rfl,?_⟩
  refine Qt ?_
  obtain rfl:=Qq hm
  exact ⟨trivial,Qk⟩
 clear hm
 refine Qy 6 hs (rfl) (fun hm=>?_) (fun hm=>?_)
 ·refine Qb 1 ?_
  obtain ⟨v2,hx,hm⟩:=Qf hm
  refine QL rfl (fun _=>Qfl (b:=p0) (n:=0) (v:=v2) (k:=.i64) hx (by kernel_rfl) rfl (by kernel_rfl) (by kernel_rfl)) ?_
  obtain ⟨v3,hx,hm⟩:=Qf hm
  have hq:=Qdp _ _ hx []
  refine Qr hq ?_
  refine Qb 1 ?_
  obtain rfl:=Qq hm
  exact hJ _ _
 refine Qb 4 ?_
 obtain rfl:=Qq hm
 exact hJ _ _
def Zl (x:((List Int) × Bool × Int)):Option (Unit ⊕ Bool) :=
 match x with
 | (p0,v201,v202) =>
 if v202 < (p0.length:Int) then
  idx p0 v202>>=fun v602 =>
  if v602 < 0 then
   some (Sum.inl ())
  else
  if v201=true then
   Zl (p0,true,(W (v202+1)))
  else
  idx p0 v202>>=fun v603 =>
  Zl (p0,(v603 == 0),(W (v202+1)))
 else
 some (Sum.inr v201)
 partial_fixpoint
def QbU:((List Int) × Bool × Int)→(Unit ⊕ Bool)→Prop:=fun x r=>match x with
 | (p0,v201,v202)=>∀ st,prune 0 ((Qw (QD [1,1,0,1,0,0] (QE f67))).bind (env.hint 67).keepAt) st=⟨kp 55 [(0,(.dat (.lst ((List.map Qc) p0)))),(4,(Qp v201)),(5,(Qd v202))],[]⟩ →
  RL prog env (env.hint 67) true (QD [1,1,0,1,0,0] (QE f67)) 0 st (fun e s=>match r with|.inl _=>e=.ret∧∃ d,s=⟨sl d 55 [(2,(Qd 0)),(3,(Qd 6))],[]⟩|.inr (v601)=>e=.exit 0∧∃ d,s=⟨sl d 55 [(0,(.dat (.lst ((List.map Qc) p0)))),(4,(Qp v601))],[]⟩)
theorem Xi:∀ x r,Zl x=some r→QbU x r:=by
 refine Zl.partial_correctness _ (fun Zl Xi x r hm=>?_)
 unfold QbU
 obtain ⟨p0,v201,v202⟩:=x
 intro st hst
 refine RL_at hst ?_
 clear hst
 refine Qe (Qe (R_G (Qb 2 ?_)))
 refine QG Qc p0 (es:=(List.map Qc) p0) rfl ?_
 refine Qb 1 (Qg ?_)
 refine Qx hm (rfl) (fun hm=>?_) (fun hm=>?_)
 ·refine Qs (Qe (Qz (Qe (Qe (R_G (Qb 2 ?_))))))
  refine QF 1 Qc hm rfl (fun _=>rfl) (fun v602 hm=>?_)
  refine Qb 2 (Qg ?_)
  refine Qx hm (rfl) (fun hm=>?_) (fun hm=>?_)
  ·refine Qe (R_G (Qb 2 (Qg (Qt ?_))))
   obtain rfl:=Qq hm
   exact ⟨rfl,Qm⟩
  refine Qs (R_G (Qb 2 ?_))
  refine Qy 21 hm (QC _) (fun hm=>?_) (fun hm=>?_)
  ·refine Qb 7 (Qg (R_G (Qb 3 (Qg ?_))))
   exact Xi _ _ hm _ (by kernel_rfl)
  refine Qb 2 ?_
  refine QF 1 Qc hm rfl (fun _=>rfl) (fun v603 hm=>?_)
  refine Qb 4 (Qg (R_G (Qb 3 (Qg ?_))))
  exact Xi _ _ hm _ (by kernel_rfl)
 refine QP ?_
 obtain rfl:=Qq hm
 exact ⟨rfl,Qm⟩
def Zx (x:((List Int) × Bool × Int)):Option (Unit ⊕ Unit) :=
 match x with
 | (p0,v601,v804) =>
 if v804 < (p0.length:Int) then
  idx p0 v804>>=fun v1204 =>
  if v1204 > 65536 then
   some (Sum.inl ())
  else
  Zx (p0,v601,(W (v804+1)))
 else
 some (Sum.inr ())
 partial_fixpoint
def QbQ:((List Int) × Bool × Int)→(Unit ⊕ Unit)→Prop:=fun x r=>match x with
 | (p0,v601,v804)=>∀ st,prune 0 ((Qw (QD [1,1,1,0,1,0,0] (QE f67))).bind (env.hint 67).keepAt) st=⟨kp 55 [(0,(.dat (.lst ((List.map Qc) p0)))),(4,(Qp v601)),(6,(Qd v804))],[]⟩ →
  RL prog env (env.hint 67) true (QD [1,1,1,0,1,0,0] (QE f67)) 0 st (fun e s=>match r with|.inl _=>e=.ret∧∃ d,s=⟨sl d 55 [(2,(Qd 0)),(3,(Qd 7))],[]⟩|.inr (_)=>e=.exit 2∧∃ d,s=⟨sl d 55 [(0,(.dat (.lst ((List.map Qc) p0)))),(4,(Qp v601))],[]⟩)
theorem Jd:∀ x r,Zx x=some r→QbQ x r:=by
 refine Zx.partial_correctness _ (fun Zx Jd x r hm=>?_)
 unfold QbQ
 obtain ⟨p0,v601,v804⟩:=x
 intro st hst
 refine RL_at hst ?_
 clear hst
 refine Qe (Qe (R_G (Qb 2 ?_)))
 refine QG Qc p0 (es:=(List.map Qc) p0) rfl ?_
 refine Qb 1 (Qg ?_)
 refine Qx hm (rfl) (fun hm=>?_) (fun hm=>?_)
 ·refine Qs (Qe (Qz (Qe (R_G (Qb 2 ?_)))))
  refine QF 1 Qc hm rfl (fun _=>rfl) (fun v1204 hm=>?_)
  refine Qb 2 (Qg ?_)
  refine Qx hm (rfl) (fun hm=>?_) (fun hm=>?_)
  ·refine Qe (R_G (Qb 2 (Qg (Qt ?_))))
   obtain rfl:=Qq hm
   exact ⟨rfl,Qm⟩
  refine Qs (R_G (Qb 3 (Qg ?_)))
  exact Jd _ _ hm _ (by kernel_rfl)
 refine QP ?_
 obtain rfl:=Qq hm
 exact ⟨rfl,Qm⟩
def Zz (x:((List Int) × Int × Int)):Option (Unit ⊕ Int) :=
 match x with
 | (p0,v1405,v1406) =>
 if v1406 < (p0.length:Int) then
  idx p0 v1406>>=fun v1806 =>
  if (W (v1405 * v1806)) > 65536 then
   some (Sum.inl ())
  else
  Zz (p0,(W (v1405 * v1806)),(W (v1406+1)))
 else
 some (Sum.inr v1405)
 partial_fixpoint
def Qb1:((List Int) × Int × Int)→(Unit ⊕ Int)→Prop:=fun x r=>match x with
 | (p0,v1405,v1406)=>∀ st,prune 0 ((Qw (QD [1,1,1,1,1,1,0,1,0,0] (QE f67))).bind (env.hint 67).keepAt) st=⟨kp 55 [(0,(.dat (.lst ((List.map Qc) p0)))),(7,(Qd v1405)),(8,(Qd v1406))],[]⟩ →
  RL prog env (env.hint 67) true (QD [1,1,1,1,1,1,0,1,0,0] (QE f67)) 0 st (fun e s=>match r with|.inl _=>e=.ret∧∃ d,s=⟨sl d 55 [(2,(Qd 0)),(3,(Qd 7))],[]⟩|.inr (v1805)=>e=.exit 4∧∃ d,s=⟨sl d 55 [(7,(Qd v1805))],[]⟩)
theorem X6:∀ x r,Zz x=some r→Qb1 x r:=by
 refine Zz.partial_correctness _ (fun Zz X6 x r hm=>?_)
 unfold Qb1
 obtain ⟨p0,v1405,v1406⟩:=x
 intro st hst
 refine RL_at hst ?_
 clear hst
 refine Qe (Qe (R_G (Qb 2 ?_)))
 refine QG Qc p0 (es:=(List.map Qc) p0) rfl ?_
 refine Qb 1 (Qg ?_)
 refine Qx hm (rfl) (fun hm=>?_) (fun hm=>?_)
 ·refine Qs (Qe (Qz (Qe (R_G (Qb 3 ?_)))))
  refine QF 1 Qc hm rfl (fun _=>rfl) (fun v1806 hm=>?_)
  refine Qb 3 (Qg (Qe (R_G (Qb 2 (Qg ?_)))))
  refine Qx hm (rfl) (fun hm=>?_) (fun hm=>?_)
  ·refine Qe (R_G (Qb 2 (Qg (Qt ?_))))
   obtain rfl:=Qq hm
   exact ⟨rfl,Qm⟩
  refine Qs (R_G (Qb 3 (Qg ?_)))
  exact X6 _ _ hm _ (by kernel_rfl)
 refine QP ?_
 obtain rfl:=Qq hm
 exact ⟨rfl,Qm⟩
def Xx (x:(List Int)):Option (Int × Int) :=
 match x with
 | p0 =>
 (
 Zl (p0,false,0)>>=fun (out:Unit ⊕ Bool) =>
 match out with
 | .inl _ =>
  some (0,6)
 | .inr (v601) =>
  (
  Zx (p0,v601,0)>>=fun (out:Unit ⊕ Unit) =>
  match out with
  | .inl _ =>
   some (0,7)
  | .inr (_) =>
   if v601=true then
    some (0,0)
   else
   (
   Zz (p0,1,0)>>=fun (out:Unit ⊕ Int) =>
   match out with
   | .inl _ =>
    some (0,7)
   | .inr (v1805) =>
    some (v1805,0)
   )
  )
 )
def QcW:(List Int)→(Int × Int)→Prop:=fun x r=>match x,r with
 | p0,(r0,r1)=>∀ H,PC prog env 67 ([(.lst ((List.map Qc) p0))].map .dat) H (.tup [(Qd r0),(Qd r1)]) H
theorem Qc1:∀ x r,Xx x=some r→QcW x r:=by
 intro p0 r hm
 unfold Xx at hm
 unfold QcW
 obtain ⟨r0,r1⟩:=r
 intro H
 refine PC_sx (ds:=[(.lst ((List.map Qc) p0))]) (fn:=f67) rfl ?_
 refine Qe (R_G (Qb 2 (Qg (Qe (R_G (Qb 1 (Qg (Qe (Qe (R_G (Qb 1 ?_)))))))))))
 refine Qg (Qz ?_)
 obtain ⟨out,hs,hm⟩:=Qf hm
 refine QT ?_
 rcases out with _|v601
 ·refine RL_use (Xi _ _ hs) (by kernel_rfl) ?_
  clear hs
  intro e s hp
  obtain ⟨rfl,d,rfl⟩:=hp
  obtain ⟨rfl,rfl⟩:=Zn hm
  exact ⟨trivial,Qk⟩
 ·refine RL_use (Xi _ _ hs) (by kernel_rfl) ?_
  clear hs
  intro e s hp
  obtain ⟨rfl,d,rfl⟩:=hp
  refine Qe (Qe (R_G (Qb 1 (Qg (Qz ?_)))))
  obtain ⟨out,hs,hm⟩:=Qf hm
  refine QT ?_
  rcases out with _|_
  ·refine RL_use (Jd _ _ hs) (by kernel_rfl) ?_
   clear hs
   intro e s hp
   obtain ⟨rfl,d,rfl⟩:=hp
   obtain ⟨rfl,rfl⟩:=Zn hm
   exact ⟨trivial,Qk⟩
  ·refine RL_use (Jd _ _ hs) (by kernel_rfl) ?_
   clear hs
   intro e s hp
   obtain ⟨rfl,d,rfl⟩:=hp
   refine Qe (Qe (R_G (Qb 1 (Qg ?_))))
   refine Qx hm (QC _) (fun hm=>?_) (fun hm=>?_)
   ·refine Qe (R_G (Qb 2 (Qg (Qt ?_))))
    obtain ⟨rfl,rfl⟩:=Zn hm
    exact ⟨trivial,Qk⟩
   refine Qs (Qe (R_G (Qb 1 (Qg (Qe (Qe (R_G (Qb 1 (Qg (Qz ?_))))))))))
   obtain ⟨out,hs,hm⟩:=Qf hm
   refine QT ?_
   rcases out with _|v1805
   ·refine RL_use (X6 _ _ hs) (by kernel_rfl) ?_
    clear hs
    intro e s hp
    obtain ⟨rfl,d,rfl⟩:=hp
    obtain ⟨rfl,rfl⟩:=Zn hm
    exact ⟨trivial,Qk⟩
   ·refine RL_use (X6 _ _ hs) (by kernel_rfl) ?_
    clear hs
    intro e s hp
    obtain ⟨rfl,d,rfl⟩:=hp
    refine Qe (R_G (Qb 3 (Qg (Qt ?_))))
    obtain ⟨rfl,rfl⟩:=Zn hm
    exact ⟨trivial,Qk⟩
def ZT (x:((List Int) × Int)):Option (Unit ⊕ Unit) :=
 match x with
 | (p0,v201) =>
 if v201 < (p0.length:Int) then
  idx p0 v201>>=fun v601 =>
  if v601 < 0 then
   some (Sum.inl ())
  else
  ZT (p0,(W (v201+1)))
 else
 some (Sum.inr ())
 partial_fixpoint
def QcL:((List Int) × Int)→(Unit ⊕ Unit)→Prop:=fun x r=>match x with
 | (p0,v201)=>∀ st,prune 0 ((Qw (QD [1,0,1,0,0] (QE f66))).bind (env.hint 66).keepAt) st=⟨kp 29 [(0,(.dat (.lst ((List.map Qc) p0)))),(3,(Qd v201))],[]⟩ →
  RL prog env (env.hint 66) true (QD [1,0,1,0,0] (QE f66)) 0 st (fun e s=>match r with|.inl _=>e=.ret∧∃ d,s=⟨sl d 29 [(2,(Qd 6))],[]⟩|.inr (_)=>e=.exit 0∧∃ d,s=⟨sl d 29 [(0,(.dat (.lst ((List.map Qc) p0))))],[]⟩)
theorem JW:∀ x r,ZT x=some r→QcL x r:=by
 refine ZT.partial_correctness _ (fun ZT JW x r hm=>?_)
 unfold QcL
 obtain ⟨p0,v201⟩:=x
 intro st hst
 refine RL_at hst ?_
 clear hst
 refine Qe (Qe (R_G (Qb 2 ?_)))
 refine QG Qc p0 (es:=(List.map Qc) p0) rfl ?_
 refine Qb 1 (Qg ?_)
 refine Qx hm (rfl) (fun hm=>?_) (fun hm=>?_)
 ·refine Qs (Qe (Qz (Qe (R_G (Qb 2 ?_)))))
  refine QF 1 Qc hm rfl (fun _=>rfl) (fun v601 hm=>?_)
  refine Qb 2 (Qg ?_)
  refine Qx hm (rfl) (fun hm=>?_) (fun hm=>?_)
  ·refine Qe (R_G (Qb 1 (Qg (Qt ?_))))
   obtain rfl:=Qq hm
   exact ⟨rfl,Qm⟩
  refine Qs (R_G (Qb 3 (Qg ?_)))
  exact JW _ _ hm _ (by kernel_rfl)
 refine QP ?_
 obtain rfl:=Qq hm
 exact ⟨rfl,Qm⟩
def Yg (x:(List Int)):Option Int :=
 match x with
 | p0 =>
 (
 ZT (p0,0)>>=fun (out:Unit ⊕ Unit) =>
 match out with
 | .inl _ =>
  some 6
 | .inr (_) =>
  Xx p0>>=fun ((v602,v603):(Int × Int)) =>
  (if (p0.length:Int) > 16 then
   some true
  else
  some (v603 != 0)
  )>>=fun (v604:Bool) =>
  if v604=true then
   some 7
  else
  some 0
 )
def Qd8:(List Int)→Int→Prop:=fun x r=>match x,r with
 | p0,r0=>∀ H,PC prog env 66 ([(.lst ((List.map Qc) p0))].map .dat) H (Qd r0) H
theorem XJ:∀ x r,Yg x=some r→Qd8 x r:=by
 intro p0 r0 hm
 unfold Yg at hm
 unfold Qd8
 intro H
 refine PC_sx (ds:=[(.lst ((List.map Qc) p0))]) (fn:=f66) rfl ?_
 refine Qe (R_G (Qb 1 (Qg (Qe (Qe (R_G (Qb 1 (Qg (Qz ?_)))))))))
 obtain ⟨out,hs,hm⟩:=Qf hm
 refine QT ?_
 rcases out with _|_
 ·refine RL_use (JW _ _ hs) (by kernel_rfl) ?_
  clear hs
  intro e s hp
  obtain ⟨rfl,d,rfl⟩:=hp
  obtain rfl:=Qq hm
  exact ⟨trivial,Qk⟩
 ·refine RL_use (JW _ _ hs) (by kernel_rfl) ?_
  clear hs
  intro e s hp
  obtain ⟨rfl,d,rfl⟩:=hp
  refine Qe (R_G (Qb 1 ?_))
  obtain ⟨⟨v602,v603⟩,hx,hm⟩:=Qf hm
  have hq:=Qc1 _ _ hx []
  refine Qr hq ?_
  refine Qb 5 (Qg (Qe (Qe ?_)))
  obtain ⟨v604,hs,hm⟩:=Qf hm
  refine Q7 (fun d=>⟨sl d 29 [(28,(Qp v604))],[]⟩) ?_ (fun d=>?_)
  ·replace hm:=hs
   clear hs
   refine R_G (Qb 1 ?_)
   refine QG Qc p0 (es:=(List.map Qc) p0) rfl ?_
   refine Qb 2 ?_
   refine Qy 25 hm (rfl) (fun hm=>?_) (fun hm=>?_)
   ·refine Qb 3 (Qg ?_)
    obtain rfl:=Qq hm
    exact Qm
   refine Qb 3 (Qg ?_)
   obtain rfl:=Qq hm
   exact Qm
  clear hs
  refine Qx hm (QC _) (fun hm=>?_) (fun hm=>?_)
  ·refine Qe (R_G (Qb 1 (Qg (Qt ?_))))
   obtain rfl:=Qq hm
   exact ⟨trivial,Qk⟩
  refine Qs (Qe (R_G (Qb 1 (Qg (Qt ?_)))))
  obtain rfl:=Qq hm
  exact ⟨trivial,Qk⟩
def YL (x:(List Int)):Option Int :=
 match x with
 | p0 =>
 Yg p0>>=fun (v1:Int) =>
 if v1≠0 then
  some 0
 else
 Xx p0>>=fun ((v2,v3):(Int × Int)) =>
 some v2
def Qeb:(List Int)→Int→Prop:=fun x r=>match x,r with
 | p0,r0=>∀ H,PC prog env 36 ([(.lst ((List.map Qc) p0))].map .dat) H (Qd r0) H
theorem J7:∀ x r,YL x=some r→Qeb x r:=by
 intro p0 r0 hm
 unfold YL at hm
 unfold Qeb
 intro H
 refine PC_sx (ds:=[(.lst ((List.map Qc) p0))]) (fn:=f36) rfl ?_
 refine Qe (R_G (Qb 1 (Qg (Qe (Qe (R_G (Qb 1 ?_)))))))
 obtain ⟨v1,hx,hm⟩:=Qf hm
 have hq:=XJ _ _ hx []
 refine Qr hq ?_
 refine Qb 1 (Qg ?_)
 refine Qx hm (ne_dec _ _) (fun hm=>?_) (fun hm=>?_)
 ·refine Qe (R_G (Qb 1 (Qg (Qt ?_))))
  obtain rfl:=Qq hm
  exact ⟨trivial,Qk⟩
 refine Qs (Qe (R_G (Qb 1 ?_)))
 obtain ⟨⟨v2,v3⟩,hx,hm⟩:=Qf hm
 have hq:=Qc1 _ _ hx []
 refine Qr hq ?_
 refine Qb 5 (Qg (Qe (R_G (Qb 2 (Qg (Qt ?_))))))
 obtain rfl:=Qq hm
 exact ⟨trivial,Qk⟩
def Jo (x:Qo):Option Int :=
 match x with
 | p0 =>
 Yg p0.shape>>=fun (v1:Int) =>
 (if v1=0 then
  YL p0.shape>>=fun (v3:Int) =>
  some ((p0.data.length:Int) != v3)
 else
 some false
 )>>=fun (v2:Bool) =>
 if v2=true then
  some 5
 else
 some v1
def QdJ:Qo→Int→Prop:=fun x r=>match x,r with
 | p0,r0=>∀ H,PC prog env 54 ([(Qo.toD p0)].map .dat) H (Qd r0) H
theorem Qd1:∀ x r,Jo x=some r→QdJ x r:=by
 intro p0 r0 hm
 unfold Jo at hm
 unfold QdJ
 intro H
 refine PC_sx (ds:=[(Qo.toD p0)]) (fn:=f54) rfl ?_
 refine Qe (R_G (Qb 2 (Qg (Qe (R_G (Qb 2 ?_))))))
 obtain ⟨v1,hx,hm⟩:=Qf hm
 have hq:=XJ _ _ hx []
 refine Qr hq ?_
 refine Qb 1 (Qg (Qe (Qe ?_)))
 obtain ⟨v2,hs,hm⟩:=Qf hm
 refine Q7 (fun d=>⟨sl d 19 [(3,(Qd v1)),(17,(Qp v2))],[(.box [(.dat (.lst ((List.map Qc) p0.shape))),(.dat (.lst ((List.map Qc) p0.data)))])]⟩) ?_ (fun d=>?_)
 ·replace hm:=hs
  clear hs
  refine YM ?_
  refine Qb 3 ?_
  refine Qy 9 hm (QO _ _) (fun hm=>?_) (fun hm=>?_)
  ·refine Qb 2 ?_
   refine QG Qc p0.data (es:=(List.map Qc) p0.data) rfl ?_
   refine Qb 2 ?_
   obtain ⟨v3,hx,hm⟩:=Qf hm
   have hq:=J7 _ _ hx []
   refine Qr hq ?_
   refine Qb 2 ?_
   refine Qg ⟨by kernel_rfl,?_⟩
   obtain rfl:=Qq hm
   exact Qm
  refine Qb 8 ?_
  refine Qg ⟨by kernel_rfl,?_⟩
  obtain rfl:=Qq hm
  exact Qm
 clear hs
 refine Qx hm (QC _) (fun hm=>?_) (fun hm=>?_)
 ·refine Qe (R_G (Qb 1 (Qg (Qt ?_))))
  obtain rfl:=Qq hm
  exact ⟨trivial,Qk⟩
 refine Qs (Qe (R_G (Qb 2 (Qg (Qt ?_)))))
 obtain rfl:=Qq hm
 exact ⟨trivial,Qk⟩
def Yn (x:(Int × (List Qn) × Int)):Option (Unit ⊕ Unit) :=
 match x with
 | (v201,p0,v806) =>
 if v806 < v201 then
  idx p0 v806>>=fun v1206 =>
  idx p0 v201>>=fun v1207 =>
  if v1206.name=v1207.name then
   some (Sum.inl ())
  else
  Yn (v201,p0,(W (v806+1)))
 else
 some (Sum.inr ())
 partial_fixpoint
def Qcz:(Int × (List Qn) × Int)→(Unit ⊕ Unit)→Prop:=fun x r=>match x with
 | (v201,p0,v806)=>∀ st,prune 0 ((Qw (QD [1,0,1,0,0,1,0,0,1,1,0,0] (QE f30))).bind (env.hint 30).keepAt) st=⟨kp 43 [(0,(.dat (.lst ((List.map Qn.toD) p0)))),(3,(Qd v201)),(4,(Qd v806))],[]⟩ →
  RL prog env (env.hint 30) true (QD [1,0,1,0,0,1,0,0,1,1,0,0] (QE f30)) 0 st (fun e s=>match r with|.inl _=>e=.ret∧∃ d,s=⟨sl d 43 [(2,(Qp false))],[]⟩|.inr (_)=>e=.exit 2∧∃ d,s=⟨sl d 43 [(0,(.dat (.lst ((List.map Qn.toD) p0)))),(3,(Qd v201))],[]⟩)
theorem JO:∀ x r,Yn x=some r→Qcz x r:=by
 refine Yn.partial_correctness _ (fun Yn JO x r hm=>?_)
 unfold Qcz
 obtain ⟨v201,p0,v806⟩:=x
 intro st hst
 refine RL_at hst ?_
 clear hst
 refine Qe (Qe (R_G (Qb 3 (Qg ?_))))
 refine Qx hm (rfl) (fun hm=>?_) (fun hm=>?_)
 ·refine Qs (Qe (Qz (Qe ?_)))
  refine YM ?_
  refine Qb 2 ?_
  refine QF 3 Qn.toD hm rfl (fun _=>rfl) (fun v1206 hm=>?_)
  refine Qb 4 ?_
  refine QF 3 Qn.toD hm rfl (fun _=>rfl) (fun v1207 hm=>?_)
  refine Qb 2 ?_
  refine QL rfl (fun _=>Qdw (a:=v1206.name) (b:=v1207.name) rfl (by kernel_rfl) (by kernel_rfl)) ?_
  refine Qg ⟨by kernel_rfl,?_⟩
  refine Qx hm (rfl) (fun hm=>?_) (fun hm=>?_)
  ·refine Qe (R_G (Qb 1 (Qg (Qt ?_))))
   obtain rfl:=Qq hm
   exact ⟨rfl,Qm⟩
  refine Qs (R_G (Qb 3 (Qg ?_)))
  exact JO _ _ hm _ (by kernel_rfl)
 refine QP ?_
 obtain rfl:=Qq hm
 exact ⟨rfl,Qm⟩
def Yr (x:((List Qn) × Int)):Option (Unit ⊕ Unit) :=
 match x with
 | (p0,v201) =>
 if v201 < (p0.length:Int) then
  (idx p0 v201>>=fun v602 =>
  X5 v602.name>>=fun (v603:Bool) =>
  if v603=false then
   some true
  else
  idx p0 v201>>=fun v604 =>
  Jo v604.value>>=fun (v605:Int) =>
  some (v605 != 0)
  )>>=fun (v601:Bool) =>
  if v601=true then
   some (Sum.inl ())
  else
  (
  Yn (v201,p0,0)>>=fun (out:Unit ⊕ Unit) =>
  match out with
  | .inl _ =>
   some (Sum.inl ())
  | .inr (_) =>
   Yr (p0,(W (v201+1)))
  )
 else
 some (Sum.inr ())
 partial_fixpoint
def QcC:((List Qn) × Int)→(Unit ⊕ Unit)→Prop:=fun x r=>match x with
 | (p0,v201)=>∀ st,prune 0 ((Qw (QD [1,0,1,0,0] (QE f30))).bind (env.hint 30).keepAt) st=⟨kp 43 [(0,(.dat (.lst ((List.map Qn.toD) p0)))),(3,(Qd v201))],[]⟩ →
  RL prog env (env.hint 30) true (QD [1,0,1,0,0] (QE f30)) 0 st (fun e s=>match r with|.inl _=>e=.ret∧∃ d,s=⟨sl d 43 [(2,(Qp false))],[]⟩|.inr (_)=>e=.exit 0∧∃ d,s=⟨sl d 43 [],[]⟩)
theorem JL:∀ x r,Yr x=some r→QcC x r:=by
 refine Yr.partial_correctness _ (fun Yr JL x r hm=>?_)
 unfold QcC
 obtain ⟨p0,v201⟩:=x
 intro st hst
 refine RL_at hst ?_
 clear hst
 refine Qe (Qe (R_G (Qb 2 ?_)))
 refine QG Qn.toD p0 (es:=(List.map Qn.toD) p0) rfl ?_
 refine Qb 1 (Qg ?_)
 refine Qx hm (rfl) (fun hm=>?_) (fun hm=>?_)
 ·refine Qs (Qe (Qz (Qe (Qe ?_))))
  obtain ⟨v601,hs,hm⟩:=Qf hm
  refine Q7 (fun d=>⟨sl d 43 [(0,(.dat (.lst ((List.map Qn.toD) p0)))),(3,(Qd v201)),(26,(Qp v601))],[]⟩) ?_ (fun d=>?_)
  ·replace hm:=hs
   clear hs
   refine R_G (Qb 2 ?_)
   refine QF 3 Qn.toD hm rfl (fun _=>rfl) (fun v602 hm=>?_)
   refine Qb 2 ?_
   obtain ⟨v603,hx,hm⟩:=Qf hm
   have hq:=Qet _ _ hx []
   refine Qr hq ?_
   refine Qb 2 ?_
   refine Qy 18 hm (ZL _) (fun hm=>?_) (fun hm=>?_)
   ·refine Qb 8 (Qg ?_)
    obtain rfl:=Qq hm
    exact Qm
   refine Qb 2 ?_
   refine QF 3 Qn.toD hm rfl (fun _=>rfl) (fun v604 hm=>?_)
   refine Qb 2 ?_
   obtain ⟨v605,hx,hm⟩:=Qf hm
   have hq:=Qd1 _ _ hx []
   refine Qr hq ?_
   refine Qb 2 (Qg ?_)
   obtain rfl:=Qq hm
   exact Qm
  clear hs
  refine Qx hm (QC _) (fun hm=>?_) (fun hm=>?_)
  ·refine Qe (R_G (Qb 1 (Qg (Qt ?_))))
   obtain rfl:=Qq hm
   exact ⟨rfl,Qm⟩
  refine Qs (Qe (R_G (Qb 1 (Qg (Qz ?_)))))
  obtain ⟨out,hs,hm⟩:=Qf hm
  refine QT ?_
  rcases out with _|_
  ·refine RL_use (JO _ _ hs) (by kernel_rfl) ?_
   clear hs
   intro e s hp
   obtain ⟨rfl,d,rfl⟩:=hp
   obtain rfl:=Qq hm
   exact ⟨rfl,Qm⟩
  ·refine RL_use (JO _ _ hs) (by kernel_rfl) ?_
   clear hs
   intro e s hp
   obtain ⟨rfl,d,rfl⟩:=hp
   refine R_G (Qb 3 (Qg ?_))
   exact JL _ _ hm _ (by kernel_rfl)
 refine QP ?_
 obtain rfl:=Qq hm
 exact ⟨rfl,Qm⟩
def Qa9 (x:(List Qn)):Option Bool :=
 match x with
 | p0 =>
 (
 Yr (p0,0)>>=fun (out:Unit ⊕ Unit) =>
 match out with
 | .inl _ =>
  some false
 | .inr (_) =>
  some true
 )
def QdR:(List Qn)→Bool→Prop:=fun x r=>match x,r with
 | p0,r0=>∀ H,PC prog env 30 ([(.lst ((List.map Qn.toD) p0))].map .dat) H (Qp r0) H
theorem Qfu:∀ x r,Qa9 x=some r→QdR x r:=by
 intro p0 r0 hm
 unfold Qa9 at hm
 unfold QdR
 intro H
 refine PC_sx (ds:=[(.lst ((List.map Qn.toD) p0))]) (fn:=f30) rfl ?_
 refine Qe (R_G (Qb 1 (Qg (Qe (Qe (R_G (Qb 1 (Qg (Qz ?_)))))))))
 obtain ⟨out,hs,hm⟩:=Qf hm
 refine QT ?_
 rcases out with _|_
 ·refine RL_use (JL _ _ hs) (by kernel_rfl) ?_
  clear hs
  intro e s hp
  obtain ⟨rfl,d,rfl⟩:=hp
  obtain rfl:=Qq hm
  exact ⟨trivial,Qk⟩
 ·refine RL_use (JL _ _ hs) (by kernel_rfl) ?_
  clear hs
  intro e s hp
  obtain ⟨rfl,d,rfl⟩:=hp
  refine Qe (R_G (Qb 1 (Qg (Qt ?_))))
  obtain rfl:=Qq hm
  exact ⟨trivial,Qk⟩
def ZY (x:((List Int) × Int × Int × Int)):Option (Unit ⊕ Unit) :=
 match x with
 | (p0,p1,v205,v206) =>
 if v206 < (p0.length:Int) then
  idx p0 v206>>=fun v605 =>
  if (W (v205 * (if v605 < 1 then 1 else v605))) > (W (100 * p1)) then
   some (Sum.inl ())
  else
  ZY (p0,p1,(W (v205 * (if v605 < 1 then 1 else v605))),(W (v206+1)))
 else
 some (Sum.inr ())
 partial_fixpoint
def QcE:((List Int) × Int × Int × Int)→(Unit ⊕ Unit)→Prop:=fun x r=>match x with
 | (p0,p1,v205,v206)=>∀ st,prune 0 ((Qw (QD [1,1,1,0,1,0,0] (QE f55))).bind (env.hint 55).keepAt) st=⟨kp 38 [(0,(.dat (.lst ((List.map Qc) p0)))),(1,(Qd p1)),(5,(Qd v205)),(6,(Qd v206))],[]⟩ →
  RL prog env (env.hint 55) true (QD [1,1,1,0,1,0,0] (QE f55)) 0 st (fun e s=>match r with|.inl _=>e=.ret∧∃ d,s=⟨sl d 38 [(4,(Qp false))],[]⟩|.inr (_)=>e=.exit 0∧∃ d,s=⟨sl d 38 [],[]⟩)
theorem JN:∀ x r,ZY x=some r→QcE x r:=by
 refine ZY.partial_correctness _ (fun ZY JN x r hm=>?_)
 unfold QcE
 obtain ⟨p0,p1,v205,v206⟩:=x
 intro st hst
 refine RL_at hst ?_
 clear hst
 refine Qe (Qe (R_G (Qb 2 ?_)))
 refine QG Qc p0 (es:=(List.map Qc) p0) rfl ?_
 refine Qb 1 (Qg ?_)
 refine Qx hm (rfl) (fun hm=>?_) (fun hm=>?_)
 ·refine Qs (Qe (Qz (Qe (R_G (Qb 3 ?_)))))
  refine QF 1 Qc hm rfl (fun _=>rfl) (fun v605 hm=>?_)
  refine Qb 1 ?_
  refine QL rfl (fun _=>QfU (k:=.i64) (m:=v605) (n:=1) rfl (by kernel_rfl) (by kernel_rfl)) ?_
  refine Qb 2 (Qg (Qe (R_G (Qb 4 (Qg ?_)))))
  refine Qx hm (rfl) (fun hm=>?_) (fun hm=>?_)
  ·refine Qe (R_G (Qb 1 (Qg (Qt ?_))))
   obtain rfl:=Qq hm
   exact ⟨rfl,Qm⟩
  refine Qs (R_G (Qb 3 (Qg ?_)))
  exact JN _ _ hm _ (by kernel_rfl)
 refine QP ?_
 obtain rfl:=Qq hm
 exact ⟨rfl,Qm⟩
def Jn (x:((List Int) × Int)):Option Bool :=
 match x with
 | (p0,p1) =>
 ((if (p0.length:Int) > 6 then
  some true
 else
 Yg p0>>=fun (v3:Int) =>
 some (v3 != 0)
 )>>=fun (v2:Bool) =>
 if v2=true then
  some true
 else
 YL p0>>=fun (v4:Int) =>
 some (decide (v4 > p1))
 )>>=fun (v1:Bool) =>
 if v1=true then
  some false
 else
 (
 ZY (p0,p1,1,0)>>=fun (out:Unit ⊕ Unit) =>
 match out with
 | .inl _ =>
  some false
 | .inr (_) =>
  some true
 )
def QdL:((List Int) × Int)→Bool→Prop:=fun x r=>match x,r with
 | (p0,p1),r0=>∀ H,PC prog env 55 ([(.lst ((List.map Qc) p0)),(Qc p1)].map .dat) H (Qp r0) H
theorem QdM:∀ x r,Jn x=some r→QdL x r:=by
 intro x r0 hm
 unfold Jn at hm
 unfold QdL
 obtain ⟨p0,p1⟩:=x
 intro H
 refine PC_sx (ds:=[(.lst ((List.map Qc) p0)),(Qc p1)]) (fn:=f55) rfl ?_
 refine Qe (R_G (Qb 1 (Qg (Qe (Qe ?_)))))
 obtain ⟨v1,hs,hm⟩:=Qf hm
 refine Q7 (fun d=>⟨sl d 38 [(0,(.dat (.lst ((List.map Qc) p0)))),(1,(Qd p1)),(20,(Qp v1))],[]⟩) ?_ (fun d=>?_)
 ·replace hm:=hs
  clear hs
  refine Qdd ?_
  refine Qb 1 ?_
  refine QG Qc p0 (es:=(List.map Qc) p0) rfl ?_
  refine Qb 2 ?_
  obtain ⟨v2,hs,hm⟩:=Qf hm
  refine ZS (j:=8) (fun d=>⟨sl d 38 [(0,(.dat (.lst ((List.map Qc) p0)))),(1,(Qd p1)),(14,(Qp v2))],[]⟩) (fun d=>?_) (fun hJ=>?_)
  ·clear hs
   refine Qb 1 ?_
   refine Qy 15 hm (QC _) (fun hm=>?_) (fun hm=>?_)
   ·refine Qb 5 ?_
    refine Qg ⟨by kernel_rfl,?_⟩
    obtain rfl:=Qq hm
    exact Qm
   refine Qb 1 ?_
   obtain ⟨v4,hx,hm⟩:=Qf hm
   have hq:=J7 _ _ hx []
   refine Qr hq ?_
   refine Qb 3 ?_
   refine Qg ⟨by kernel_rfl,?_⟩
   obtain rfl:=Qq hm
   exact Qm
  clear hm
  refine Qy 10 hs (rfl) (fun hm=>?_) (fun hm=>?_)
  ·refine Qb 4 ?_
   obtain rfl:=Qq hm
   exact hJ _ _
  refine Qb 1 ?_
  obtain ⟨v3,hx,hm⟩:=Qf hm
  have hq:=XJ _ _ hx []
  refine Qr hq ?_
  refine Qb 2 ?_
  obtain rfl:=Qq hm
  exact hJ _ _
 clear hs
 refine Qx hm (QC _) (fun hm=>?_) (fun hm=>?_)
 ·refine Qe (R_G (Qb 1 (Qg (Qt ?_))))
  obtain rfl:=Qq hm
  exact ⟨trivial,Qk⟩
 refine Qs (Qe (R_G (Qb 1 (Qg (Qe (Qe (R_G (Qb 1 (Qg (Qz ?_))))))))))
 obtain ⟨out,hs,hm⟩:=Qf hm
 refine QT ?_
 rcases out with _|_
 ·refine RL_use (JN _ _ hs) (by kernel_rfl) ?_
  clear hs
  intro e s hp
  obtain ⟨rfl,d,rfl⟩:=hp
  obtain rfl:=Qq hm
  exact ⟨trivial,Qk⟩
 ·refine RL_use (JN _ _ hs) (by kernel_rfl) ?_
  clear hs
  intro e s hp
  obtain ⟨rfl,d,rfl⟩:=hp
  refine Qe (R_G (Qb 1 (Qg (Qt ?_))))
  obtain rfl:=Qq hm
  exact ⟨trivial,Qk⟩
def Qbl (x:(Qo × Int)):Option Bool :=
 match x with
 | (p0,p1) =>
 Jn (p0.shape,p1)>>=fun (v1:Bool) =>
 if v1=true then
  Jo (⟨p0.shape,p0.data⟩:Qo)>>=fun (v2:Int) =>
  some (v2 == 0)
 else
 some false
def Qd0:(Qo × Int)→Bool→Prop:=fun x r=>match x,r with
 | (p0,p1),r0=>∀ H,PC prog env 31 ([(Qo.toD p0),(Qc p1)].map .dat) H (Qp r0) H
theorem Qfo:∀ x r,Qbl x=some r→Qd0 x r:=by
 intro x r0 hm
 unfold Qbl at hm
 unfold Qd0
 obtain ⟨p0,p1⟩:=x
 intro H
 refine PC_sx (ds:=[(Qo.toD p0),(Qc p1)]) (fn:=f31) rfl ?_
 refine Qe (R_G (Qb 2 (Qg (Qe (R_G (Qb 3 ?_))))))
 obtain ⟨v1,hx,hm⟩:=Qf hm
 have hq:=QdM _ _ hx []
 refine Qr hq ?_
 refine Qb 1 ?_
 refine Qy 9 hm (QC _) (fun hm=>?_) (fun hm=>?_)
 ·refine Qb 1 ?_
  obtain ⟨v2,hx,hm⟩:=Qf hm
  have hq:=Qd1 _ _ hx []
  refine Qr hq ?_
  refine Qb 3 (Qg (Qt ?_))
  obtain rfl:=Qq hm
  exact ⟨trivial,Qk⟩
 refine Qb 5 (Qg (Qt ?_))
 obtain rfl:=Qq hm
 exact ⟨trivial,Qk⟩
def Yp (x:((List Qn) × Int × Int)):Option (Unit ⊕ Unit) :=
 match x with
 | (p0,p1,v204) =>
 if v204 < (p0.length:Int) then
  idx p0 v204>>=fun v604 =>
  Qbl (v604.value,p1)>>=fun (v605:Bool) =>
  if v605=false then
   some (Sum.inl ())
  else
  Yp (p0,p1,(W (v204+1)))
 else
 some (Sum.inr ())
 partial_fixpoint
def Qcy:((List Qn) × Int × Int)→(Unit ⊕ Unit)→Prop:=fun x r=>match x with
 | (p0,p1,v204)=>∀ st,prune 0 ((Qw (QD [1,1,0,1,0,0] (QE f13))).bind (env.hint 13).keepAt) st=⟨kp 29 [(0,(.dat (.lst ((List.map Qn.toD) p0)))),(1,(Qd p1)),(5,(Qd v204))],[]⟩ →
  RL prog env (env.hint 13) true (QD [1,1,0,1,0,0] (QE f13)) 0 st (fun e s=>match r with|.inl _=>e=.ret∧∃ d,s=⟨sl d 29 [(4,(Qp false))],[]⟩|.inr (_)=>e=.exit 0∧∃ d,s=⟨sl d 29 [],[]⟩)
theorem JX:∀ x r,Yp x=some r→Qcy x r:=by
 refine Yp.partial_correctness _ (fun Yp JX x r hm=>?_)
 unfold Qcy
 obtain ⟨p0,p1,v204⟩:=x
 intro st hst
 refine RL_at hst ?_
 clear hst
 refine Qe (Qe (R_G (Qb 2 ?_)))
 refine QG Qn.toD p0 (es:=(List.map Qn.toD) p0) rfl ?_
 refine Qb 1 (Qg ?_)
 refine Qx hm (rfl) (fun hm=>?_) (fun hm=>?_)
 ·refine Qs (Qe (Qz (Qe (R_G (Qb 2 ?_)))))
  refine QF 3 Qn.toD hm rfl (fun _=>rfl) (fun v604 hm=>?_)
  refine Qb 3 ?_
  obtain ⟨v605,hx,hm⟩:=Qf hm
  have hq:=Qfo _ _ hx []
  refine Qr hq ?_
  refine Qb 1 (Qg ?_)
  refine Qx hm (ZL _) (fun hm=>?_) (fun hm=>?_)
  ·refine Qe (R_G (Qb 1 (Qg (Qt ?_))))
   obtain rfl:=Qq hm
   exact ⟨rfl,Qm⟩
  refine Qs (R_G (Qb 3 (Qg ?_)))
  exact JX _ _ hm _ (by kernel_rfl)
 refine QP ?_
 obtain rfl:=Qq hm
 exact ⟨rfl,Qm⟩
def J9 (x:((List Qn) × Int)):Option Bool :=
 match x with
 | (p0,p1) =>
 (Qck (p0,p1)>>=fun (v2:Bool) =>
 if v2=false then
  some true
 else
 Qa9 p0>>=fun (v3:Bool) =>
 some (!v3)
 )>>=fun (v1:Bool) =>
 if v1=true then
  some false
 else
 (
 Yp (p0,p1,0)>>=fun (out:Unit ⊕ Unit) =>
 match out with
 | .inl _ =>
  some false
 | .inr (_) =>
  some true
 )
def QdV:((List Qn) × Int)→Bool→Prop:=fun x r=>match x,r with
 | (p0,p1),r0=>∀ H,PC prog env 13 ([(.lst ((List.map Qn.toD) p0)),(Qc p1)].map .dat) H (Qp r0) H
theorem Qfq:∀ x r,J9 x=some r→QdV x r:=by
 intro x r0 hm
 unfold J9 at hm
 unfold QdV
 obtain ⟨p0,p1⟩:=x
 intro H
 refine PC_sx (ds:=[(.lst ((List.map Qn.toD) p0)),(Qc p1)]) (fn:=f13) rfl ?_
 refine Qe (R_G (Qb 1 (Qg (Qe (Qe ?_)))))
 obtain ⟨v1,hs,hm⟩:=Qf hm
 refine Q7 (fun d=>⟨sl d 29 [(0,(.dat (.lst ((List.map Qn.toD) p0)))),(1,(Qd p1)),(14,(Qp v1))],[]⟩) ?_ (fun d=>?_)
 ·replace hm:=hs
  clear hs
  refine R_G (Qb 2 ?_)
  obtain ⟨v2,hx,hm⟩:=Qf hm
  have hq:=QfX _ _ hx []
  refine Qr hq ?_
  refine Qb 2 ?_
  refine Qy 10 hm (ZL _) (fun hm=>?_) (fun hm=>?_)
  ·refine Qb 4 (Qg ?_)
   obtain rfl:=Qq hm
   exact Qm
  refine Qb 1 ?_
  obtain ⟨v3,hx,hm⟩:=Qf hm
  have hq:=Qfu _ _ hx []
  refine Qr hq ?_
  refine Qb 2 (Qg ?_)
  obtain rfl:=Qq hm
  exact Qm
 clear hs
 refine Qx hm (QC _) (fun hm=>?_) (fun hm=>?_)
 ·refine Qe (R_G (Qb 1 (Qg (Qt ?_))))
  obtain rfl:=Qq hm
  exact ⟨trivial,Qk⟩
 refine Qs (Qe (Qe (R_G (Qb 1 (Qg (Qz ?_))))))
 obtain ⟨out,hs,hm⟩:=Qf hm
 refine QT ?_
 rcases out with _|_
 ·refine RL_use (JX _ _ hs) (by kernel_rfl) ?_
  clear hs
  intro e s hp
  obtain ⟨rfl,d,rfl⟩:=hp
  obtain rfl:=Qq hm
  exact ⟨trivial,Qk⟩
 ·refine RL_use (JX _ _ hs) (by kernel_rfl) ?_
  clear hs
  intro e s hp
  obtain ⟨rfl,d,rfl⟩:=hp
  refine Qe (R_G (Qb 1 (Qg (Qt ?_))))
  obtain rfl:=Qq hm
  exact ⟨trivial,Qk⟩
mutual
def ZQ (x:(Qh × Int × Int)):Option (Int) :=
 match x with
 | (p0,v201,v202) =>
 (if v202 < (p0.kids.length:Int) then
  some (decide (v201≥0))
 else
 some false
 )>>=fun (v602:Bool) =>
 if v602=true then
  idx p0.kids v202>>=fun v603 =>
  Ja (v603,v201)>>=fun (v604:Int) =>
  ZQ (p0,v604,(W (v202+1)))
 else
 some v201
 partial_fixpoint
def Ja (x:(Qh × Int)):Option Int :=
 match x with
 | (p0,p1) =>
 ZQ (p0,(W (p1 - 1)),0)>>=fun (v601:Int) =>
 some v601
 partial_fixpoint
end
def Qaf:(Qh × Int × Int)→Int→Prop:=fun x r=>match x with
 | (p0,v201,v202)=>∀ st,prune 1 ((Qw (QD [1,1,0,1,0,0] (QE f56))).bind (env.hint 56).keepAt) st=⟨kp 27 [(1,(Qd v201)),(2,(.ptr 0 0)),(5,(Qd v202))],[(.box [(Qd p0.kind),(Qd p0.fn),(Qd p0.axis),(.dat (strD p0.name)),(.dat (.lst ((List.map Qc) p0.nums))),(.dat (.lst (Qh.toDs p0.kids)))])]⟩ →
  RL prog env (env.hint 56) true (QD [1,1,0,1,0,0] (QE f56)) 1 st (fun e s=>match r with|v601=>e=.exit 0∧∃ d,s=⟨sl d 27 [(1,(Qd v601))],[(.box [(Qd p0.kind),(Qd p0.fn),(Qd p0.axis),(.dat (strD p0.name)),(.dat (.lst ((List.map Qc) p0.nums))),(.dat (.lst (Qh.toDs p0.kids)))])]⟩)
def QbN:(Qh × Int)→Int→Prop:=fun x r=>match x,r with
 | (p0,p1),r0=>∀ H,PC prog env 56 ([(Qh.ex p0),(Qc p1)].map .dat) H (Qd r0) H
theorem g_ref08_left_L1:(∀ x r,ZQ x=some r→Qaf x r)∧(∀ x r,Ja x=some r→QbN x r):=by
 refine ZQ.mutual_partial_correctness Qaf QbN ?_ ?_
 ·intro ZQ Ja Qac QcV x r hm
  unfold Qaf
  obtain ⟨p0,v201,v202⟩:=x
  intro st hst
  refine RL_at hst ?_
  clear hst
  refine Qe (Qe ?_)
  obtain ⟨v602,hs,hm⟩:=Qf hm
  refine Q7 (fun d=>⟨sl d 27 [(1,(Qd v201)),(2,(.ptr 0 0)),(5,(Qd v202)),(16,(Qp v602))],[(.box [(Qd p0.kind),(Qd p0.fn),(Qd p0.axis),(.dat (strD p0.name)),(.dat (.lst ((List.map Qc) p0.nums))),(.dat (.lst (Qh.toDs p0.kids)))])]⟩) ?_ (fun d=>?_)
  ·replace hm:=hs
   clear hs
   refine R_G (Qb 3 ?_)
   refine QG Qh.toD p0.kids (es:=Qh.toDs p0.kids) (Qh.toDs_eq _) ?_
   refine Qb 2 ?_
   refine Qy 13 hm (rfl) (fun hm=>?_) (fun hm=>?_)
   ·refine Qb 3 (Qg ?_)
    obtain rfl:=Qq hm
    exact Qm
   refine Qb 3 (Qg ?_)
   obtain rfl:=Qq hm
   exact Qm
  clear hs
  refine Qx hm (QC _) (fun hm=>?_) (fun hm=>?_)
  ·refine Qs (Qe (Qz (R_G (Qb 3 ?_))))
   obtain ⟨v603,hx,hm⟩:=Qf hm
   refine Y2 6 Qh.toD p0.kids v202 v603 (es:=Qh.toDs p0.kids) (d:=(Qh.ex v603)) (Qh.toDs_eq _) hx (Qh.toD_eq v603) rfl ?_
   refine Qb 2 ?_
   obtain ⟨v604,hx,hm⟩:=Qf hm
   have hq:=QcV _ _ hx []
   refine Qr hq ?_
   refine Qb 1 (Qg (R_G (Qb 3 (Qg ?_))))
   exact Qac _ _ hm _ (by kernel_rfl)
  refine QP ?_
  obtain rfl:=Qq hm
  exact ⟨rfl,Qm⟩
 ·intro ZQ Qac x r0 hm
  unfold QbN
  obtain ⟨p0,p1⟩:=x
  intro H
  refine PC_sx (ds:=[(Qh.ex p0),(Qc p1)]) (fn:=f56) rfl ?_
  refine Qe (R_G (Qb 2 (Qg (Qe (R_G (Qb 3 (Qg (Qe (Qe (R_G (Qb 1 ?_)))))))))))
  refine Qg (Qz ?_)
  obtain ⟨v601,hs,hm⟩:=Qf hm
  refine QT ?_
  refine RL_use (Qac _ _ hs) (by kernel_rfl) ?_
  clear hs
  intro e s hp
  obtain ⟨rfl,d,rfl⟩:=hp
  refine Qe (R_G (Qb 2 (Qg (Qt ?_))))
  obtain rfl:=Qq hm
  exact ⟨trivial,Qk⟩
theorem Qac:∀ x r,ZQ x=some r→Qaf x r:=g_ref08_left_L1.1
theorem QcV:∀ x r,Ja x=some r→QbN x r:=g_ref08_left_L1.2
mutual
def ZF (x:(Qh × Int × Int)):Option (Int) :=
 match x with
 | (p0,v201,v202) =>
 if v202 < (p0.kids.length:Int) then
  idx p0.kids v202>>=fun v602 =>
  Xd v602>>=fun (v603:Int) =>
  ZF (p0,(if v201 < v603 then v603 else v201),(W (v202+1)))
 else
 some v201
 partial_fixpoint
def Xd (x:Qh):Option Int :=
 match x with
 | p0 =>
 ZF (p0,0,0)>>=fun (v601:Int) =>
 some (W (v601+1))
 partial_fixpoint
end
def JZ:(Qh × Int × Int)→Int→Prop:=fun x r=>match x with
 | (p0,v201,v202)=>∀ st,prune 1 ((Qw (QD [1,1,0,1,0,0] (QE f57))).bind (env.hint 57).keepAt) st=⟨kp 22 [(1,(.ptr 0 0)),(3,(Qd v201)),(4,(Qd v202))],[(.box [(Qd p0.kind),(Qd p0.fn),(Qd p0.axis),(.dat (strD p0.name)),(.dat (.lst ((List.map Qc) p0.nums))),(.dat (.lst (Qh.toDs p0.kids)))])]⟩ →
  RL prog env (env.hint 57) true (QD [1,1,0,1,0,0] (QE f57)) 1 st (fun e s=>match r with|v601=>e=.exit 0∧∃ d,s=⟨sl d 22 [(3,(Qd v601))],[(.box [(Qd p0.kind),(Qd p0.fn),(Qd p0.axis),(.dat (strD p0.name)),(.dat (.lst ((List.map Qc) p0.nums))),(.dat (.lst (Qh.toDs p0.kids)))])]⟩)
def Qbb:Qh→Int→Prop:=fun x r=>match x,r with
 | p0,r0=>∀ H,PC prog env 57 ([(Qh.ex p0)].map .dat) H (Qd r0) H
theorem g_ref08_Depth_L1:(∀ x r,ZF x=some r→JZ x r)∧(∀ x r,Xd x=some r→Qbb x r):=by
 refine ZF.mutual_partial_correctness JZ Qbb ?_ ?_
 ·intro ZF Xd J0 Qbn x r hm
  unfold JZ
  obtain ⟨p0,v201,v202⟩:=x
  intro st hst
  refine RL_at hst ?_
  clear hst
  refine Qe (Qe (R_G (Qb 3 ?_)))
  refine QG Qh.toD p0.kids (es:=Qh.toDs p0.kids) (Qh.toDs_eq _) ?_
  refine Qb 1 (Qg ?_)
  refine Qx hm (rfl) (fun hm=>?_) (fun hm=>?_)
  ·refine Qs (Qe (Qz (R_G (Qb 4 ?_))))
   obtain ⟨v602,hx,hm⟩:=Qf hm
   refine Y2 6 Qh.toD p0.kids v202 v602 (es:=Qh.toDs p0.kids) (d:=(Qh.ex v602)) (Qh.toDs_eq _) hx (Qh.toD_eq v602) rfl ?_
   refine Qb 1 ?_
   obtain ⟨v603,hx,hm⟩:=Qf hm
   have hq:=Qbn _ _ hx []
   refine Qr hq ?_
   refine QL rfl (fun _=>QfU (k:=.i64) (m:=v201) (n:=v603) rfl (by kernel_rfl) (by kernel_rfl)) ?_
   refine Qb 1 (Qg (R_G (Qb 3 (Qg ?_))))
   exact J0 _ _ hm _ (by kernel_rfl)
  refine QP ?_
  obtain rfl:=Qq hm
  exact ⟨rfl,Qm⟩
 ·intro ZF J0 p0 r0 hm
  unfold Qbb
  intro H
  refine PC_sx (ds:=[(Qh.ex p0)]) (fn:=f57) rfl ?_
  refine Qe (R_G (Qb 2 (Qg (Qe (R_G (Qb 1 (Qg (Qe (Qe (R_G (Qb 1 ?_)))))))))))
  refine Qg (Qz ?_)
  obtain ⟨v601,hs,hm⟩:=Qf hm
  refine QT ?_
  refine RL_use (J0 _ _ hs) (by kernel_rfl) ?_
  clear hs
  intro e s hp
  obtain ⟨rfl,d,rfl⟩:=hp
  refine Qe (R_G (Qb 3 (Qg (Qt ?_))))
  obtain rfl:=Qq hm
  exact ⟨trivial,Qk⟩
theorem J0:∀ x r,ZF x=some r→JZ x r:=g_ref08_Depth_L1.1
theorem Qbn:∀ x r,Xd x=some r→Qbb x r:=g_ref08_Depth_L1.2
mutual
def Zk (x:(Qh × Int × Int)):Option (Int) :=
 match x with
 | (p0,v201,v202) =>
 if v202 < (p0.kids.length:Int) then
  idx p0.kids v202>>=fun v602 =>
  Y0 v602>>=fun (v603:Int) =>
  Zk (p0,(W (v201+v603)),(W (v202+1)))
 else
 some v201
 partial_fixpoint
def Y0 (x:Qh):Option Int :=
 match x with
 | p0 =>
 Zk (p0,(p0.nums.length:Int),0)>>=fun (v601:Int) =>
 some v601
 partial_fixpoint
end
def X7:(Qh × Int × Int)→Int→Prop:=fun x r=>match x with
 | (p0,v201,v202)=>∀ st,prune 1 ((Qw (QD [1,1,0,1,0,0] (QE f58))).bind (env.hint 58).keepAt) st=⟨kp 24 [(1,(.ptr 0 0)),(3,(Qd v201)),(4,(Qd v202))],[(.box [(Qd p0.kind),(Qd p0.fn),(Qd p0.axis),(.dat (strD p0.name)),(.dat (.lst ((List.map Qc) p0.nums))),(.dat (.lst (Qh.toDs p0.kids)))])]⟩ →
  RL prog env (env.hint 58) true (QD [1,1,0,1,0,0] (QE f58)) 1 st (fun e s=>match r with|v601=>e=.exit 0∧∃ d,s=⟨sl d 24 [(3,(Qd v601))],[(.box [(Qd p0.kind),(Qd p0.fn),(Qd p0.axis),(.dat (strD p0.name)),(.dat (.lst ((List.map Qc) p0.nums))),(.dat (.lst (Qh.toDs p0.kids)))])]⟩)
def Qah:Qh→Int→Prop:=fun x r=>match x,r with
 | p0,r0=>∀ H,PC prog env 58 ([(Qh.ex p0)].map .dat) H (Qd r0) H
theorem g_ref08_numbers_L1:(∀ x r,Zk x=some r→X7 x r)∧(∀ x r,Y0 x=some r→Qah x r):=by
 refine Zk.mutual_partial_correctness X7 Qah ?_ ?_
 ·intro Zk Y0 Ji Qbz x r hm
  unfold X7
  obtain ⟨p0,v201,v202⟩:=x
  intro st hst
  refine RL_at hst ?_
  clear hst
  refine Qe (Qe (R_G (Qb 3 ?_)))
  refine QG Qh.toD p0.kids (es:=Qh.toDs p0.kids) (Qh.toDs_eq _) ?_
  refine Qb 1 (Qg ?_)
  refine Qx hm (rfl) (fun hm=>?_) (fun hm=>?_)
  ·refine Qs (Qe (Qz (R_G (Qb 4 ?_))))
   obtain ⟨v602,hx,hm⟩:=Qf hm
   refine Y2 6 Qh.toD p0.kids v202 v602 (es:=Qh.toDs p0.kids) (d:=(Qh.ex v602)) (Qh.toDs_eq _) hx (Qh.toD_eq v602) rfl ?_
   refine Qb 1 ?_
   obtain ⟨v603,hx,hm⟩:=Qf hm
   have hq:=Qbz _ _ hx []
   refine Qr hq ?_
   refine Qb 2 (Qg (R_G (Qb 3 (Qg ?_))))
   exact Ji _ _ hm _ (by kernel_rfl)
  refine QP ?_
  obtain rfl:=Qq hm
  exact ⟨rfl,Qm⟩
 ·intro Zk Ji p0 r0 hm
  unfold Qah
  intro H
  refine PC_sx (ds:=[(Qh.ex p0)]) (fn:=f58) rfl ?_
  refine Qe (R_G (Qb 2 (Qg (Qe (R_G (Qb 2 ?_))))))
  refine QG Qc p0.nums (es:=(List.map Qc) p0.nums) rfl ?_
  refine Qb 1 (Qg (Qe (Qe (R_G (Qb 1 (Qg (Qz ?_)))))))
  obtain ⟨v601,hs,hm⟩:=Qf hm
  refine QT ?_
  refine RL_use (Ji _ _ hs) (by kernel_rfl) ?_
  clear hs
  intro e s hp
  obtain ⟨rfl,d,rfl⟩:=hp
  refine Qe (R_G (Qb 2 (Qg (Qt ?_))))
  obtain rfl:=Qq hm
  exact ⟨trivial,Qk⟩
theorem Ji:∀ x r,Zk x=some r→X7 x r:=g_ref08_numbers_L1.1
theorem Qbz:∀ x r,Y0 x=some r→Qah x r:=g_ref08_numbers_L1.2
def Qbt (x:(Qh × Int)):Option Bool :=
 match x with
 | (p0,p1) =>
 Ja (p0,p1)>>=fun (v1:Int) =>
 (if v1≥0 then
  Xd p0>>=fun (v3:Int) =>
  some (decide (v3≤150))
 else
 some false
 )>>=fun (v2:Bool) =>
 if v2=true then
  Y0 p0>>=fun (v4:Int) =>
  some (decide (v4≤(W (10 * p1))))
 else
 some false
def QeR:(Qh × Int)→Bool→Prop:=fun x r=>match x,r with
 | (p0,p1),r0=>∀ H,PC prog env 32 ([(Qh.ex p0),(Qc p1)].map .dat) H (Qp r0) H
theorem QfT:∀ x r,Qbt x=some r→QeR x r:=by
 intro x r0 hm
 unfold Qbt at hm
 unfold QeR
 obtain ⟨p0,p1⟩:=x
 intro H
 refine PC_sx (ds:=[(Qh.ex p0),(Qc p1)]) (fn:=f32) rfl ?_
 refine Qe (R_G (Qb 2 (Qg (Qe ?_))))
 refine Qdd ?_
 refine Qb 2 ?_
 obtain ⟨v1,hx,hm⟩:=Qf hm
 have hq:=QcV _ _ hx []
 refine Qr hq ?_
 refine Qb 2 ?_
 obtain ⟨v2,hs,hm⟩:=Qf hm
 refine ZS (j:=9) (fun d=>⟨sl d 21 [(1,(Qd p1)),(2,(.ptr 0 0)),(4,(Qp false)),(13,(Qp v2))],[(.box [(Qd p0.kind),(Qd p0.fn),(Qd p0.axis),(.dat (strD p0.name)),(.dat (.lst ((List.map Qc) p0.nums))),(.dat (.lst (Qh.toDs p0.kids)))])]⟩) (fun d=>?_) (fun hJ=>?_)
 ·clear hs
  refine Qb 1 ?_
  refine Qy 14 hm (QC _) (fun hm=>?_) (fun hm=>?_)
  ·refine Qb 1 ?_
   obtain ⟨v4,hx,hm⟩:=Qf hm
   have hq:=Qbz _ _ hx []
   refine Qr hq ?_
   refine Qb 5 ?_
   refine Qg ⟨by kernel_rfl,?_⟩
   refine Qt ?_
   obtain rfl:=Qq hm
   exact ⟨trivial,Qk⟩
  refine Qb 7 ?_
  refine Qg ⟨by kernel_rfl,?_⟩
  refine Qt ?_
  obtain rfl:=Qq hm
  exact ⟨trivial,Qk⟩
 clear hm
 refine Qy 9 hs (rfl) (fun hm=>?_) (fun hm=>?_)
 ·refine Qb 1 ?_
  obtain ⟨v3,hx,hm⟩:=Qf hm
  have hq:=Qbn _ _ hx []
  refine Qr hq ?_
  refine Qb 2 ?_
  obtain rfl:=Qq hm
  exact hJ _ _
 refine Qb 4 ?_
 obtain rfl:=Qq hm
 exact hJ _ _
def QaI (x:Qh):Option Bool :=
 match x with
 | p0 =>
 (if p0.axis≥0 then
  some (decide (p0.axis≤15))
 else
 some false
 )>>=fun (v1:Bool) =>
 if p0.kind=1 then
  (if p0.fn=0 then
   some (p0.axis == (-1))
  else
  some false
  )>>=fun (v2:Bool) =>
  (if v2=true then
   some (decide (p0.name=ByteArray.empty))
  else
  some false
  )>>=fun (v3:Bool) =>
  if v3=true then
   some ((p0.kids.length:Int) == 0)
  else
  some false
 else
 if p0.kind=2 then
  (if p0.fn=0 then
   some (p0.axis == (-1))
  else
  some false
  )>>=fun (v4:Bool) =>
  (if v4=true then
   X5 p0.name>>=fun (v6:Bool) =>
   some v6
  else
  some false
  )>>=fun (v5:Bool) =>
  (if v5=true then
   some ((p0.nums.length:Int) == 0)
  else
  some false
  )>>=fun (v7:Bool) =>
  if v7=true then
   some ((p0.kids.length:Int) == 0)
  else
  some false
 else
 if p0.kind=3 then
  (if p0.name=ByteArray.empty then
   some ((p0.nums.length:Int) == 0)
  else
  some false
  )>>=fun (v8:Bool) =>
  (if v8=true then
   some ((p0.kids.length:Int) == 1)
  else
  some false
  )>>=fun (v9:Bool) =>
  if v9=true then
   (if p0.fn=3 then
    (if p0.axis=(-1) then
     some true
    else
    some v1
    )>>=fun (v11:Bool) =>
    some v11
   else
   some false
   )>>=fun (v10:Bool) =>
   if v10=true then
    some true
   else
   (if p0.fn=4 then
    some true
   else
   some (p0.fn == 6)
   )>>=fun (v12:Bool) =>
   (if v12=true then
    some (p0.axis == (-1))
   else
   some false
   )>>=fun (v13:Bool) =>
   some v13
  else
  some false
 else
 if p0.kind=4 then
  ((if p0.name≠ByteArray.empty then
   some true
  else
  some (decide ((p0.nums.length:Int) > 0))
  )>>=fun (v15:Bool) =>
  (if v15=true then
   some true
  else
  some ((p0.kids.length:Int) != 2)
  )>>=fun (v16:Bool) =>
  (if v16=true then
   some true
  else
  some (decide (p0.fn < 1))
  )>>=fun (v17:Bool) =>
  if v17=true then
   some true
  else
  some (decide (p0.fn > 6))
  )>>=fun (v14:Bool) =>
  if v14=true then
   some false
  else
  (if p0.axis≠(-1) then
   if v1=false then
    some true
   else
   (if p0.fn≠3 then
    some (p0.fn != 6)
   else
   some false
   )>>=fun (v19:Bool) =>
   some v19
  else
  some false
  )>>=fun (v18:Bool) =>
  if v18=true then
   some false
  else
  (if p0.fn=6 then
   some true
  else
  idx p0.kids 0>>=fun v21 =>
  some (v21.kind == 1)
  )>>=fun (v20:Bool) =>
  if v20=true then
   some true
  else
  idx p0.kids 0>>=fun v22 =>
  some (v22.kind == 2)
 else
 some false
def Qez:Qh→Bool→Prop:=fun x r=>match x,r with
 | p0,r0=>∀ H,PC prog env 80 ([(Qh.ex p0)].map .dat) H (Qp r0) H
theorem QfE:∀ x r,QaI x=some r→Qez x r:=by
 intro p0 r0 hm
 unfold QaI at hm
 unfold Qez
 intro H
 refine PC_sx (ds:=[(Qh.ex p0)]) (fn:=f80) rfl ?_
 refine Qe (R_G (Qb 2 (Qg (Qe ?_))))
 obtain ⟨v1,hs,hm⟩:=Qf hm
 refine Q7 (fun d=>⟨sl d 170 [(1,(.ptr 0 0)),(3,(Qp v1))],[(.box [(Qd p0.kind),(Qd p0.fn),(Qd p0.axis),(.dat (strD p0.name)),(.dat (.lst ((List.map Qc) p0.nums))),(.dat (.lst (Qh.toDs p0.kids)))])]⟩) ?_ (fun d=>?_)
 ·replace hm:=hs
  clear hs
  refine R_G (Qb 4 ?_)
  refine Qy 7 hm (rfl) (fun hm=>?_) (fun hm=>?_)
  ·refine Qb 5 (Qg ?_)
   obtain rfl:=Qq hm
   exact Qm
  refine Qb 5 (Qg ?_)
  obtain rfl:=Qq hm
  exact Qm
 clear hs
 refine Qe (Qe (R_G (Qb 2 (Qg (Qz (Qe (R_G (Qb 2 (Qg ?_)))))))))
 refine Qx hm (QO _ _) (fun hm=>?_) (fun hm=>?_)
 ·refine Qe ?_
  refine Qdd ?_
  refine Qb 4 ?_
  obtain ⟨v2,hs,hm⟩:=Qf hm
  refine ZS (j:=8) (fun d=>⟨sl d 170 [(1,(.ptr 0 0)),(23,(Qp v2))],[(.box [(Qd p0.kind),(Qd p0.fn),(Qd p0.axis),(.dat (strD p0.name)),(.dat (.lst ((List.map Qc) p0.nums))),(.dat (.lst (Qh.toDs p0.kids)))])]⟩) (fun d=>?_) (fun hJ=>?_)
  ·clear hs
   refine Qb 1 ?_
   obtain ⟨v3,hs,hm⟩:=Qf hm
   refine ZS (j:=13) (fun d=>⟨sl d 170 [(1,(.ptr 0 0)),(28,(Qp v3))],[(.box [(Qd p0.kind),(Qd p0.fn),(Qd p0.axis),(.dat (strD p0.name)),(.dat (.lst ((List.map Qc) p0.nums))),(.dat (.lst (Qh.toDs p0.kids)))])]⟩) (fun d=>?_) (fun hJ=>?_)
   ·clear hs
    refine Qb 1 ?_
    refine Qy 29 hm (QC _) (fun hm=>?_) (fun hm=>?_)
    ·refine Qb 2 ?_
     refine QG Qh.toD p0.kids (es:=Qh.toDs p0.kids) (Qh.toDs_eq _) ?_
     refine Qb 3 ?_
     refine Qg ⟨by kernel_rfl,?_⟩
     refine Qt ?_
     obtain rfl:=Qq hm
     exact ⟨trivial,Qk⟩
    refine Qb 6 ?_
    refine Qg ⟨by kernel_rfl,?_⟩
    refine Qt ?_
    obtain rfl:=Qq hm
    exact ⟨trivial,Qk⟩
   clear hm
   refine Qy 24 hs (QC _) (fun hm=>?_) (fun hm=>?_)
   ·refine Qb 2 ?_
    refine QL rfl (fun _=>Qdw (a:=p0.name) (b:=ByteArray.empty) rfl (by kernel_rfl) (by kernel_rfl)) ?_
    refine Qb 1 ?_
    obtain rfl:=Qq hm
    exact hJ _ _
   refine Qb 4 ?_
   obtain rfl:=Qq hm
   exact hJ _ _
  clear hm
  refine Qy 19 hs (QO _ _) (fun hm=>?_) (fun hm=>?_)
  ·refine Qb 4 ?_
   obtain rfl:=Qq hm
   exact hJ _ _
  refine Qb 4 ?_
  obtain rfl:=Qq hm
  exact hJ _ _
 refine Qe (R_G (Qb 2 (Qg ?_)))
 refine Qx hm (QO _ _) (fun hm=>?_) (fun hm=>?_)
 ·refine Qe ?_
  refine Qdd ?_
  refine Qb 4 ?_
  obtain ⟨v4,hs,hm⟩:=Qf hm
  refine ZS (j:=8) (fun d=>⟨sl d 170 [(1,(.ptr 0 0)),(44,(Qp v4))],[(.box [(Qd p0.kind),(Qd p0.fn),(Qd p0.axis),(.dat (strD p0.name)),(.dat (.lst ((List.map Qc) p0.nums))),(.dat (.lst (Qh.toDs p0.kids)))])]⟩) (fun d=>?_) (fun hJ=>?_)
  ·clear hs
   refine Qb 1 ?_
   obtain ⟨v5,hs,hm⟩:=Qf hm
   refine ZS (j:=13) (fun d=>⟨sl d 170 [(1,(.ptr 0 0)),(49,(Qp v5))],[(.box [(Qd p0.kind),(Qd p0.fn),(Qd p0.axis),(.dat (strD p0.name)),(.dat (.lst ((List.map Qc) p0.nums))),(.dat (.lst (Qh.toDs p0.kids)))])]⟩) (fun d=>?_) (fun hJ=>?_)
   ·clear hs
    refine Qb 1 ?_
    obtain ⟨v7,hs,hm⟩:=Qf hm
    refine ZS (j:=19) (fun d=>⟨sl d 170 [(1,(.ptr 0 0)),(55,(Qp v7))],[(.box [(Qd p0.kind),(Qd p0.fn),(Qd p0.axis),(.dat (strD p0.name)),(.dat (.lst ((List.map Qc) p0.nums))),(.dat (.lst (Qh.toDs p0.kids)))])]⟩) (fun d=>?_) (fun hJ=>?_)
    ·clear hs
     refine Qb 1 ?_
     refine Qy 56 hm (QC _) (fun hm=>?_) (fun hm=>?_)
     ·refine Qb 2 ?_
      refine QG Qh.toD p0.kids (es:=Qh.toDs p0.kids) (Qh.toDs_eq _) ?_
      refine Qb 3 ?_
      refine Qg ⟨by kernel_rfl,?_⟩
      refine Qt ?_
      obtain rfl:=Qq hm
      exact ⟨trivial,Qk⟩
     refine Qb 6 ?_
     refine Qg ⟨by kernel_rfl,?_⟩
     refine Qt ?_
     obtain rfl:=Qq hm
     exact ⟨trivial,Qk⟩
    clear hm
    refine Qy 50 hs (QC _) (fun hm=>?_) (fun hm=>?_)
    ·refine Qb 2 ?_
     refine QG Qc p0.nums (es:=(List.map Qc) p0.nums) rfl ?_
     refine Qb 2 ?_
     obtain rfl:=Qq hm
     exact hJ _ _
    refine Qb 5 ?_
    obtain rfl:=Qq hm
    exact hJ _ _
   clear hm
   refine Qy 45 hs (QC _) (fun hm=>?_) (fun hm=>?_)
   ·refine Qb 2 ?_
    obtain ⟨v6,hx,hm⟩:=Qf hm
    have hq:=Qet _ _ hx []
    refine Qr hq ?_
    refine Qb 1 ?_
    obtain rfl:=Qq hm
    exact hJ _ _
   refine Qb 4 ?_
   obtain rfl:=Qq hm
   exact hJ _ _
  clear hm
  refine Qy 40 hs (QO _ _) (fun hm=>?_) (fun hm=>?_)
  ·refine Qb 4 ?_
   obtain rfl:=Qq hm
   exact hJ _ _
  refine Qb 4 ?_
  obtain rfl:=Qq hm
  exact hJ _ _
 refine Qe (R_G (Qb 2 (Qg ?_)))
 refine Qx hm (QO _ _) (fun hm=>?_) (fun hm=>?_)
 ·refine Qe ?_
  refine Qdd ?_
  refine Qb 2 ?_
  refine QL rfl (fun _=>Qdw (a:=p0.name) (b:=ByteArray.empty) rfl (by kernel_rfl) (by kernel_rfl)) ?_
  refine Qb 1 ?_
  obtain ⟨v8,hs,hm⟩:=Qf hm
  refine ZS (j:=9) (fun d=>⟨sl d 170 [(1,(.ptr 0 0)),(3,(Qp v1)),(72,(Qp v8))],[(.box [(Qd p0.kind),(Qd p0.fn),(Qd p0.axis),(.dat (strD p0.name)),(.dat (.lst ((List.map Qc) p0.nums))),(.dat (.lst (Qh.toDs p0.kids)))])]⟩) (fun d=>?_) (fun hJ=>?_)
  ·clear hs
   refine Qb 1 ?_
   obtain ⟨v9,hs,hm⟩:=Qf hm
   refine ZS (j:=15) (fun d=>⟨sl d 170 [(1,(.ptr 0 0)),(3,(Qp v1)),(78,(Qp v9))],[(.box [(Qd p0.kind),(Qd p0.fn),(Qd p0.axis),(.dat (strD p0.name)),(.dat (.lst ((List.map Qc) p0.nums))),(.dat (.lst (Qh.toDs p0.kids)))])]⟩) (fun d=>?_) (fun hJ=>?_)
   ·clear hs
    refine Qb 1 ?_
    refine Qy 79 hm (QC _) (fun hm=>?_) (fun hm=>?_)
    ·refine Qb 4 ?_
     obtain ⟨v10,hs,hm⟩:=Qf hm
     refine ZS (j:=27) (fun d=>⟨sl d 170 [(1,(.ptr 0 0)),(79,(Qp true)),(90,(Qp v10))],[(.box [(Qd p0.kind),(Qd p0.fn),(Qd p0.axis),(.dat (strD p0.name)),(.dat (.lst ((List.map Qc) p0.nums))),(.dat (.lst (Qh.toDs p0.kids)))])]⟩) (fun d=>?_) (fun hJ=>?_)
     ·clear hs
      refine Qb 1 ?_
      refine Qy 91 hm (QC _) (fun hm=>?_) (fun hm=>?_)
      ·refine Qb 16 ?_
       refine Qg ⟨by kernel_rfl,?_⟩
       refine Qt ?_
       obtain rfl:=Qq hm
       exact ⟨trivial,Qk⟩
      refine Qb 4 ?_
      obtain ⟨v12,hs,hm⟩:=Qf hm
      refine ZS (j:=36) (fun d=>⟨sl d 170 [(1,(.ptr 0 0)),(79,(Qp true)),(91,(Qp false)),(99,(Qp v12))],[(.box [(Qd p0.kind),(Qd p0.fn),(Qd p0.axis),(.dat (strD p0.name)),(.dat (.lst ((List.map Qc) p0.nums))),(.dat (.lst (Qh.toDs p0.kids)))])]⟩) (fun d=>?_) (fun hJ=>?_)
      ·clear hs
       refine Qb 1 ?_
       obtain ⟨v13,hs,hm⟩:=Qf hm
       refine ZS (j:=41) (fun d=>⟨sl d 170 [(79,(Qp true)),(91,(Qp false)),(104,(Qp v13))],[(.box [(Qd p0.kind),(Qd p0.fn),(Qd p0.axis),(.dat (strD p0.name)),(.dat (.lst ((List.map Qc) p0.nums))),(.dat (.lst (Qh.toDs p0.kids)))])]⟩) (fun d=>?_) (fun hJ=>?_)
       ·clear hs
        refine Qb 3 ?_
        refine Qg ⟨by kernel_rfl,?_⟩
        refine Qt ?_
        obtain rfl:=Qq hm
        exact ⟨trivial,Qk⟩
       clear hm
       refine Qy 100 hs (QC _) (fun hm=>?_) (fun hm=>?_)
       ·refine Qb 4 ?_
        obtain rfl:=Qq hm
        exact hJ _ _
       refine Qb 4 ?_
       obtain rfl:=Qq hm
       exact hJ _ _
      clear hm
      refine Qy 95 hs (QO _ _) (fun hm=>?_) (fun hm=>?_)
      ·refine Qb 4 ?_
       obtain rfl:=Qq hm
       exact hJ _ _
      refine Qb 4 ?_
      obtain rfl:=Qq hm
      exact hJ _ _
     clear hm
     refine Qy 83 hs (QO _ _) (fun hm=>?_) (fun hm=>?_)
     ·refine Qb 4 ?_
      obtain ⟨v11,hs,hm⟩:=Qf hm
      refine ZS (j:=26) (fun d=>⟨sl d 170 [(1,(.ptr 0 0)),(79,(Qp true)),(83,(Qp true)),(89,(Qp v11))],[(.box [(Qd p0.kind),(Qd p0.fn),(Qd p0.axis),(.dat (strD p0.name)),(.dat (.lst ((List.map Qc) p0.nums))),(.dat (.lst (Qh.toDs p0.kids)))])]⟩) (fun d=>?_) (fun hJ=>?_)
      ·clear hs
       refine Qb 1 ?_
       obtain rfl:=Qq hm
       exact hJ _ _
      clear hm
      refine Qy 87 hs (QO _ _) (fun hm=>?_) (fun hm=>?_)
      ·refine Qb 2 ?_
       obtain rfl:=Qq hm
       exact hJ _ _
      refine Qb 2 ?_
      obtain rfl:=Qq hm
      exact hJ _ _
     refine Qb 7 ?_
     obtain rfl:=Qq hm
     exact hJ _ _
    refine Qb 28 ?_
    refine Qg ⟨by kernel_rfl,?_⟩
    refine Qt ?_
    obtain rfl:=Qq hm
    exact ⟨trivial,Qk⟩
   clear hm
   refine Qy 73 hs (QC _) (fun hm=>?_) (fun hm=>?_)
   ·refine Qb 2 ?_
    refine QG Qh.toD p0.kids (es:=Qh.toDs p0.kids) (Qh.toDs_eq _) ?_
    refine Qb 2 ?_
    obtain rfl:=Qq hm
    exact hJ _ _
   refine Qb 5 ?_
   obtain rfl:=Qq hm
   exact hJ _ _
  clear hm
  refine Qy 67 hs (rfl) (fun hm=>?_) (fun hm=>?_)
  ·refine Qb 2 ?_
   refine QG Qc p0.nums (es:=(List.map Qc) p0.nums) rfl ?_
   refine Qb 2 ?_
   obtain rfl:=Qq hm
   exact hJ _ _
  refine Qb 5 ?_
  obtain rfl:=Qq hm
  exact hJ _ _
 refine Qe (R_G (Qb 2 (Qg ?_)))
 refine Qx hm (QO _ _) (fun hm=>?_) (fun hm=>?_)
 ·refine Qe (Qe ?_)
  obtain ⟨v14,hs,hm⟩:=Qf hm
  refine Q7 (fun d=>⟨sl d 170 [(1,(.ptr 0 0)),(3,(Qp v1)),(133,(Qp v14))],[(.box [(Qd p0.kind),(Qd p0.fn),(Qd p0.axis),(.dat (strD p0.name)),(.dat (.lst ((List.map Qc) p0.nums))),(.dat (.lst (Qh.toDs p0.kids)))])]⟩) ?_ (fun d=>?_)
  ·replace hm:=hs
   clear hs
   refine Qdd ?_
   refine Qb 2 ?_
   refine QL rfl (fun _=>QfM (a:=p0.name) (b:=ByteArray.empty) rfl (by kernel_rfl) (by kernel_rfl)) ?_
   refine Qb 1 ?_
   obtain ⟨v15,hs,hm⟩:=Qf hm
   refine ZS (j:=9) (fun d=>⟨sl d 170 [(1,(.ptr 0 0)),(3,(Qp v1)),(117,(Qp v15))],[(.box [(Qd p0.kind),(Qd p0.fn),(Qd p0.axis),(.dat (strD p0.name)),(.dat (.lst ((List.map Qc) p0.nums))),(.dat (.lst (Qh.toDs p0.kids)))])]⟩) (fun d=>?_) (fun hJ=>?_)
   ·clear hs
    refine Qb 1 ?_
    obtain ⟨v16,hs,hm⟩:=Qf hm
    refine ZS (j:=15) (fun d=>⟨sl d 170 [(1,(.ptr 0 0)),(3,(Qp v1)),(123,(Qp v16))],[(.box [(Qd p0.kind),(Qd p0.fn),(Qd p0.axis),(.dat (strD p0.name)),(.dat (.lst ((List.map Qc) p0.nums))),(.dat (.lst (Qh.toDs p0.kids)))])]⟩) (fun d=>?_) (fun hJ=>?_)
    ·clear hs
     refine Qb 1 ?_
     obtain ⟨v17,hs,hm⟩:=Qf hm
     refine ZS (j:=20) (fun d=>⟨sl d 170 [(1,(.ptr 0 0)),(3,(Qp v1)),(128,(Qp v17))],[(.box [(Qd p0.kind),(Qd p0.fn),(Qd p0.axis),(.dat (strD p0.name)),(.dat (.lst ((List.map Qc) p0.nums))),(.dat (.lst (Qh.toDs p0.kids)))])]⟩) (fun d=>?_) (fun hJ=>?_)
     ·clear hs
      refine Qb 1 ?_
      refine Qy 129 hm (QC _) (fun hm=>?_) (fun hm=>?_)
      ·refine Qb 4 ?_
       refine Qg ⟨by kernel_rfl,?_⟩
       obtain rfl:=Qq hm
       exact Qm
      refine Qb 4 ?_
      refine Qg ⟨by kernel_rfl,?_⟩
      obtain rfl:=Qq hm
      exact Qm
     clear hm
     refine Qy 124 hs (QC _) (fun hm=>?_) (fun hm=>?_)
     ·refine Qb 4 ?_
      obtain rfl:=Qq hm
      exact hJ _ _
     refine Qb 4 ?_
     obtain rfl:=Qq hm
     exact hJ _ _
    clear hm
    refine Qy 118 hs (QC _) (fun hm=>?_) (fun hm=>?_)
    ·refine Qb 5 ?_
     obtain rfl:=Qq hm
     exact hJ _ _
    refine Qb 2 ?_
    refine QG Qh.toD p0.kids (es:=Qh.toDs p0.kids) (Qh.toDs_eq _) ?_
    refine Qb 2 ?_
    obtain rfl:=Qq hm
    exact hJ _ _
   clear hm
   refine Qy 112 hs (rfl) (fun hm=>?_) (fun hm=>?_)
   ·refine Qb 5 ?_
    obtain rfl:=Qq hm
    exact hJ _ _
   refine Qb 2 ?_
   refine QG Qc p0.nums (es:=(List.map Qc) p0.nums) rfl ?_
   refine Qb 2 ?_
   obtain rfl:=Qq hm
   exact hJ _ _
  clear hs
  refine Qx hm (QC _) (fun hm=>?_) (fun hm=>?_)
  ·refine Qe (R_G (Qb 1 (Qg (Qt ?_))))
   obtain rfl:=Qq hm
   exact ⟨trivial,Qk⟩
  refine Qs (Qe (Qe ?_))
  obtain ⟨v18,hs,hm⟩:=Qf hm
  refine Q7 (fun d=>⟨sl d 170 [(1,(.ptr 0 0)),(150,(Qp v18))],[(.box [(Qd p0.kind),(Qd p0.fn),(Qd p0.axis),(.dat (strD p0.name)),(.dat (.lst ((List.map Qc) p0.nums))),(.dat (.lst (Qh.toDs p0.kids)))])]⟩) ?_ (fun d=>?_)
  ·replace hm:=hs
   clear hs
   refine Qdd ?_
   refine Qb 4 ?_
   refine Qy 137 hm (ne_dec _ _) (fun hm=>?_) (fun hm=>?_)
   ·refine Qb 3 ?_
    refine Qy 140 hm (ZL _) (fun hm=>?_) (fun hm=>?_)
    ·refine Qb 10 ?_
     refine Qg ⟨by kernel_rfl,?_⟩
     obtain rfl:=Qq hm
     exact Qm
    refine Qb 4 ?_
    obtain ⟨v19,hs,hm⟩:=Qf hm
    refine ZS (j:=15) (fun d=>⟨sl d 170 [(1,(.ptr 0 0)),(137,(Qp true)),(140,(Qp false)),(148,(Qp v19))],[(.box [(Qd p0.kind),(Qd p0.fn),(Qd p0.axis),(.dat (strD p0.name)),(.dat (.lst ((List.map Qc) p0.nums))),(.dat (.lst (Qh.toDs p0.kids)))])]⟩) (fun d=>?_) (fun hJ=>?_)
    ·clear hs
     refine Qb 2 ?_
     refine Qg ⟨by kernel_rfl,?_⟩
     obtain rfl:=Qq hm
     exact Qm
    clear hm
    refine Qy 144 hs (ne_dec _ _) (fun hm=>?_) (fun hm=>?_)
    ·refine Qb 4 ?_
     obtain rfl:=Qq hm
     exact hJ _ _
    refine Qb 4 ?_
    obtain rfl:=Qq hm
    exact hJ _ _
   refine Qb 13 ?_
   refine Qg ⟨by kernel_rfl,?_⟩
   obtain rfl:=Qq hm
   exact Qm
  clear hs
  refine Qx hm (QC _) (fun hm=>?_) (fun hm=>?_)
  ·refine Qe (R_G (Qb 1 (Qg (Qt ?_))))
   obtain rfl:=Qq hm
   exact ⟨trivial,Qk⟩
  refine Qs (Qe ?_)
  refine Qdd ?_
  refine Qb 4 ?_
  obtain ⟨v20,hs,hm⟩:=Qf hm
  refine ZS (j:=11) (fun d=>⟨sl d 170 [(1,(.ptr 0 0)),(161,(Qp v20))],[(.box [(Qd p0.kind),(Qd p0.fn),(Qd p0.axis),(.dat (strD p0.name)),(.dat (.lst ((List.map Qc) p0.nums))),(.dat (.lst (Qh.toDs p0.kids)))])]⟩) (fun d=>?_) (fun hJ=>?_)
  ·clear hs
   refine Qb 1 ?_
   refine Qy 162 hm (QC _) (fun hm=>?_) (fun hm=>?_)
   ·refine Qb 8 ?_
    refine Qg ⟨by kernel_rfl,?_⟩
    refine Qt ?_
    obtain rfl:=Qq hm
    exact ⟨trivial,Qk⟩
   refine Qb 2 ?_
   obtain ⟨v22,hx,hm⟩:=Qf hm
   refine Y2 6 Qh.toD p0.kids 0 v22 (es:=Qh.toDs p0.kids) (d:=(Qh.ex v22)) (Qh.toDs_eq _) hx (Qh.toD_eq v22) rfl ?_
   refine Qb 5 ?_
   refine Qg ⟨by kernel_rfl,?_⟩
   refine Qt ?_
   obtain rfl:=Qq hm
   exact ⟨trivial,Qk⟩
  clear hm
  refine Qy 154 hs (QO _ _) (fun hm=>?_) (fun hm=>?_)
  ·refine Qb 7 ?_
   obtain rfl:=Qq hm
   exact hJ _ _
  refine Qb 2 ?_
  obtain ⟨v21,hx,hm⟩:=Qf hm
  refine Y2 6 Qh.toD p0.kids 0 v21 (es:=Qh.toDs p0.kids) (d:=(Qh.ex v21)) (Qh.toDs_eq _) hx (Qh.toD_eq v21) rfl ?_
  refine Qb 4 ?_
  obtain rfl:=Qq hm
  exact hJ _ _
 refine Qs (Qe (R_G (Qb 1 (Qg (Qt ?_)))))
 obtain rfl:=Qq hm
 exact ⟨trivial,Qk⟩
mutual
def ZE (x:(Qh × Int)):Option (Unit ⊕ Unit) :=
 match x with
 | (p0,v202) =>
 if v202 < (p0.kids.length:Int) then
  idx p0.kids v202>>=fun v602 =>
  XE v602>>=fun (v603:Bool) =>
  if v603=false then
   some (Sum.inl ())
  else
  ZE (p0,(W (v202+1)))
 else
 some (Sum.inr ())
 partial_fixpoint
def XE (x:Qh):Option Bool :=
 match x with
 | p0 =>
 QaI p0>>=fun (v1:Bool) =>
 if v1=false then
  some false
 else
 (
 ZE (p0,0)>>=fun (out:Unit ⊕ Unit) =>
 match out with
 | .inl _ =>
  some false
 | .inr (_) =>
  some true
 )
 partial_fixpoint
end
def JS:(Qh × Int)→(Unit ⊕ Unit)→Prop:=fun x r=>match x with
 | (p0,v202)=>∀ st,prune 1 ((Qw (QD [1,1,0,1,0,0] (QE f59))).bind (env.hint 59).keepAt) st=⟨kp 21 [(1,(.ptr 0 0)),(3,(Qd v202))],[(.box [(Qd p0.kind),(Qd p0.fn),(Qd p0.axis),(.dat (strD p0.name)),(.dat (.lst ((List.map Qc) p0.nums))),(.dat (.lst (Qh.toDs p0.kids)))])]⟩ →
  RL prog env (env.hint 59) true (QD [1,1,0,1,0,0] (QE f59)) 1 st (fun e s=>match r with|.inl _=>e=.ret∧∃ d,s=⟨sl d 21 [(2,(Qp false))],[(.box [(Qd p0.kind),(Qd p0.fn),(Qd p0.axis),(.dat (strD p0.name)),(.dat (.lst ((List.map Qc) p0.nums))),(.dat (.lst (Qh.toDs p0.kids)))])]⟩|.inr (_)=>e=.exit 0∧∃ d,s=⟨sl d 21 [],[(.box [(Qd p0.kind),(Qd p0.fn),(Qd p0.axis),(.dat (strD p0.name)),(.dat (.lst ((List.map Qc) p0.nums))),(.dat (.lst (Qh.toDs p0.kids)))])]⟩)
def Qbi:Qh→Bool→Prop:=fun x r=>match x,r with
 | p0,r0=>∀ H,PC prog env 59 ([(Qh.ex p0)].map .dat) H (Qp r0) H
theorem g_ref08_nodes_L1:(∀ x r,ZE x=some r→JS x r)∧(∀ x r,XE x=some r→Qbi x r):=by
 refine ZE.mutual_partial_correctness JS Qbi ?_ ?_
 ·intro ZE XE XT Qcr x r hm
  unfold JS
  obtain ⟨p0,v202⟩:=x
  intro st hst
  refine RL_at hst ?_
  clear hst
  refine Qe (Qe (R_G (Qb 3 ?_)))
  refine QG Qh.toD p0.kids (es:=Qh.toDs p0.kids) (Qh.toDs_eq _) ?_
  refine Qb 1 (Qg ?_)
  refine Qx hm (rfl) (fun hm=>?_) (fun hm=>?_)
  ·refine Qs (Qe (Qz (Qe (R_G (Qb 3 ?_)))))
   obtain ⟨v602,hx,hm⟩:=Qf hm
   refine Y2 6 Qh.toD p0.kids v202 v602 (es:=Qh.toDs p0.kids) (d:=(Qh.ex v602)) (Qh.toDs_eq _) hx (Qh.toD_eq v602) rfl ?_
   refine Qb 1 ?_
   obtain ⟨v603,hx,hm⟩:=Qf hm
   have hq:=Qcr _ _ hx []
   refine Qr hq ?_
   refine Qb 1 (Qg ?_)
   refine Qx hm (ZL _) (fun hm=>?_) (fun hm=>?_)
   ·refine Qe (R_G (Qb 1 (Qg (Qt ?_))))
    obtain rfl:=Qq hm
    exact ⟨rfl,Qm⟩
   refine Qs (R_G (Qb 3 (Qg ?_)))
   exact XT _ _ hm _ (by kernel_rfl)
  refine QP ?_
  obtain rfl:=Qq hm
  exact ⟨rfl,Qm⟩
 ·intro ZE XT p0 r0 hm
  unfold Qbi
  intro H
  refine PC_sx (ds:=[(Qh.ex p0)]) (fn:=f59) rfl ?_
  refine Qe (R_G (Qb 2 (Qg (Qe (Qe (R_G (Qb 1 ?_)))))))
  obtain ⟨v1,hx,hm⟩:=Qf hm
  have hq:=QfE _ _ hx []
  refine Qr hq ?_
  refine Qb 1 (Qg ?_)
  refine Qx hm (ZL _) (fun hm=>?_) (fun hm=>?_)
  ·refine Qe (R_G (Qb 1 (Qg (Qt ?_))))
   obtain rfl:=Qq hm
   exact ⟨trivial,Qk⟩
  refine Qs (Qe (Qe (R_G (Qb 1 (Qg (Qz ?_))))))
  obtain ⟨out,hs,hm⟩:=Qf hm
  refine QT ?_
  rcases out with _|_
  ·refine RL_use (XT _ _ hs) (by kernel_rfl) ?_
   clear hs
   intro e s hp
   obtain ⟨rfl,d,rfl⟩:=hp
   obtain rfl:=Qq hm
   exact ⟨trivial,Qk⟩
  ·refine RL_use (XT _ _ hs) (by kernel_rfl) ?_
   clear hs
   intro e s hp
   obtain ⟨rfl,d,rfl⟩:=hp
   refine Qe (R_G (Qb 1 (Qg (Qt ?_))))
   obtain rfl:=Qq hm
   exact ⟨trivial,Qk⟩
theorem XT:∀ x r,ZE x=some r→JS x r:=g_ref08_nodes_L1.1
theorem Qcr:∀ x r,XE x=some r→Qbi x r:=g_ref08_nodes_L1.2
def Qab (x:Qh):Option Bool :=
 match x with
 | p0 =>
 Xd p0>>=fun (v1:Int) =>
 if v1≤100 then
  XE p0>>=fun (v2:Bool) =>
  some v2
 else
 some false
def Qed:Qh→Bool→Prop:=fun x r=>match x,r with
 | p0,r0=>∀ H,PC prog env 33 ([(Qh.ex p0)].map .dat) H (Qp r0) H
theorem Qft:∀ x r,Qab x=some r→Qed x r:=by
 intro p0 r0 hm
 unfold Qab at hm
 unfold Qed
 intro H
 refine PC_sx (ds:=[(Qh.ex p0)]) (fn:=f33) rfl ?_
 refine Qe (R_G (Qb 2 (Qg (Qe (R_G (Qb 1 ?_))))))
 obtain ⟨v1,hx,hm⟩:=Qf hm
 have hq:=Qbn _ _ hx []
 refine Qr hq ?_
 refine Qb 2 ?_
 refine Qy 6 hm (rfl) (fun hm=>?_) (fun hm=>?_)
 ·refine Qb 1 ?_
  obtain ⟨v2,hx,hm⟩:=Qf hm
  have hq:=Qcr _ _ hx []
  refine Qr hq ?_
  refine Qb 2 (Qg (Qt ?_))
  obtain rfl:=Qq hm
  exact ⟨trivial,Qk⟩
 refine Qb 4 (Qg (Qt ?_))
 obtain rfl:=Qq hm
 exact ⟨trivial,Qk⟩
def J8 (x:(Qh × Int)):Option Bool :=
 match x with
 | (p0,p1) =>
 Qbt (p0,p1)>>=fun (v1:Bool) =>
 if v1=true then
  Qab p0>>=fun (v2:Bool) =>
  some v2
 else
 some false
def QdX:(Qh × Int)→Bool→Prop:=fun x r=>match x,r with
 | (p0,p1),r0=>∀ H,PC prog env 14 ([(Qh.ex p0),(Qc p1)].map .dat) H (Qp r0) H
theorem Qfy:∀ x r,J8 x=some r→QdX x r:=by
 intro x r0 hm
 unfold J8 at hm
 unfold QdX
 obtain ⟨p0,p1⟩:=x
 intro H
 refine PC_sx (ds:=[(Qh.ex p0),(Qc p1)]) (fn:=f14) rfl ?_
 refine Qe (R_G (Qb 2 (Qg (Qe (R_G (Qb 2 ?_))))))
 obtain ⟨v1,hx,hm⟩:=Qf hm
 have hq:=QfT _ _ hx []
 refine Qr hq ?_
 refine Qb 1 ?_
 refine Qy 8 hm (QC _) (fun hm=>?_) (fun hm=>?_)
 ·refine Qb 1 ?_
  obtain ⟨v2,hx,hm⟩:=Qf hm
  have hq:=Qft _ _ hx []
  refine Qr hq ?_
  refine Qb 2 (Qg (Qt ?_))
  obtain rfl:=Qq hm
  exact ⟨trivial,Qk⟩
 refine Qb 4 (Qg (Qt ?_))
 obtain rfl:=Qq hm
 exact ⟨trivial,Qk⟩
def YT (x:((List Qn) × ByteArray × Int)):Option (((List Int) × (List Int)) ⊕ Unit) :=
 match x with
 | (p0,p1,v201) =>
 if v201 < (p0.length:Int) then
  idx p0 v201>>=fun v603 =>
  if v603.name=p1 then
   idx p0 v201>>=fun v604 =>
   some (Sum.inl (v604.value.shape,v604.value.data))
  else
  YT (p0,p1,(W (v201+1)))
 else
 some (Sum.inr ())
 partial_fixpoint
def Qdn:((List Qn) × ByteArray × Int)→(((List Int) × (List Int)) ⊕ Unit)→Prop:=fun x r=>match x with
 | (p0,p1,v201)=>∀ st,prune 1 ((Qw (QD [1,0,1,0,0] (QE f81))).bind (env.hint 81).keepAt) st=⟨kp 26 [(0,(.dat (.lst ((List.map Qn.toD) p0)))),(1,(.dat (strD p1))),(4,(.ptr 0 0)),(6,(Qd v201))],[(.box [(.dat (.lst ((List.map Qc) []))),(.dat (.lst ((List.map Qc) [])))])]⟩ →
  RL prog env (env.hint 81) true (QD [1,0,1,0,0] (QE f81)) 1 st (fun e s=>match r with|.inl (v601,v602)=>e=.ret∧∃ d,s=⟨sl d 26 [(4,(.ptr 0 0)),(5,(Qp true))],[(.box [(.dat (.lst ((List.map Qc) v601))),(.dat (.lst ((List.map Qc) v602)))])]⟩|.inr (_)=>e=.exit 0∧∃ d,s=⟨sl d 26 [(4,(.ptr 0 0))],[(.box [(.dat (.lst ((List.map Qc) []))),(.dat (.lst ((List.map Qc) [])))])]⟩)
theorem QaO:∀ x r,YT x=some r→Qdn x r:=by
 refine YT.partial_correctness _ (fun YT QaO x r hm=>?_)
 unfold Qdn
 obtain ⟨p0,p1,v201⟩:=x
 intro st hst
 refine RL_at hst ?_
 clear hst
 refine Qe (Qe (R_G (Qb 2 ?_)))
 refine QG Qn.toD p0 (es:=(List.map Qn.toD) p0) rfl ?_
 refine Qb 1 (Qg ?_)
 refine Qx hm (rfl) (fun hm=>?_) (fun hm=>?_)
 ·refine Qs (Qe (Qz (Qe (R_G (Qb 2 ?_)))))
  refine QF 3 Qn.toD hm rfl (fun _=>rfl) (fun v603 hm=>?_)
  refine Qb 3 ?_
  refine QL rfl (fun _=>Qdw (a:=v603.name) (b:=p1) rfl (by kernel_rfl) (by kernel_rfl)) ?_
  refine Qg ?_
  refine Qx hm (rfl) (fun hm=>?_) (fun hm=>?_)
  ·refine Qe (R_G (Qb 2 ?_))
   refine QF 3 Qn.toD hm rfl (fun _=>rfl) (fun v604 hm=>?_)
   refine Qb 4 (Qg (Qt ?_))
   obtain rfl:=Qq hm
   exact ⟨rfl,Qm⟩
  refine Qs (R_G (Qb 3 (Qg ?_)))
  exact QaO _ _ hm _ (by kernel_rfl)
 refine QP ?_
 obtain rfl:=Qq hm
 exact ⟨rfl,Qm⟩
def Qaw (x:((List Qn) × ByteArray)):Option (Qo × Bool) :=
 match x with
 | (p0,p1) =>
 (
 YT (p0,p1,0)>>=fun (out:((List Int) × (List Int)) ⊕ Unit) =>
 match out with
 | .inl (v601,v602) =>
  some ((⟨v601,v602⟩:Qo),true)
 | .inr (_) =>
  some ((⟨([]:(List Int)),([]:(List Int))⟩:Qo),false)
 )
def QeS:((List Qn) × ByteArray)→(Qo × Bool)→Prop:=fun x r=>match x,r with
 | (p0,p1),(r0,r1)=>∀ H,PC prog env 81 ([(.lst ((List.map Qn.toD) p0)),(strD p1)].map .dat) H (.tup [(.dat (Qo.toD r0)),(Qp r1)]) H
theorem Qe5:∀ x r,Qaw x=some r→QeS x r:=by
 intro x r hm
 unfold Qaw at hm
 unfold QeS
 obtain ⟨p0,p1⟩:=x
 obtain ⟨r0,r1⟩:=r
 intro H
 refine PC_sx (ds:=[(.lst ((List.map Qn.toD) p0)),(strD p1)]) (fn:=f81) rfl ?_
 refine Qe (R_G (Qb 2 (Qg (Qe (Qe (R_G (Qb 1 (Qg (Qz ?_)))))))))
 obtain ⟨out,hs,hm⟩:=Qf hm
 refine QT ?_
 rcases out with ⟨v601,v602⟩|_
 ·refine RL_use (QaO _ _ hs) (by kernel_rfl) ?_
  clear hs
  intro e s hp
  obtain ⟨rfl,d,rfl⟩:=hp
  obtain ⟨rfl,rfl⟩:=Zn hm
  exact ⟨trivial,Qk⟩
 ·refine RL_use (QaO _ _ hs) (by kernel_rfl) ?_
  clear hs
  intro e s hp
  obtain ⟨rfl,d,rfl⟩:=hp
  refine Qe (R_G (Qb 3 (Qg (Qt ?_))))
  obtain ⟨rfl,rfl⟩:=Zn hm
  exact ⟨trivial,Qk⟩
def Yk (x:((List Ql) × Ql × Int × Int)):Option (Int) :=
 match x with
 | (p0,p1,v201,v202) =>
 if v202 < (p0.length:Int) then
  (if p1.name≠ByteArray.empty then
   idx p0 v202>>=fun v603 =>
   some (decide (v603.name=p1.name))
  else
  some false
  )>>=fun (v602:Bool) =>
  if v602=true then
   Yk (p0,p1,v202,(W (v202+1)))
  else
  Yk (p0,p1,v201,(W (v202+1)))
 else
 some v201
 partial_fixpoint
def Qc5:((List Ql) × Ql × Int × Int)→Int→Prop:=fun x r=>match x with
 | (p0,p1,v201,v202)=>∀ st,prune 2 ((Qw (QD [1,1,0,1,0,0] (QE f82))).bind (env.hint 82).keepAt) st=⟨kp 46 [(0,(.dat (.lst ((List.map Ql.toD) p0)))),(3,(.ptr 0 0)),(4,(.ptr 1 0)),(6,(Qd v201)),(7,(Qd v202))],[(.box [(.dat (strD p1.name)),(.dat (.lst ((List.map Qc) p1.value.shape))),(.dat (.lst ((List.map Qc) p1.value.data)))]),(.box [(Qd 0),(.dat (.lst ((List.map Qc) []))),(Qd 0),(.dat (.lst ((List.map Qc) []))),(Qd 0),(Qd 0),(.dat (.lst ((List.map Qc) []))),(.dat (.lst (Qa.toDs [])))])]⟩ →
  RL prog env (env.hint 82) true (QD [1,1,0,1,0,0] (QE f82)) 2 st (fun e s=>match r with|v601=>e=.exit 0∧∃ d,s=⟨sl d 46 [(0,(.dat (.lst ((List.map Ql.toD) p0)))),(3,(.ptr 0 0)),(4,(.ptr 1 0)),(6,(Qd v601))],[(.box [(.dat (strD p1.name)),(.dat (.lst ((List.map Qc) p1.value.shape))),(.dat (.lst ((List.map Qc) p1.value.data)))]),(.box [(Qd 0),(.dat (.lst ((List.map Qc) []))),(Qd 0),(.dat (.lst ((List.map Qc) []))),(Qd 0),(Qd 0),(.dat (.lst ((List.map Qc) []))),(.dat (.lst (Qa.toDs [])))])]⟩)
theorem Qag:∀ x r,Yk x=some r→Qc5 x r:=by
 refine Yk.partial_correctness _ (fun Yk Qag x r hm=>?_)
 unfold Qc5
 obtain ⟨p0,p1,v201,v202⟩:=x
 intro st hst
 refine RL_at hst ?_
 clear hst
 refine Qe (Qe (R_G (Qb 2 ?_)))
 refine QG Ql.toD p0 (es:=(List.map Ql.toD) p0) rfl ?_
 refine Qb 1 (Qg ?_)
 refine Qx hm (rfl) (fun hm=>?_) (fun hm=>?_)
 ·refine Qs (Qe (Qz (Qe ?_)))
  obtain ⟨v602,hs,hm⟩:=Qf hm
  refine Q7 (fun d=>⟨sl d 46 [(0,(.dat (.lst ((List.map Ql.toD) p0)))),(3,(.ptr 0 0)),(4,(.ptr 1 0)),(6,(Qd v201)),(7,(Qd v202)),(28,(Qp v602))],[(.box [(.dat (strD p1.name)),(.dat (.lst ((List.map Qc) p1.value.shape))),(.dat (.lst ((List.map Qc) p1.value.data)))]),(.box [(Qd 0),(.dat (.lst ((List.map Qc) []))),(Qd 0),(.dat (.lst ((List.map Qc) []))),(Qd 0),(Qd 0),(.dat (.lst ((List.map Qc) []))),(.dat (.lst (Qa.toDs [])))])]⟩) ?_ (fun d=>?_)
  ·replace hm:=hs
   clear hs
   refine YM ?_
   refine Qb 2 ?_
   refine QL rfl (fun _=>QfM (a:=p1.name) (b:=ByteArray.empty) rfl (by kernel_rfl) (by kernel_rfl)) ?_
   refine Qb 1 ?_
   refine Qy 19 hm (rfl) (fun hm=>?_) (fun hm=>?_)
   ·refine Qb 2 ?_
    refine QF 3 Ql.toD hm rfl (fun _=>rfl) (fun v603 hm=>?_)
    refine Qb 4 ?_
    refine QL rfl (fun _=>Qdw (a:=v603.name) (b:=p1.name) rfl (by kernel_rfl) (by kernel_rfl)) ?_
    refine Qb 1 ?_
    refine Qg ⟨by kernel_rfl,?_⟩
    obtain rfl:=Qq hm
    exact Qm
   refine Qb 9 ?_
   refine Qg ⟨by kernel_rfl,?_⟩
   obtain rfl:=Qq hm
   exact Qm
  clear hs
  refine Qx hm (QC _) (fun hm=>?_) (fun hm=>?_)
  ·refine R_G (Qb 2 (Qg (R_G (Qb 3 (Qg ?_)))))
   exact Qag _ _ hm _ (by kernel_rfl)
  refine Qs (R_G (Qb 3 (Qg ?_)))
  exact Qag _ _ hm _ (by kernel_rfl)
 refine QP ?_
 obtain rfl:=Qq hm
 exact ⟨rfl,Qm⟩
def JR (x:((List Ql) × Ql)):Option (Qa × (List Ql)) :=
 match x with
 | (p0,p1) =>
 Yk (p0,p1,(p0.length:Int),0)>>=fun (v601:Int) =>
 if v601=(p0.length:Int) then
  app 64 ([]:List Ql) p0>>=fun v604 =>
  app 64 v604 ([p1]:List Ql)>>=fun v605 =>
  some ((⟨1,p1.value.shape,v601,([]:(List Int)),0,0,([]:(List Int)),([]:(List Qa))⟩:Qa),v605)
 else
 some ((⟨1,p1.value.shape,v601,([]:(List Int)),0,0,([]:(List Int)),([]:(List Qa))⟩:Qa),p0)
def Qeq:((List Ql) × Ql)→(Qa × (List Ql))→Prop:=fun x r=>match x,r with
 | (p0,p1),(r0,r1)=>∀ H,PC prog env 82 ([(.lst ((List.map Ql.toD) p0)),(Ql.toD p1)].map .dat) H (.tup [(.dat (Qa.ex r0)),(.dat (.lst ((List.map Ql.toD) r1)))]) H
theorem Qel:∀ x r,JR x=some r→Qeq x r:=by
 intro x r hm
 unfold JR at hm
 unfold Qeq
 obtain ⟨p0,p1⟩:=x
 obtain ⟨r0,r1⟩:=r
 intro H
 refine PC_sx (ds:=[(.lst ((List.map Ql.toD) p0)),(Ql.toD p1)]) (fn:=f82) rfl ?_
 refine Qe (R_G (Qb 3 (Qg (Qe (R_G (Qb 1 ?_))))))
 refine QG Ql.toD p0 (es:=(List.map Ql.toD) p0) rfl ?_
 refine Qb 1 (Qg (Qe (Qe (R_G (Qb 1 (Qg (Qz ?_)))))))
 obtain ⟨v601,hs,hm⟩:=Qf hm
 refine QT ?_
 refine RL_use (Qag _ _ hs) (by kernel_rfl) ?_
 clear hs
 intro e s hp
 obtain ⟨rfl,d,rfl⟩:=hp
 refine Qe (Qe (R_G (Qb 2 ?_)))
 refine QG Ql.toD p0 (es:=(List.map Ql.toD) p0) rfl ?_
 refine Qb 1 (Qg ?_)
 refine Qx hm (QO _ _) (fun hm=>?_) (fun hm=>?_)
 ·refine YM ?_
  refine Qb 2 ?_
  obtain ⟨v604,hx,hm⟩:=Qf hm
  refine YZ 71 3 64 2 Ql.toD ([]:List Ql) p0 v604 (xs:=(List.map Ql.toD) ([]:List Ql)) (es:=(List.map Ql.toD) p0) (L:=(List.map Ql.toD)) (fun _=>rfl) rfl rfl Ql.fit hx ?_
  refine Qb 2 ?_
  obtain ⟨v605,hx,hm⟩:=Qf hm
  refine YZ 71 3 64 2 Ql.toD v604 ([p1]:List Ql) v605 (xs:=(List.map Ql.toD) v604) (es:=(List.map Ql.toD) ([p1]:List Ql)) (L:=(List.map Ql.toD)) (fun _=>rfl) rfl rfl Ql.fit hx ?_
  refine Qb 1 ?_
  refine Qg ⟨by kernel_rfl,?_⟩
  refine Qe (R_G (Qb 8 (Qg (Qt ?_))))
  obtain ⟨rfl,rfl⟩:=Zn hm
  exact ⟨trivial,Qk⟩
 refine Qs (Qe (R_G (Qb 8 (Qg (Qt ?_)))))
 obtain ⟨rfl,rfl⟩:=Zn hm
 exact ⟨trivial,Qk⟩
def QaV (x:((List Qn) × (List Ql) × Qh)):Option (Qa × (List Ql) × Int) :=
 match x with
 | (p0,p1,p2) =>
 if p2.kind=2 then
  Qaw (p0,p2.name)>>=fun ((v1,v2):(Qo × Bool)) =>
  if v2=false then
   some ((⟨0,([]:(List Int)),0,([]:(List Int)),0,0,([]:(List Int)),([]:(List Qa))⟩:Qa),([]:(List Ql)),2)
  else
  JR (p1,(⟨p2.name,(⟨v1.shape,v1.data⟩:Qo)⟩:Ql))>>=fun ((v3,v4):(Qa × (List Ql))) =>
  some (v3,v4,0)
 else
 (if (p2.nums.length:Int)≠1 then
  some ([(p2.nums.length:Int)]:List Int)
 else
 some ([]:List Int)
 )>>=fun (v5:(List Int)) =>
 if (p2.nums.length:Int) > 65536 then
  some ((⟨0,([]:(List Int)),0,([]:(List Int)),0,0,([]:(List Int)),([]:(List Qa))⟩:Qa),([]:(List Ql)),7)
 else
 JR (p1,(⟨p2.name,(⟨v5,p2.nums⟩:Qo)⟩:Ql))>>=fun ((v6,v7):(Qa × (List Ql))) =>
 some (v6,v7,0)
def QeB:((List Qn) × (List Ql) × Qh)→(Qa × (List Ql) × Int)→Prop:=fun x r=>match x,r with
 | (p0,p1,p2),(r0,r1,r2)=>∀ H,PC prog env 60 ([(.lst ((List.map Qn.toD) p0)),(.lst ((List.map Ql.toD) p1)),(Qh.ex p2)].map .dat) H (.tup [(.dat (Qa.ex r0)),(.dat (.lst ((List.map Ql.toD) r1))),(Qd r2)]) H
theorem QfJ:∀ x r,QaV x=some r→QeB x r:=by
 intro x r hm
 unfold QaV at hm
 unfold QeB
 obtain ⟨p0,p1,p2⟩:=x
 obtain ⟨r0,r1,r2⟩:=r
 intro H
 refine PC_sx (ds:=[(.lst ((List.map Qn.toD) p0)),(.lst ((List.map Ql.toD) p1)),(Qh.ex p2)]) (fn:=f60) rfl ?_
 refine Qe (R_G (Qb 4 (Qg (Qe (R_G (Qb 5 (Qg (Qe (Qe (R_G (Qb 3 ?_)))))))))))
 refine Qg ?_
 refine Qx hm (QO _ _) (fun hm=>?_) (fun hm=>?_)
 ·refine Qe (R_G (Qb 3 ?_))
  obtain ⟨⟨v1,v2⟩,hx,hm⟩:=Qf hm
  have hq:=Qe5 _ _ hx []
  refine Qr hq ?_
  refine Qb 6 (Qg (Qe (Qe (R_G (Qb 2 (Qg ?_))))))
  refine Qx hm (ZL _) (fun hm=>?_) (fun hm=>?_)
  ·refine Qe (R_G (Qb 4 (Qg (Qt ?_))))
   obtain ⟨rfl,rfl,rfl⟩:=J3 hm
   exact ⟨trivial,Qk⟩
  refine Qs (R_G (Qb 3 (Qg (Qe (R_G (Qb 2 ?_))))))
  obtain ⟨⟨v3,v4⟩,hx,hm⟩:=Qf hm
  have hq:=Qel _ _ hx []
  refine Qr hq ?_
  refine Qb 6 (Qg (Qe (R_G (Qb 5 (Qg (Qt ?_))))))
  obtain ⟨rfl,rfl,rfl⟩:=J3 hm
  exact ⟨trivial,Qk⟩
 refine Qe (R_G (Qb 5 (Qg (Qe (Qe (R_G (Qb 2 ?_)))))))
 refine QG Qc p2.nums (es:=(List.map Qc) p2.nums) rfl ?_
 refine Qb 1 (Qg ?_)
 obtain ⟨v5,hs,hm⟩:=Qf hm
 refine Q7 (fun d=>⟨sl d 59 [(1,(.dat (.lst ((List.map Ql.toD) p1)))),(5,(.ptr 0 0)),(6,(.ptr 1 0)),(9,(.ptr 2 0))],[(.box [(Qd p2.kind),(Qd p2.fn),(Qd p2.axis),(.dat (strD p2.name)),(.dat (.lst ((List.map Qc) p2.nums))),(.dat (.lst (Qh.toDs p2.kids)))]),(.box [(Qd 0),(.dat (.lst ((List.map Qc) []))),(Qd 0),(.dat (.lst ((List.map Qc) []))),(Qd 0),(Qd 0),(.dat (.lst ((List.map Qc) []))),(.dat (.lst (Qa.toDs [])))]),(.box [(.dat (strD p2.name)),(.dat (.lst ((List.map Qc) v5))),(.dat (.lst ((List.map Qc) p2.nums)))])]⟩) ?_ (fun d=>?_)
 ·replace hm:=hs
  clear hs
  refine Qx hm (ne_dec _ _) (fun hm=>?_) (fun hm=>?_)
  ·refine R_G (Qb 2 ?_)
   refine QG Qc p2.nums (es:=(List.map Qc) p2.nums) rfl ?_
   refine Qb 4 (Qg ?_)
   obtain rfl:=Qq hm
   exact Qm
  refine Qs ?_
  obtain rfl:=Qq hm
  exact Qm
 clear hs
 refine Qe (R_G (Qb 2 ?_))
 refine QG Qc p2.nums (es:=(List.map Qc) p2.nums) rfl ?_
 refine Qb 1 (Qg ?_)
 refine Qx hm (rfl) (fun hm=>?_) (fun hm=>?_)
 ·refine Qe (R_G (Qb 4 (Qg (Qt ?_))))
  obtain ⟨rfl,rfl,rfl⟩:=J3 hm
  exact ⟨trivial,Qk⟩
 refine Qs (Qe (R_G (Qb 2 ?_)))
 obtain ⟨⟨v6,v7⟩,hx,hm⟩:=Qf hm
 have hq:=Qel _ _ hx []
 refine Qr hq ?_
 refine Qb 6 (Qg (Qe (R_G (Qb 5 (Qg (Qt ?_))))))
 obtain ⟨rfl,rfl,rfl⟩:=J3 hm
 exact ⟨trivial,Qk⟩
def QaC (x:((List Qn) × Qh)):Option (QK × Int) :=
 match x with
 | (p0,p1) =>
 if p1.kind=1 then
  some ((⟨p1.nums,((p1.nums.length:Int) == 1)⟩:QK),0)
 else
 Qaw (p0,p1.name)>>=fun ((v1,v2):(Qo × Bool)) =>
 if v2=false then
  some ((⟨([]:(List Int)),false⟩:QK),2)
 else
 if (v1.shape.length:Int) > 1 then
  some ((⟨([]:(List Int)),false⟩:QK),4)
 else
 some ((⟨v1.data,((v1.shape.length:Int) == 0)⟩:QK),0)
def Qey:((List Qn) × Qh)→(QK × Int)→Prop:=fun x r=>match x,r with
 | (p0,p1),(r0,r1)=>∀ H,PC prog env 83 ([(.lst ((List.map Qn.toD) p0)),(Qh.ex p1)].map .dat) H (.tup [(.dat (QK.toD r0)),(Qd r1)]) H
theorem QfH:∀ x r,QaC x=some r→Qey x r:=by
 intro x r hm
 unfold QaC at hm
 unfold Qey
 obtain ⟨p0,p1⟩:=x
 obtain ⟨r0,r1⟩:=r
 intro H
 refine PC_sx (ds:=[(.lst ((List.map Qn.toD) p0)),(Qh.ex p1)]) (fn:=f83) rfl ?_
 refine Qe (R_G (Qb 3 (Qg (Qe (Qe (R_G (Qb 3 (Qg ?_))))))))
 refine Qx hm (QO _ _) (fun hm=>?_) (fun hm=>?_)
 ·refine Qe (R_G (Qb 4 ?_))
  refine QG Qc p1.nums (es:=(List.map Qc) p1.nums) rfl ?_
  refine Qb 4 (Qg (Qt ?_))
  obtain ⟨rfl,rfl⟩:=Zn hm
  exact ⟨trivial,Qk⟩
 refine Qs (Qe (R_G (Qb 3 ?_)))
 obtain ⟨⟨v1,v2⟩,hx,hm⟩:=Qf hm
 have hq:=Qe5 _ _ hx []
 refine Qr hq ?_
 refine Qb 6 (Qg (Qe (Qe (R_G (Qb 2 (Qg ?_))))))
 refine Qx hm (ZL _) (fun hm=>?_) (fun hm=>?_)
 ·refine Qe (R_G (Qb 3 (Qg (Qt ?_))))
  obtain ⟨rfl,rfl⟩:=Zn hm
  exact ⟨trivial,Qk⟩
 refine Qs (Qe (Qe (R_G (Qb 2 ?_))))
 refine QG Qc v1.shape (es:=(List.map Qc) v1.shape) rfl ?_
 refine Qb 1 (Qg ?_)
 refine Qx hm (rfl) (fun hm=>?_) (fun hm=>?_)
 ·refine Qe (R_G (Qb 3 (Qg (Qt ?_))))
  obtain ⟨rfl,rfl⟩:=Zn hm
  exact ⟨trivial,Qk⟩
 refine Qs (Qe (R_G (Qb 4 ?_)))
 refine QG Qc v1.shape (es:=(List.map Qc) v1.shape) rfl ?_
 refine Qb 4 (Qg (Qt ?_))
 obtain ⟨rfl,rfl⟩:=Zn hm
 exact ⟨trivial,Qk⟩
def YD (x:(Int × (List Int) × Int)):Option ((List Int)) :=
 match x with
 | (p1,v201,v202) =>
 if v202 < p1 then
  app 8 v201 ([1]:List Int)>>=fun v602 =>
  YD (p1,v602,(W (v202+1)))
 else
 some v201
 partial_fixpoint
def Qdb:(Int × (List Int) × Int)→(List Int)→Prop:=fun x r=>match x with
 | (p1,v201,v202)=>∀ st,prune 1 ((Qw (QD [1,1,1,0,1,0,0] (QE f110))).bind (env.hint 110).keepAt) st=⟨kp 20 [(1,(Qd p1)),(5,(.vec 0 ((List.map Qc) v201))),(6,(Qd v202))],[(.tok 3 v201.length)]⟩ →
  RL prog env (env.hint 110) true (QD [1,1,1,0,1,0,0] (QE f110)) 1 st (fun e s=>match r with|v601=>e=.exit 0∧∃ d,s=⟨sl d 20 [(5,(.vec 0 ((List.map Qc) v601)))],[(.tok 3 v601.length)]⟩)
theorem QbA:∀ x r,YD x=some r→Qdb x r:=by
 refine YD.partial_correctness _ (fun YD QbA x r hm=>?_)
 unfold Qdb
 obtain ⟨p1,v201,v202⟩:=x
 intro st hst
 refine RL_at hst ?_
 clear hst
 refine Qe (Qe (R_G (Qb 3 (Qg ?_))))
 refine Qx hm (rfl) (fun hm=>?_) (fun hm=>?_)
 ·refine Qs (Qe (Qz (R_G (Qb 2 ?_))))
  obtain ⟨v602,hx,hm⟩:=Qf hm
  refine YZ 3 1 8 0 Qc v201 ([1]:List Int) v602 (xs:=(List.map Qc) v201) (es:=(List.map Qc) ([1]:List Int)) (L:=(List.map Qc)) (fun _=>rfl) rfl rfl (fun _=>rfl) hx ?_
  refine Qb 1 (Qg (R_G (Qb 3 (Qg ?_))))
  exact QbA _ _ hm _ (by kernel_rfl)
 refine QP ?_
 obtain rfl:=Qq hm
 exact ⟨rfl,Qm⟩
def JQ (x:((List Int) × Int)):Option (List Int) :=
 match x with
 | (p0,p1) =>
 if (p0.length:Int) > 0 then
  some p0
 else
 YD (p1,([]:List Int),0)>>=fun (v601:(List Int)) =>
 some v601
def QeC:((List Int) × Int)→(List Int)→Prop:=fun x r=>match x,r with
 | (p0,p1),r0=>∀ H,PC prog env 110 ([(.lst ((List.map Qc) p0)),(Qc p1)].map .dat) H (.dat (.lst ((List.map Qc) r0))) H
theorem Qes:∀ x r,JQ x=some r→QeC x r:=by
 intro x r0 hm
 unfold JQ at hm
 unfold QeC
 obtain ⟨p0,p1⟩:=x
 intro H
 refine PC_sx (ds:=[(.lst ((List.map Qc) p0)),(Qc p1)]) (fn:=f110) rfl ?_
 refine Qe (R_G (Qb 1 (Qg (Qe (Qe (R_G (Qb 1 ?_)))))))
 refine QG Qc p0 (es:=(List.map Qc) p0) rfl ?_
 refine Qb 1 (Qg ?_)
 refine Qx hm (rfl) (fun hm=>?_) (fun hm=>?_)
 ·refine Qe (R_G (Qb 2 (Qg (Qt ?_))))
  obtain rfl:=Qq hm
  exact ⟨trivial,Qk⟩
 refine Qs (Qe (R_G (Qb 1 (Qg (Qe (Qe (R_G (Qb 1 (Qg (Qz ?_))))))))))
 obtain ⟨v601,hs,hm⟩:=Qf hm
 refine QT ?_
 refine RL_use (QbA _ _ hs) (by kernel_rfl) ?_
 clear hs
 intro e s hp
 obtain ⟨rfl,d,rfl⟩:=hp
 refine Qe (R_G (Qb 2 (Qg (Qt ?_))))
 obtain rfl:=Qq hm
 exact ⟨trivial,Qk⟩
def XA (x:Int):Option (Int × Int) :=
 match x with
 | p0 =>
 (if p0 > 65536 then
  some true
 else
 some (decide (p0 < (-65536)))
 )>>=fun (v1:Bool) =>
 if v1=true then
  some (0,7)
 else
 if p0 < 0 then
  some ((W (0 - p0)),0)
 else
 some (p0,0)
def Qcd:Int→(Int × Int)→Prop:=fun x r=>match x,r with
 | p0,(r0,r1)=>∀ H,PC prog env 111 ([(Qc p0)].map .dat) H (.tup [(Qd r0),(Qd r1)]) H
theorem Qex:∀ x r,XA x=some r→Qcd x r:=by
 intro p0 r hm
 unfold XA at hm
 unfold Qcd
 obtain ⟨r0,r1⟩:=r
 intro H
 refine PC_sx (ds:=[(Qc p0)]) (fn:=f111) rfl ?_
 refine Qe (R_G (Qb 2 (Qg (Qe (Qe ?_)))))
 obtain ⟨v1,hs,hm⟩:=Qf hm
 refine Q7 (fun d=>⟨sl d 15 [(0,(Qd p0)),(9,(Qp v1))],[]⟩) ?_ (fun d=>?_)
 ·replace hm:=hs
  clear hs
  refine R_G (Qb 3 ?_)
  refine Qy 6 hm (rfl) (fun hm=>?_) (fun hm=>?_)
  ·refine Qb 3 (Qg ?_)
   obtain rfl:=Qq hm
   exact Qm
  refine Qb 3 (Qg ?_)
  obtain rfl:=Qq hm
  exact Qm
 clear hs
 refine Qx hm (QC _) (fun hm=>?_) (fun hm=>?_)
 ·refine Qe (R_G (Qb 2 (Qg (Qt ?_))))
  obtain ⟨rfl,rfl⟩:=Zn hm
  exact ⟨trivial,Qk⟩
 refine Qs (Qe (Qe (R_G (Qb 2 (Qg ?_)))))
 refine Qx hm (rfl) (fun hm=>?_) (fun hm=>?_)
 ·refine Qe (R_G (Qb 4 (Qg (Qt ?_))))
  obtain ⟨rfl,rfl⟩:=Zn hm
  exact ⟨trivial,Qk⟩
 refine Qs (Qe (R_G (Qb 3 (Qg (Qt ?_)))))
 obtain ⟨rfl,rfl⟩:=Zn hm
 exact ⟨trivial,Qk⟩
def YE (x:((List Int) × (List Int) × (List Int) × (List Int) × Int)):Option (((List Int) × (List Int)) ⊕ ((List Int) × (List Int))) :=
 match x with
 | (p0,v2,v203,v204,v205) =>
 if v205 < (p0.length:Int) then
  idx p0 v205>>=fun v607 =>
  XA v607>>=fun ((v608,v609):(Int × Int)) =>
  if v609≠0 then
   some (Sum.inl (v203,v204))
  else
  app 8 v203 ([v608]:List Int)>>=fun v610 =>
  idx p0 v205>>=fun v611 =>
  (if v611 < 0 then
   idx v2 v205>>=fun v613 =>
   some (W (v613 - v608))
  else
  some 0
  )>>=fun (v612:Int) =>
  app 8 v204 ([v612]:List Int)>>=fun v614 =>
  YE (p0,v2,v610,v614,(W (v205+1)))
 else
 some (Sum.inr (v203,v204))
 partial_fixpoint
def Qc8:((List Int) × (List Int) × (List Int) × (List Int) × Int)→(((List Int) × (List Int)) ⊕ ((List Int) × (List Int)))→Prop:=fun x r=>match x with
 | (p0,v2,v203,v204,v205)=>∀ st,prune 6 ((Qw (QD [1,1,1,1,0,1,0,0] (QE f84))).bind (env.hint 84).keepAt) st=⟨kp 79 [(0,(.dat (.lst ((List.map Qc) p0)))),(4,(.ptr 0 0)),(6,(.ptr 3 0)),(7,(Qd v205))],[(.box [(.dat (.lst ((List.map Qc) []))),(.dat (.lst ((List.map Qc) []))),(.dat (.lst ((List.map Qc) []))),(.dat (.lst ((List.map Qc) []))),(Qd 0),(Qd 0),(.dat (.lst ((List.map Qc) [])))]),(.tok 3 v203.length),(.tok 3 v204.length),(.box [(.dat (.lst ((List.map Qc) []))),(.dat (.lst ((List.map Qc) v2))),(.vec 1 ((List.map Qc) v203)),(.vec 2 ((List.map Qc) v204)),(Qd (-1)),(Qd 0),(.dat (.lst ((List.map Qc) [])))]),(.tok 3 (([]:List Int).length)),(.tok 3 (([]:List Int).length))]⟩ →
  RL prog env (env.hint 84) true (QD [1,1,1,1,0,1,0,0] (QE f84)) 6 st (fun e s=>match r with|.inl (v603,v604)=>e=.ret∧∃ d,s=⟨sl d 79 [(4,(.ptr 0 0)),(5,(Qd 7))],[(.box [(.dat (.lst ((List.map Qc) []))),(.dat (.lst ((List.map Qc) []))),(.dat (.lst ((List.map Qc) []))),(.dat (.lst ((List.map Qc) []))),(Qd 0),(Qd 0),(.dat (.lst ((List.map Qc) [])))]),(.tok 3 v603.length),(.tok 3 v604.length),(.box [(.dat (.lst ((List.map Qc) []))),(.dat (.lst ((List.map Qc) v2))),(.vec 1 ((List.map Qc) v603)),(.vec 2 ((List.map Qc) v604)),(Qd (-1)),(Qd 0),(.dat (.lst ((List.map Qc) [])))]),(.tok 3 (([]:List Int).length)),(.tok 3 (([]:List Int).length))]⟩|.inr ((v605,v606))=>e=.exit 0∧∃ d,s=⟨sl d 79 [(4,(.ptr 0 0)),(6,(.ptr 3 0))],[(.box [(.dat (.lst ((List.map Qc) []))),(.dat (.lst ((List.map Qc) []))),(.dat (.lst ((List.map Qc) []))),(.dat (.lst ((List.map Qc) []))),(Qd 0),(Qd 0),(.dat (.lst ((List.map Qc) [])))]),(.tok 3 v605.length),(.tok 3 v606.length),(.box [(.dat (.lst ((List.map Qc) []))),(.dat (.lst ((List.map Qc) v2))),(.vec 1 ((List.map Qc) v605)),(.vec 2 ((List.map Qc) v606)),(Qd (-1)),(Qd 0),(.dat (.lst ((List.map Qc) [])))]),(.tok 3 (([]:List Int).length)),(.tok 3 (([]:List Int).length))]⟩)
theorem Qai:∀ x r,YE x=some r→Qc8 x r:=by
 refine YE.partial_correctness _ (fun YE Qai x r hm=>?_)
 unfold Qc8
 obtain ⟨p0,v2,v203,v204,v205⟩:=x
 intro st hst
 refine RL_at hst ?_
 clear hst
 refine Qe (Qe (R_G (Qb 2 ?_)))
 refine QG Qc p0 (es:=(List.map Qc) p0) rfl ?_
 refine Qb 1 (Qg ?_)
 refine Qx hm (rfl) (fun hm=>?_) (fun hm=>?_)
 ·refine Qs (Qe (Qz (Qe (R_G (Qb 2 ?_)))))
  refine QF 1 Qc hm rfl (fun _=>rfl) (fun v607 hm=>?_)
  refine Qb 1 ?_
  obtain ⟨⟨v608,v609⟩,hx,hm⟩:=Qf hm
  have hq:=Qex _ _ hx []
  refine Qr hq ?_
  refine Qb 5 (Qg (Qe (Qe (R_G (Qb 2 (Qg ?_))))))
  refine Qx hm (ne_dec _ _) (fun hm=>?_) (fun hm=>?_)
  ·refine Qe (R_G (Qb 3 (Qg (Qt ?_))))
   obtain rfl:=Qq hm
   exact ⟨rfl,Qm⟩
  refine Qs (Qe (R_G (Qb 4 ?_)))
  obtain ⟨v610,hx,hm⟩:=Qf hm
  refine YZ 3 1 8 1 Qc v203 ([v608]:List Int) v610 (xs:=(List.map Qc) v203) (es:=(List.map Qc) ([v608]:List Int)) (L:=(List.map Qc)) (fun _=>rfl) rfl rfl (fun _=>rfl) hx ?_
  refine Qb 2 (Qg (Qe (R_G (Qb 1 (Qg (Qe (Qe (R_G (Qb 2 ?_)))))))))
  refine QF 1 Qc hm rfl (fun _=>rfl) (fun v611 hm=>?_)
  refine Qb 2 (Qg ?_)
  obtain ⟨v612,hs,hm⟩:=Qf hm
  refine Q7 (fun d=>⟨sl d 79 [(0,(.dat (.lst ((List.map Qc) p0)))),(4,(.ptr 0 0)),(6,(.ptr 3 0)),(7,(Qd v205)),(10,(Qd v612))],[(.box [(.dat (.lst ((List.map Qc) []))),(.dat (.lst ((List.map Qc) []))),(.dat (.lst ((List.map Qc) []))),(.dat (.lst ((List.map Qc) []))),(Qd 0),(Qd 0),(.dat (.lst ((List.map Qc) [])))]),(.tok 3 v610.length),(.tok 3 v204.length),(.box [(.dat (.lst ((List.map Qc) []))),(.dat (.lst ((List.map Qc) v2))),(.vec 1 ((List.map Qc) v610)),(.vec 2 ((List.map Qc) v204)),(Qd (-1)),(Qd 0),(.dat (.lst ((List.map Qc) [])))]),(.tok 3 (([]:List Int).length)),(.tok 3 (([]:List Int).length))]⟩) ?_ (fun d=>?_)
  ·replace hm:=hs
   clear hs
   refine Qx hm (rfl) (fun hm=>?_) (fun hm=>?_)
   ·refine R_G (Qb 3 ?_)
    refine QF 1 Qc hm rfl (fun _=>rfl) (fun v613 hm=>?_)
    refine Qb 4 (Qg ?_)
    obtain rfl:=Qq hm
    exact Qm
   refine Qs ?_
   obtain rfl:=Qq hm
   exact Qm
  clear hs
  refine R_G (Qb 4 ?_)
  obtain ⟨v614,hx,hm⟩:=Qf hm
  refine YZ 3 1 8 2 Qc v204 ([v612]:List Int) v614 (xs:=(List.map Qc) v204) (es:=(List.map Qc) ([v612]:List Int)) (L:=(List.map Qc)) (fun _=>rfl) rfl rfl (fun _=>rfl) hx ?_
  refine Qb 2 (Qg (R_G (Qb 3 (Qg ?_))))
  exact Qai _ _ hm _ (by kernel_rfl)
 refine QP ?_
 obtain rfl:=Qq hm
 exact ⟨rfl,Qm⟩
def JG (x:((List Int) × (List Int))):Option (Qu × Int) :=
 match x with
 | (p0,p1) =>
 (if (p1.length:Int)=0 then
  some (decide ((p0.length:Int) > 16))
 else
 some false
 )>>=fun (v1:Bool) =>
 if v1=true then
  some ((⟨([]:(List Int)),([]:(List Int)),([]:(List Int)),([]:(List Int)),0,0,([]:(List Int))⟩:Qu),7)
 else
 JQ (p1,(p0.length:Int))>>=fun (v2:(List Int)) =>
 if (p0.length:Int)≠(v2.length:Int) then
  some ((⟨([]:(List Int)),([]:(List Int)),([]:(List Int)),([]:(List Int)),0,0,([]:(List Int))⟩:Qu),5)
 else
 (
 YE (p0,v2,([]:List Int),([]:List Int),0)>>=fun (out:((List Int) × (List Int)) ⊕ ((List Int) × (List Int))) =>
 match out with
 | .inl (v603,v604) =>
  some ((⟨([]:(List Int)),([]:(List Int)),([]:(List Int)),([]:(List Int)),0,0,([]:(List Int))⟩:Qu),7)
 | .inr ((v605,v606)) =>
  Yg v605>>=fun (v615:Int) =>
  if v615≠0 then
   some ((⟨([]:(List Int)),([]:(List Int)),([]:(List Int)),([]:(List Int)),0,0,([]:(List Int))⟩:Qu),7)
  else
  some ((⟨([]:(List Int)),v2,v605,v606,(-1),0,([]:(List Int))⟩:Qu),0)
 )
def QeA:((List Int) × (List Int))→(Qu × Int)→Prop:=fun x r=>match x,r with
 | (p0,p1),(r0,r1)=>∀ H,PC prog env 84 ([(.lst ((List.map Qc) p0)),(.lst ((List.map Qc) p1))].map .dat) H (.tup [(.dat (Qu.toD r0)),(Qd r1)]) H
theorem QeF:∀ x r,JG x=some r→QeA x r:=by
 intro x r hm
 unfold JG at hm
 unfold QeA
 obtain ⟨p0,p1⟩:=x
 obtain ⟨r0,r1⟩:=r
 intro H
 refine PC_sx (ds:=[(.lst ((List.map Qc) p0)),(.lst ((List.map Qc) p1))]) (fn:=f84) rfl ?_
 refine Qe (R_G (Qb 2 (Qg (Qe (Qe ?_)))))
 obtain ⟨v1,hs,hm⟩:=Qf hm
 refine Q7 (fun d=>⟨sl d 79 [(0,(.dat (.lst ((List.map Qc) p0)))),(1,(.dat (.lst ((List.map Qc) p1)))),(4,(.ptr 0 0)),(18,(Qp v1))],[(.box [(.dat (.lst ((List.map Qc) []))),(.dat (.lst ((List.map Qc) []))),(.dat (.lst ((List.map Qc) []))),(.dat (.lst ((List.map Qc) []))),(Qd 0),(Qd 0),(.dat (.lst ((List.map Qc) [])))])]⟩) ?_ (fun d=>?_)
 ·replace hm:=hs
  clear hs
  refine R_G (Qb 1 ?_)
  refine QG Qc p1 (es:=(List.map Qc) p1) rfl ?_
  refine Qb 2 ?_
  refine Qy 14 hm (QO _ _) (fun hm=>?_) (fun hm=>?_)
  ·refine Qb 1 ?_
   refine QG Qc p0 (es:=(List.map Qc) p0) rfl ?_
   refine Qb 2 (Qg ?_)
   obtain rfl:=Qq hm
   exact Qm
  refine Qb 4 (Qg ?_)
  obtain rfl:=Qq hm
  exact Qm
 clear hs
 refine Qx hm (QC _) (fun hm=>?_) (fun hm=>?_)
 ·refine Qe (R_G (Qb 3 (Qg (Qt ?_))))
  obtain ⟨rfl,rfl⟩:=Zn hm
  exact ⟨trivial,Qk⟩
 refine Qs (Qe (R_G (Qb 2 ?_)))
 refine QG Qc p0 (es:=(List.map Qc) p0) rfl ?_
 obtain ⟨v2,hx,hm⟩:=Qf hm
 have hq:=Qes _ _ hx []
 refine Qr hq ?_
 refine Qb 3 (Qg (Qe (Qe (R_G (Qb 1 ?_)))))
 refine QG Qc p0 (es:=(List.map Qc) p0) rfl ?_
 refine Qb 2 ?_
 refine QG Qc v2 (es:=(List.map Qc) v2) rfl ?_
 refine Qb 1 (Qg ?_)
 refine Qx hm (ne_dec _ _) (fun hm=>?_) (fun hm=>?_)
 ·refine Qe (R_G (Qb 3 (Qg (Qt ?_))))
  obtain ⟨rfl,rfl⟩:=Zn hm
  exact ⟨trivial,Qk⟩
 refine Qs (Qe (Qe (R_G (Qb 1 (Qg (Qz ?_))))))
 obtain ⟨out,hs,hm⟩:=Qf hm
 refine QT ?_
 rcases out with ⟨v603,v604⟩|⟨v605,v606⟩
 ·refine RL_use (Qai _ _ hs) (by kernel_rfl) ?_
  clear hs
  intro e s hp
  obtain ⟨rfl,d,rfl⟩:=hp
  obtain ⟨rfl,rfl⟩:=Zn hm
  exact ⟨trivial,Qk⟩
 ·refine RL_use (Qai _ _ hs) (by kernel_rfl) ?_
  clear hs
  intro e s hp
  obtain ⟨rfl,d,rfl⟩:=hp
  refine Qe (Qe (R_G (Qb 2 ?_)))
  obtain ⟨v615,hx,hm⟩:=Qf hm
  have hq:=XJ _ _ hx []
  refine Qr hq ?_
  refine Qb 1 (Qg ?_)
  refine Qx hm (ne_dec _ _) (fun hm=>?_) (fun hm=>?_)
  ·refine Qe (R_G (Qb 3 (Qg (Qt ?_))))
   obtain ⟨rfl,rfl⟩:=Zn hm
   exact ⟨trivial,Qk⟩
  refine Qs (Qe (R_G (Qb 3 (Qg (Qt ?_)))))
  obtain ⟨rfl,rfl⟩:=Zn hm
  exact ⟨trivial,Qk⟩
def Yi (x:((List Int) × (List Int) × (List Int) × (List Int) × Int)):Option (((List Int) × (List Int))) :=
 match x with
 | (v2,p0,v203,v204,v205) =>
 if v205 < (v2.length:Int) then
  idx v2 v205>>=fun v605 =>
  (if v205 < (p0.length:Int) then
   idx p0 v205>>=fun v607 =>
   some (decide (v607 > 0))
  else
  some false
  )>>=fun (v606:Bool) =>
  if v606=true then
   idx p0 v205>>=fun v608 =>
   app 8 v203 ([(W (v605 - (if v605 < v608 then v605 else v608)))]:List Int)>>=fun v609 =>
   app 8 v204 ([(if v605 < v608 then v605 else v608)]:List Int)>>=fun v610 =>
   Yi (v2,p0,v609,v610,(W (v205+1)))
  else
  (if v205 < (p0.length:Int) then
   idx p0 v205>>=fun v612 =>
   some (if v612 < (W (0 - v605)) then (W (0 - v605)) else v612)
  else
  some 0
  )>>=fun (v611:Int) =>
  app 8 v203 ([(W (v605+v611))]:List Int)>>=fun v613 =>
  app 8 v204 ([0]:List Int)>>=fun v614 =>
  Yi (v2,p0,v613,v614,(W (v205+1)))
 else
 some (v203,v204)
 partial_fixpoint
def Qc2:((List Int) × (List Int) × (List Int) × (List Int) × Int)→((List Int) × (List Int))→Prop:=fun x r=>match x with
 | (v2,p0,v203,v204,v205)=>∀ st,prune 6 ((Qw (QD [1,1,1,1,0,1,0,0] (QE f85))).bind (env.hint 85).keepAt) st=⟨kp 99 [(0,(.dat (.lst ((List.map Qc) p0)))),(4,(.ptr 0 0)),(6,(.ptr 3 0)),(7,(Qd v205))],[(.box [(.dat (.lst ((List.map Qc) []))),(.dat (.lst ((List.map Qc) []))),(.dat (.lst ((List.map Qc) []))),(.dat (.lst ((List.map Qc) []))),(Qd 0),(Qd 0),(.dat (.lst ((List.map Qc) [])))]),(.tok 3 v203.length),(.tok 3 v204.length),(.box [(.dat (.lst ((List.map Qc) []))),(.dat (.lst ((List.map Qc) v2))),(.vec 1 ((List.map Qc) v203)),(.vec 2 ((List.map Qc) v204)),(Qd (-1)),(Qd 0),(.dat (.lst ((List.map Qc) [])))]),(.tok 3 (([]:List Int).length)),(.tok 3 (([]:List Int).length))]⟩ →
  RL prog env (env.hint 85) true (QD [1,1,1,1,0,1,0,0] (QE f85)) 6 st (fun e s=>match r with|(v603,v604)=>e=.exit 0∧∃ d,s=⟨sl d 99 [(4,(.ptr 0 0)),(6,(.ptr 3 0))],[(.box [(.dat (.lst ((List.map Qc) []))),(.dat (.lst ((List.map Qc) []))),(.dat (.lst ((List.map Qc) []))),(.dat (.lst ((List.map Qc) []))),(Qd 0),(Qd 0),(.dat (.lst ((List.map Qc) [])))]),(.tok 3 v603.length),(.tok 3 v604.length),(.box [(.dat (.lst ((List.map Qc) []))),(.dat (.lst ((List.map Qc) v2))),(.vec 1 ((List.map Qc) v603)),(.vec 2 ((List.map Qc) v604)),(Qd (-1)),(Qd 0),(.dat (.lst ((List.map Qc) [])))]),(.tok 3 (([]:List Int).length)),(.tok 3 (([]:List Int).length))]⟩)
theorem Qal:∀ x r,Yi x=some r→Qc2 x r:=by
 refine Yi.partial_correctness _ (fun Yi Qal x r hm=>?_)
 unfold Qc2
 obtain ⟨v2,p0,v203,v204,v205⟩:=x
 intro st hst
 refine RL_at hst ?_
 clear hst
 refine Qe (Qe (R_G (Qb 3 ?_)))
 refine QG Qc v2 (es:=(List.map Qc) v2) rfl ?_
 refine Qb 1 (Qg ?_)
 refine Qx hm (rfl) (fun hm=>?_) (fun hm=>?_)
 ·refine Qs (Qe (Qz (Qe (R_G (Qb 3 ?_)))))
  refine QF 1 Qc hm rfl (fun _=>rfl) (fun v605 hm=>?_)
  refine Qb 2 (Qg (Qe (R_G (Qb 1 (Qg (Qe (Qe ?_)))))))
  obtain ⟨v606,hs,hm⟩:=Qf hm
  refine Q7 (fun d=>⟨sl d 99 [(0,(.dat (.lst ((List.map Qc) p0)))),(4,(.ptr 0 0)),(6,(.ptr 3 0)),(7,(Qd v205)),(8,(Qd v605)),(9,(Qd 0)),(53,(Qp v606))],[(.box [(.dat (.lst ((List.map Qc) []))),(.dat (.lst ((List.map Qc) []))),(.dat (.lst ((List.map Qc) []))),(.dat (.lst ((List.map Qc) []))),(Qd 0),(Qd 0),(.dat (.lst ((List.map Qc) [])))]),(.tok 3 v203.length),(.tok 3 v204.length),(.box [(.dat (.lst ((List.map Qc) []))),(.dat (.lst ((List.map Qc) v2))),(.vec 1 ((List.map Qc) v203)),(.vec 2 ((List.map Qc) v204)),(Qd (-1)),(Qd 0),(.dat (.lst ((List.map Qc) [])))]),(.tok 3 (([]:List Int).length)),(.tok 3 (([]:List Int).length))]⟩) ?_ (fun d=>?_)
  ·replace hm:=hs
   clear hs
   refine R_G (Qb 2 ?_)
   refine QG Qc p0 (es:=(List.map Qc) p0) rfl ?_
   refine Qb 2 ?_
   refine Qy 47 hm (rfl) (fun hm=>?_) (fun hm=>?_)
   ·refine Qb 2 ?_
    refine QF 1 Qc hm rfl (fun _=>rfl) (fun v607 hm=>?_)
    refine Qb 3 (Qg ?_)
    obtain rfl:=Qq hm
    exact Qm
   refine Qb 6 (Qg ?_)
   obtain rfl:=Qq hm
   exact Qm
  clear hs
  refine Qx hm (QC _) (fun hm=>?_) (fun hm=>?_)
  ·refine Qe (R_G (Qb 2 ?_))
   refine QF 1 Qc hm rfl (fun _=>rfl) (fun v608 hm=>?_)
   refine Qb 2 ?_
   refine QL rfl (fun _=>Qgc (k:=.i64) (m:=v608) (n:=v605) rfl (by kernel_rfl) (by kernel_rfl)) ?_
   refine Qb 1 (Qg (Qe (R_G (Qb 6 ?_))))
   obtain ⟨v609,hx,hm⟩:=Qf hm
   refine YZ 3 1 8 1 Qc v203 ([(W (v605 - (if v605 < v608 then v605 else v608)))]:List Int) v609 (xs:=(List.map Qc) v203) (es:=(List.map Qc) ([(W (v605 - (if v605 < v608 then v605 else v608)))]:List Int)) (L:=(List.map Qc)) (fun _=>rfl) rfl rfl (fun _=>rfl) hx ?_
   refine Qb 2 (Qg (Qe (R_G (Qb 4 ?_))))
   obtain ⟨v610,hx,hm⟩:=Qf hm
   refine YZ 3 1 8 2 Qc v204 ([(if v605 < v608 then v605 else v608)]:List Int) v610 (xs:=(List.map Qc) v204) (es:=(List.map Qc) ([(if v605 < v608 then v605 else v608)]:List Int)) (L:=(List.map Qc)) (fun _=>rfl) rfl rfl (fun _=>rfl) hx ?_
   refine Qb 2 (Qg (QP (R_G (Qb 3 (Qg ?_)))))
   exact Qal _ _ hm _ (by kernel_rfl)
  refine Qs (Qe (Qe (R_G (Qb 2 ?_))))
  refine QG Qc p0 (es:=(List.map Qc) p0) rfl ?_
  refine Qb 1 (Qg ?_)
  obtain ⟨v611,hs,hm⟩:=Qf hm
  refine Q7 (fun d=>⟨sl d 99 [(0,(.dat (.lst ((List.map Qc) p0)))),(4,(.ptr 0 0)),(6,(.ptr 3 0)),(7,(Qd v205)),(8,(Qd v605)),(9,(Qd v611))],[(.box [(.dat (.lst ((List.map Qc) []))),(.dat (.lst ((List.map Qc) []))),(.dat (.lst ((List.map Qc) []))),(.dat (.lst ((List.map Qc) []))),(Qd 0),(Qd 0),(.dat (.lst ((List.map Qc) [])))]),(.tok 3 v203.length),(.tok 3 v204.length),(.box [(.dat (.lst ((List.map Qc) []))),(.dat (.lst ((List.map Qc) v2))),(.vec 1 ((List.map Qc) v203)),(.vec 2 ((List.map Qc) v204)),(Qd (-1)),(Qd 0),(.dat (.lst ((List.map Qc) [])))]),(.tok 3 (([]:List Int).length)),(.tok 3 (([]:List Int).length))]⟩) ?_ (fun d=>?_)
  ·replace hm:=hs
   clear hs
   refine Qx hm (rfl) (fun hm=>?_) (fun hm=>?_)
   ·refine R_G (Qb 2 ?_)
    refine QF 1 Qc hm rfl (fun _=>rfl) (fun v612 hm=>?_)
    refine Qb 3 ?_
    refine QL rfl (fun _=>QfU (k:=.i64) (m:=v612) (n:=(W (0 - v605))) rfl (by kernel_rfl) (by kernel_rfl)) ?_
    refine Qb 1 (Qg ?_)
    obtain rfl:=Qq hm
    exact Qm
   refine Qs ?_
   obtain rfl:=Qq hm
   exact Qm
  clear hs
  refine Qe (R_G (Qb 6 ?_))
  obtain ⟨v613,hx,hm⟩:=Qf hm
  refine YZ 3 1 8 1 Qc v203 ([(W (v605+v611))]:List Int) v613 (xs:=(List.map Qc) v203) (es:=(List.map Qc) ([(W (v605+v611))]:List Int)) (L:=(List.map Qc)) (fun _=>rfl) rfl rfl (fun _=>rfl) hx ?_
  refine Qb 2 (Qg (R_G (Qb 3 ?_)))
  obtain ⟨v614,hx,hm⟩:=Qf hm
  refine YZ 3 1 8 2 Qc v204 ([0]:List Int) v614 (xs:=(List.map Qc) v204) (es:=(List.map Qc) ([0]:List Int)) (L:=(List.map Qc)) (fun _=>rfl) rfl rfl (fun _=>rfl) hx ?_
  refine Qb 2 (Qg (R_G (Qb 3 (Qg ?_))))
  exact Qal _ _ hm _ (by kernel_rfl)
 refine QP ?_
 obtain rfl:=Qq hm
 exact ⟨rfl,Qm⟩
def JI (x:((List Int) × (List Int))):Option (Qu × Int) :=
 match x with
 | (p0,p1) =>
 (if (p1.length:Int)=0 then
  some (decide ((p0.length:Int) > 16))
 else
 some false
 )>>=fun (v1:Bool) =>
 if v1=true then
  some ((⟨([]:(List Int)),([]:(List Int)),([]:(List Int)),([]:(List Int)),0,0,([]:(List Int))⟩:Qu),7)
 else
 JQ (p1,(p0.length:Int))>>=fun (v2:(List Int)) =>
 if (p0.length:Int) > (v2.length:Int) then
  some ((⟨([]:(List Int)),([]:(List Int)),([]:(List Int)),([]:(List Int)),0,0,([]:(List Int))⟩:Qu),5)
 else
 Yi (v2,p0,([]:List Int),([]:List Int),0)>>=fun ((v603,v604):((List Int) × (List Int))) =>
 some ((⟨([]:(List Int)),v2,v603,v604,(-1),0,([]:(List Int))⟩:Qu),0)
def QeK:((List Int) × (List Int))→(Qu × Int)→Prop:=fun x r=>match x,r with
 | (p0,p1),(r0,r1)=>∀ H,PC prog env 85 ([(.lst ((List.map Qc) p0)),(.lst ((List.map Qc) p1))].map .dat) H (.tup [(.dat (Qu.toD r0)),(Qd r1)]) H
theorem QeE:∀ x r,JI x=some r→QeK x r:=by
 intro x r hm
 unfold JI at hm
 unfold QeK
 obtain ⟨p0,p1⟩:=x
 obtain ⟨r0,r1⟩:=r
 intro H
 refine PC_sx (ds:=[(.lst ((List.map Qc) p0)),(.lst ((List.map Qc) p1))]) (fn:=f85) rfl ?_
 refine Qe (R_G (Qb 2 (Qg (Qe (Qe ?_)))))
 obtain ⟨v1,hs,hm⟩:=Qf hm
 refine Q7 (fun d=>⟨sl d 99 [(0,(.dat (.lst ((List.map Qc) p0)))),(1,(.dat (.lst ((List.map Qc) p1)))),(4,(.ptr 0 0)),(17,(Qp v1))],[(.box [(.dat (.lst ((List.map Qc) []))),(.dat (.lst ((List.map Qc) []))),(.dat (.lst ((List.map Qc) []))),(.dat (.lst ((List.map Qc) []))),(Qd 0),(Qd 0),(.dat (.lst ((List.map Qc) [])))])]⟩) ?_ (fun d=>?_)
 ·replace hm:=hs
  clear hs
  refine R_G (Qb 1 ?_)
  refine QG Qc p1 (es:=(List.map Qc) p1) rfl ?_
  refine Qb 2 ?_
  refine Qy 13 hm (QO _ _) (fun hm=>?_) (fun hm=>?_)
  ·refine Qb 1 ?_
   refine QG Qc p0 (es:=(List.map Qc) p0) rfl ?_
   refine Qb 2 (Qg ?_)
   obtain rfl:=Qq hm
   exact Qm
  refine Qb 4 (Qg ?_)
  obtain rfl:=Qq hm
  exact Qm
 clear hs
 refine Qx hm (QC _) (fun hm=>?_) (fun hm=>?_)
 ·refine Qe (R_G (Qb 3 (Qg (Qt ?_))))
  obtain ⟨rfl,rfl⟩:=Zn hm
  exact ⟨trivial,Qk⟩
 refine Qs (Qe (R_G (Qb 2 ?_)))
 refine QG Qc p0 (es:=(List.map Qc) p0) rfl ?_
 obtain ⟨v2,hx,hm⟩:=Qf hm
 have hq:=Qes _ _ hx []
 refine Qr hq ?_
 refine Qb 3 (Qg (Qe (Qe (R_G (Qb 1 ?_)))))
 refine QG Qc p0 (es:=(List.map Qc) p0) rfl ?_
 refine Qb 2 ?_
 refine QG Qc v2 (es:=(List.map Qc) v2) rfl ?_
 refine Qb 1 (Qg ?_)
 refine Qx hm (rfl) (fun hm=>?_) (fun hm=>?_)
 ·refine Qe (R_G (Qb 3 (Qg (Qt ?_))))
  obtain ⟨rfl,rfl⟩:=Zn hm
  exact ⟨trivial,Qk⟩
 refine Qs (Qe (Qe (R_G (Qb 1 (Qg (Qz ?_))))))
 obtain ⟨⟨v603,v604⟩,hs,hm⟩:=Qf hm
 refine QT ?_
 refine RL_use (Qal _ _ hs) (by kernel_rfl) ?_
 clear hs
 intro e s hp
 obtain ⟨rfl,d,rfl⟩:=hp
 refine Qe (R_G (Qb 3 (Qg (Qt ?_))))
 obtain ⟨rfl,rfl⟩:=Zn hm
 exact ⟨trivial,Qk⟩
def Y1 (x:(Int × (List Int))):Option (Qu × Int) :=
 match x with
 | (p0,p1) =>
 if p0≥(p1.length:Int) then
  some ((⟨([]:(List Int)),([]:(List Int)),([]:(List Int)),([]:(List Int)),0,0,([]:(List Int))⟩:Qu),4)
 else
 (if p0 < 0 then
  some (W ((p1.length:Int) - 1))
 else
 some p0
 )>>=fun (v1:Int) =>
 some ((⟨([]:(List Int)),p1,p1,([]:(List Int)),v1,0,([]:(List Int))⟩:Qu),0)
def QcZ:(Int × (List Int))→(Qu × Int)→Prop:=fun x r=>match x,r with
 | (p0,p1),(r0,r1)=>∀ H,PC prog env 86 ([(Qc p0),(.lst ((List.map Qc) p1))].map .dat) H (.tup [(.dat (Qu.toD r0)),(Qd r1)]) H
theorem QbB:∀ x r,Y1 x=some r→QcZ x r:=by
 intro x r hm
 unfold Y1 at hm
 unfold QcZ
 obtain ⟨p0,p1⟩:=x
 obtain ⟨r0,r1⟩:=r
 intro H
 refine PC_sx (ds:=[(Qc p0),(.lst ((List.map Qc) p1))]) (fn:=f86) rfl ?_
 refine Qe (R_G (Qb 2 (Qg (Qe (Qe (R_G (Qb 2 ?_)))))))
 refine QG Qc p1 (es:=(List.map Qc) p1) rfl ?_
 refine Qb 1 (Qg ?_)
 refine Qx hm (rfl) (fun hm=>?_) (fun hm=>?_)
 ·refine Qe (R_G (Qb 3 (Qg (Qt ?_))))
  obtain ⟨rfl,rfl⟩:=Zn hm
  exact ⟨trivial,Qk⟩
 refine Qs (Qe (Qe (R_G (Qb 2 (Qg ?_)))))
 obtain ⟨v1,hs,hm⟩:=Qf hm
 refine Q7 (fun d=>⟨sl d 20 [(0,(Qd v1)),(1,(.dat (.lst ((List.map Qc) p1)))),(4,(.ptr 0 0))],[(.box [(.dat (.lst ((List.map Qc) []))),(.dat (.lst ((List.map Qc) []))),(.dat (.lst ((List.map Qc) []))),(.dat (.lst ((List.map Qc) []))),(Qd 0),(Qd 0),(.dat (.lst ((List.map Qc) [])))])]⟩) ?_ (fun d=>?_)
 ·replace hm:=hs
  clear hs
  refine Qx hm (rfl) (fun hm=>?_) (fun hm=>?_)
  ·refine R_G (Qb 1 ?_)
   refine QG Qc p1 (es:=(List.map Qc) p1) rfl ?_
   refine Qb 2 (Qg ?_)
   obtain rfl:=Qq hm
   exact Qm
  refine Qs ?_
  obtain rfl:=Qq hm
  exact Qm
 clear hs
 refine Qe (R_G (Qb 6 (Qg (Qt ?_))))
 obtain ⟨rfl,rfl⟩:=Zn hm
 exact ⟨trivial,Qk⟩
def XR (x:((List Int) × Int × (List Int))):Option (Qu × Int) :=
 match x with
 | (p0,p1,p2) =>
 if (p0.length:Int)≠1 then
  some ((⟨([]:(List Int)),([]:(List Int)),([]:(List Int)),([]:(List Int)),0,0,([]:(List Int))⟩:Qu),5)
 else
 Y1 (p1,p2)>>=fun ((v1,v2):(Qu × Int)) =>
 ((if v2=0 then
  some (decide (v1.axis≥0))
 else
 some false
 )>>=fun (v4:Bool) =>
 if v4=true then
  idx p2 v1.axis>>=fun v5 =>
  some (decide (v5 > 0))
 else
 some false
 )>>=fun (v3:Bool) =>
 (if v3=true then
  idx p2 v1.axis>>=fun v7 =>
  idx p0 0>>=fun v8 =>
  remM v8 v7>>=fun v9 =>
  remM (W (v9+v7)) v7>>=fun v10 =>
  some v10
 else
 some v1.amount
 )>>=fun (v6:Int) =>
 some ((⟨v1.left,v1.right,v1.shape,v1.starts,v1.axis,v6,v1.perm⟩:Qu),v2)
def Qdr:((List Int) × Int × (List Int))→(Qu × Int)→Prop:=fun x r=>match x,r with
 | (p0,p1,p2),(r0,r1)=>∀ H,PC prog env 87 ([(.lst ((List.map Qc) p0)),(Qc p1),(.lst ((List.map Qc) p2))].map .dat) H (.tup [(.dat (Qu.toD r0)),(Qd r1)]) H
theorem QdE:∀ x r,XR x=some r→Qdr x r:=by
 intro x r hm
 unfold XR at hm
 unfold Qdr
 obtain ⟨p0,p1,p2⟩:=x
 obtain ⟨r0,r1⟩:=r
 intro H
 refine PC_sx (ds:=[(.lst ((List.map Qc) p0)),(Qc p1),(.lst ((List.map Qc) p2))]) (fn:=f87) rfl ?_
 refine Qe (R_G (Qb 2 (Qg (Qe (Qe (R_G (Qb 1 ?_)))))))
 refine QG Qc p0 (es:=(List.map Qc) p0) rfl ?_
 refine Qb 1 (Qg ?_)
 refine Qx hm (ne_dec _ _) (fun hm=>?_) (fun hm=>?_)
 ·refine Qe (R_G (Qb 3 (Qg (Qt ?_))))
  obtain ⟨rfl,rfl⟩:=Zn hm
  exact ⟨trivial,Qk⟩
 refine Qs (Qe (R_G (Qb 2 ?_)))
 obtain ⟨⟨v1,v2⟩,hx,hm⟩:=Qf hm
 have hq:=QbB _ _ hx []
 refine Qr hq ?_
 refine Qb 6 (Qg (Qe (Qe ?_)))
 obtain ⟨v3,hs,hm⟩:=Qf hm
 refine Q7 (fun d=>⟨sl d 53 [(0,(.dat (.lst ((List.map Qc) p0)))),(2,(.dat (.lst ((List.map Qc) p2)))),(6,(.ptr 0 0)),(8,(.ptr 1 0)),(9,(Qd v2)),(35,(Qp v3))],[(.box [(.dat (.lst ((List.map Qc) []))),(.dat (.lst ((List.map Qc) []))),(.dat (.lst ((List.map Qc) []))),(.dat (.lst ((List.map Qc) []))),(Qd 0),(Qd 0),(.dat (.lst ((List.map Qc) [])))]),(.box [(.dat (.lst ((List.map Qc) v1.left))),(.dat (.lst ((List.map Qc) v1.right))),(.dat (.lst ((List.map Qc) v1.shape))),(.dat (.lst ((List.map Qc) v1.starts))),(Qd v1.axis),(Qd v1.amount),(.dat (.lst ((List.map Qc) v1.perm)))])]⟩) ?_ (fun d=>?_)
 ·replace hm:=hs
  clear hs
  refine Qdd ?_
  refine Qb 3 ?_
  obtain ⟨v4,hs,hm⟩:=Qf hm
  refine ZS (j:=7) (fun d=>⟨sl d 53 [(0,(.dat (.lst ((List.map Qc) p0)))),(2,(.dat (.lst ((List.map Qc) p2)))),(6,(.ptr 0 0)),(8,(.ptr 1 0)),(9,(Qd v2)),(27,(Qp v4))],[(.box [(.dat (.lst ((List.map Qc) []))),(.dat (.lst ((List.map Qc) []))),(.dat (.lst ((List.map Qc) []))),(.dat (.lst ((List.map Qc) []))),(Qd 0),(Qd 0),(.dat (.lst ((List.map Qc) [])))]),(.box [(.dat (.lst ((List.map Qc) v1.left))),(.dat (.lst ((List.map Qc) v1.right))),(.dat (.lst ((List.map Qc) v1.shape))),(.dat (.lst ((List.map Qc) v1.starts))),(Qd v1.axis),(Qd v1.amount),(.dat (.lst ((List.map Qc) v1.perm)))])]⟩) (fun d=>?_) (fun hJ=>?_)
  ·clear hs
   refine Qb 1 ?_
   refine Qy 28 hm (QC _) (fun hm=>?_) (fun hm=>?_)
   ·refine Qb 3 ?_
    refine QF 1 Qc hm rfl (fun _=>rfl) (fun v5 hm=>?_)
    refine Qb 3 ?_
    refine Qg ⟨by kernel_rfl,?_⟩
    obtain rfl:=Qq hm
    exact Qm
   refine Qb 7 ?_
   refine Qg ⟨by kernel_rfl,?_⟩
   obtain rfl:=Qq hm
   exact Qm
  clear hm
  refine Qy 23 hs (QO _ _) (fun hm=>?_) (fun hm=>?_)
  ·refine Qb 4 ?_
   obtain rfl:=Qq hm
   exact hJ _ _
  refine Qb 4 ?_
  obtain rfl:=Qq hm
  exact hJ _ _
 clear hs
 obtain ⟨v6,hs,hm⟩:=Qf hm
 refine Q7 (fun d=>⟨sl d 53 [(6,(.ptr 0 0)),(8,(.ptr 1 0)),(9,(Qd v2))],[(.box [(.dat (.lst ((List.map Qc) []))),(.dat (.lst ((List.map Qc) []))),(.dat (.lst ((List.map Qc) []))),(.dat (.lst ((List.map Qc) []))),(Qd 0),(Qd 0),(.dat (.lst ((List.map Qc) [])))]),(.box [(.dat (.lst ((List.map Qc) v1.left))),(.dat (.lst ((List.map Qc) v1.right))),(.dat (.lst ((List.map Qc) v1.shape))),(.dat (.lst ((List.map Qc) v1.starts))),(Qd v1.axis),(Qd v6),(.dat (.lst ((List.map Qc) v1.perm)))])]⟩) ?_ (fun d=>?_)
 ·replace hm:=hs
  clear hs
  refine Qx hm (QC _) (fun hm=>?_) (fun hm=>?_)
  ·refine Qe (R_G (Qb 3 ?_))
   refine QF 1 Qc hm rfl (fun _=>rfl) (fun v7 hm=>?_)
   refine Qb 2 (Qg (R_G (Qb 1 ?_)))
   refine QF 1 Qc hm rfl (fun _=>rfl) (fun v8 hm=>?_)
   refine Qb 2 ?_
   obtain ⟨v9,hx,hm⟩:=Qf hm
   refine QL rfl (fun _=>QeG (a:=v8) (b:=v7) hx rfl (by kernel_rfl) (by kernel_rfl)) ?_
   refine Qb 3 ?_
   obtain ⟨v10,hx,hm⟩:=Qf hm
   refine QL rfl (fun _=>QeG (a:=(W (v9+v7))) (b:=v7) hx rfl (by kernel_rfl) (by kernel_rfl)) ?_
   refine Qb 2 (Qg ?_)
   obtain rfl:=Qq hm
   exact Qm
  refine Qs ?_
  obtain rfl:=Qq hm
  exact Qm
 clear hs
 refine Qe (R_G (Qb 4 (Qg (Qt ?_))))
 obtain ⟨rfl,rfl⟩:=Zn hm
 exact ⟨trivial,Qk⟩
def Zs (x:((List Int) × (List Int) × Int × (List Int) × Int × Int)):Option (Int) :=
 match x with
 | (p1,p0,v202,v201,v802,v803) =>
 if v803 < (p1.length:Int) then
  (idx p0 v803>>=fun v1204 =>
  if v1204=v202 then
   if v802 < 0 then
    some true
   else
   idx p1 v803>>=fun v1205 =>
   some (decide (v1205 < v802))
  else
  some false
  )>>=fun (v1203:Bool) =>
  if v1203=true then
   idx p1 v803>>=fun v1206 =>
   Zs (p1,p0,v202,v201,v1206,(W (v803+1)))
  else
  Zs (p1,p0,v202,v201,v802,(W (v803+1)))
 else
 some v802
 partial_fixpoint
def QbC:((List Int) × (List Int) × Int × (List Int) × Int × Int)→Int→Prop:=fun x r=>match x with
 | (p1,p0,v202,v201,v802,v803)=>∀ st,prune 4 ((Qw (QD [1,1,0,1,0,0,1,0,0,1,0,1,0,0] (QE f112))).bind (env.hint 112).keepAt) st=⟨kp 55 [(0,(.dat (.lst ((List.map Qc) p0)))),(1,(.dat (.lst ((List.map Qc) p1)))),(4,(.ptr 0 0)),(5,(.ptr 2 0)),(6,(Qd v202)),(7,(Qd v802)),(8,(Qd v803))],[(.box [(.dat (.lst ((List.map Qc) []))),(.dat (.lst ((List.map Qc) []))),(.dat (.lst ((List.map Qc) []))),(.dat (.lst ((List.map Qc) []))),(Qd 0),(Qd 0),(.dat (.lst ((List.map Qc) [])))]),(.tok 3 v201.length),(.box [(.dat (.lst ((List.map Qc) []))),(.dat (.lst ((List.map Qc) p1))),(.vec 1 ((List.map Qc) v201)),(.dat (.lst ((List.map Qc) []))),(Qd (-1)),(Qd 0),(.dat (.lst ((List.map Qc) p0)))]),(.tok 3 (([]:List Int).length))]⟩ →
  RL prog env (env.hint 112) true (QD [1,1,0,1,0,0,1,0,0,1,0,1,0,0] (QE f112)) 4 st (fun e s=>match r with|v1202=>e=.exit 2∧∃ d,s=⟨sl d 55 [(0,(.dat (.lst ((List.map Qc) p0)))),(1,(.dat (.lst ((List.map Qc) p1)))),(4,(.ptr 0 0)),(5,(.ptr 2 0)),(6,(Qd v202)),(7,(Qd v1202))],[(.box [(.dat (.lst ((List.map Qc) []))),(.dat (.lst ((List.map Qc) []))),(.dat (.lst ((List.map Qc) []))),(.dat (.lst ((List.map Qc) []))),(Qd 0),(Qd 0),(.dat (.lst ((List.map Qc) [])))]),(.tok 3 v201.length),(.box [(.dat (.lst ((List.map Qc) []))),(.dat (.lst ((List.map Qc) p1))),(.vec 1 ((List.map Qc) v201)),(.dat (.lst ((List.map Qc) []))),(Qd (-1)),(Qd 0),(.dat (.lst ((List.map Qc) p0)))]),(.tok 3 (([]:List Int).length))]⟩)
theorem XQ:∀ x r,Zs x=some r→QbC x r:=by
 refine Zs.partial_correctness _ (fun Zs XQ x r hm=>?_)
 unfold QbC
 obtain ⟨p1,p0,v202,v201,v802,v803⟩:=x
 intro st hst
 refine RL_at hst ?_
 clear hst
 refine Qe (Qe (R_G (Qb 2 ?_)))
 refine QG Qc p1 (es:=(List.map Qc) p1) rfl ?_
 refine Qb 1 (Qg ?_)
 refine Qx hm (rfl) (fun hm=>?_) (fun hm=>?_)
 ·refine Qs (Qe (Qz (Qe ?_)))
  obtain ⟨v1203,hs,hm⟩:=Qf hm
  refine Q7 (fun d=>⟨sl d 55 [(0,(.dat (.lst ((List.map Qc) p0)))),(1,(.dat (.lst ((List.map Qc) p1)))),(4,(.ptr 0 0)),(5,(.ptr 2 0)),(6,(Qd v202)),(7,(Qd v802)),(8,(Qd v803)),(41,(Qp v1203))],[(.box [(.dat (.lst ((List.map Qc) []))),(.dat (.lst ((List.map Qc) []))),(.dat (.lst ((List.map Qc) []))),(.dat (.lst ((List.map Qc) []))),(Qd 0),(Qd 0),(.dat (.lst ((List.map Qc) [])))]),(.tok 3 v201.length),(.box [(.dat (.lst ((List.map Qc) []))),(.dat (.lst ((List.map Qc) p1))),(.vec 1 ((List.map Qc) v201)),(.dat (.lst ((List.map Qc) []))),(Qd (-1)),(Qd 0),(.dat (.lst ((List.map Qc) p0)))]),(.tok 3 (([]:List Int).length))]⟩) ?_ (fun d=>?_)
  ·replace hm:=hs
   clear hs
   refine R_G (Qb 2 ?_)
   refine QF 1 Qc hm rfl (fun _=>rfl) (fun v1204 hm=>?_)
   refine Qb 4 ?_
   refine Qy 30 hm (QO _ _) (fun hm=>?_) (fun hm=>?_)
   ·refine Qb 3 ?_
    refine Qy 33 hm (rfl) (fun hm=>?_) (fun hm=>?_)
    ·refine Qb 8 (Qg ?_)
     obtain rfl:=Qq hm
     exact Qm
    refine Qb 2 ?_
    refine QF 1 Qc hm rfl (fun _=>rfl) (fun v1205 hm=>?_)
    refine Qb 5 (Qg ?_)
    obtain rfl:=Qq hm
    exact Qm
   refine Qb 11 (Qg ?_)
   obtain rfl:=Qq hm
   exact Qm
  clear hs
  refine Qx hm (QC _) (fun hm=>?_) (fun hm=>?_)
  ·refine R_G (Qb 2 ?_)
   refine QF 1 Qc hm rfl (fun _=>rfl) (fun v1206 hm=>?_)
   refine Qb 2 (Qg (R_G (Qb 3 (Qg ?_))))
   exact XQ _ _ hm _ (by kernel_rfl)
  refine Qs (R_G (Qb 3 (Qg ?_)))
  exact XQ _ _ hm _ (by kernel_rfl)
 refine QP ?_
 obtain rfl:=Qq hm
 exact ⟨rfl,Qm⟩
def Zt (x:((List Int) × (List Int) × (List Int) × Int)):Option ((List Int)) :=
 match x with
 | (p1,p0,v201,v202) =>
 if v202 < (p1.length:Int) then
  Zs (p1,p0,v202,v201,(-1),0)>>=fun (v1202:Int) =>
  if v1202≥0 then
   app 8 v201 ([v1202]:List Int)>>=fun v1207 =>
   Zt (p1,p0,v1207,(W (v202+1)))
  else
  Zt (p1,p0,v201,(W (v202+1)))
 else
 some v201
 partial_fixpoint
def QbE:((List Int) × (List Int) × (List Int) × Int)→(List Int)→Prop:=fun x r=>match x with
 | (p1,p0,v201,v202)=>∀ st,prune 4 ((Qw (QD [1,1,0,1,0,0] (QE f112))).bind (env.hint 112).keepAt) st=⟨kp 55 [(0,(.dat (.lst ((List.map Qc) p0)))),(1,(.dat (.lst ((List.map Qc) p1)))),(4,(.ptr 0 0)),(5,(.ptr 2 0)),(6,(Qd v202))],[(.box [(.dat (.lst ((List.map Qc) []))),(.dat (.lst ((List.map Qc) []))),(.dat (.lst ((List.map Qc) []))),(.dat (.lst ((List.map Qc) []))),(Qd 0),(Qd 0),(.dat (.lst ((List.map Qc) [])))]),(.tok 3 v201.length),(.box [(.dat (.lst ((List.map Qc) []))),(.dat (.lst ((List.map Qc) p1))),(.vec 1 ((List.map Qc) v201)),(.dat (.lst ((List.map Qc) []))),(Qd (-1)),(Qd 0),(.dat (.lst ((List.map Qc) p0)))]),(.tok 3 (([]:List Int).length))]⟩ →
  RL prog env (env.hint 112) true (QD [1,1,0,1,0,0] (QE f112)) 4 st (fun e s=>match r with|v601=>e=.exit 0∧∃ d,s=⟨sl d 55 [(4,(.ptr 0 0)),(5,(.ptr 2 0))],[(.box [(.dat (.lst ((List.map Qc) []))),(.dat (.lst ((List.map Qc) []))),(.dat (.lst ((List.map Qc) []))),(.dat (.lst ((List.map Qc) []))),(Qd 0),(Qd 0),(.dat (.lst ((List.map Qc) [])))]),(.tok 3 v601.length),(.box [(.dat (.lst ((List.map Qc) []))),(.dat (.lst ((List.map Qc) p1))),(.vec 1 ((List.map Qc) v601)),(.dat (.lst ((List.map Qc) []))),(Qd (-1)),(Qd 0),(.dat (.lst ((List.map Qc) p0)))]),(.tok 3 (([]:List Int).length))]⟩)
theorem XP:∀ x r,Zt x=some r→QbE x r:=by
 refine Zt.partial_correctness _ (fun Zt XP x r hm=>?_)
 unfold QbE
 obtain ⟨p1,p0,v201,v202⟩:=x
 intro st hst
 refine RL_at hst ?_
 clear hst
 refine Qe (Qe (R_G (Qb 2 ?_)))
 refine QG Qc p1 (es:=(List.map Qc) p1) rfl ?_
 refine Qb 1 (Qg ?_)
 refine Qx hm (rfl) (fun hm=>?_) (fun hm=>?_)
 ·refine Qs (Qe (Qz (Qe (R_G (Qb 1 (Qg (Qe (Qe (R_G (Qb 1 (Qg ?_)))))))))))
  refine Qz ?_
  obtain ⟨v1202,hs,hm⟩:=Qf hm
  refine QT ?_
  refine RL_use (XQ _ _ hs) (by kernel_rfl) ?_
  clear hs
  intro e s hp
  obtain ⟨rfl,d,rfl⟩:=hp
  refine Qe (R_G (Qb 2 (Qg ?_)))
  refine Qx hm (rfl) (fun hm=>?_) (fun hm=>?_)
  ·refine R_G (Qb 4 ?_)
   obtain ⟨v1207,hx,hm⟩:=Qf hm
   refine YZ 3 1 8 1 Qc v201 ([v1202]:List Int) v1207 (xs:=(List.map Qc) v201) (es:=(List.map Qc) ([v1202]:List Int)) (L:=(List.map Qc)) (fun _=>rfl) rfl rfl (fun _=>rfl) hx ?_
   refine Qb 2 (Qg (R_G (Qb 3 (Qg ?_))))
   exact XP _ _ hm _ (by kernel_rfl)
  refine Qs (R_G (Qb 3 (Qg ?_)))
  exact XP _ _ hm _ (by kernel_rfl)
 refine QP ?_
 obtain rfl:=Qq hm
 exact ⟨rfl,Qm⟩
def Xf (x:((List Int) × (List Int))):Option Qu :=
 match x with
 | (p0,p1) =>
 Zt (p1,p0,([]:List Int),0)>>=fun (v601:(List Int)) =>
 some (⟨([]:(List Int)),p1,v601,([]:(List Int)),(-1),0,p0⟩:Qu)
def QcF:((List Int) × (List Int))→Qu→Prop:=fun x r=>match x,r with
 | (p0,p1),r0=>∀ H,PC prog env 112 ([(.lst ((List.map Qc) p0)),(.lst ((List.map Qc) p1))].map .dat) H (.dat (Qu.toD r0)) H
theorem QcJ:∀ x r,Xf x=some r→QcF x r:=by
 intro x r0 hm
 unfold Xf at hm
 unfold QcF
 obtain ⟨p0,p1⟩:=x
 intro H
 refine PC_sx (ds:=[(.lst ((List.map Qc) p0)),(.lst ((List.map Qc) p1))]) (fn:=f112) rfl ?_
 refine Qe (R_G (Qb 1 (Qg (Qe (R_G (Qb 5 (Qg (Qe (Qe (R_G (Qb 1 ?_)))))))))))
 refine Qg (Qz ?_)
 obtain ⟨v601,hs,hm⟩:=Qf hm
 refine QT ?_
 refine RL_use (XP _ _ hs) (by kernel_rfl) ?_
 clear hs
 intro e s hp
 obtain ⟨rfl,d,rfl⟩:=hp
 refine Qe (R_G (Qb 2 (Qg (Qt ?_))))
 obtain rfl:=Qq hm
 exact ⟨trivial,Qk⟩
def YG (x:((List Int) × (List Int) × Int)):Option ((List Int)) :=
 match x with
 | (p0,v201,v202) =>
 if v202≥0 then
  app 8 v201 ([v202]:List Int)>>=fun v602 =>
  YG (p0,v602,(W (v202 - 1)))
 else
 some v201
 partial_fixpoint
def Qc4:((List Int) × (List Int) × Int)→(List Int)→Prop:=fun x r=>match x with
 | (p0,v201,v202)=>∀ st,prune 2 ((Qw (QD [1,1,0,1,0,0] (QE f88))).bind (env.hint 88).keepAt) st=⟨kp 19 [(0,(.dat (.lst ((List.map Qc) p0)))),(2,(.ptr 0 0)),(3,(.vec 1 ((List.map Qc) v201))),(4,(Qd v202))],[(.box [(.dat (.lst ((List.map Qc) []))),(.dat (.lst ((List.map Qc) []))),(.dat (.lst ((List.map Qc) []))),(.dat (.lst ((List.map Qc) []))),(Qd 0),(Qd 0),(.dat (.lst ((List.map Qc) [])))]),(.tok 3 v201.length)]⟩ →
  RL prog env (env.hint 88) true (QD [1,1,0,1,0,0] (QE f88)) 2 st (fun e s=>match r with|v601=>e=.exit 0∧∃ d,s=⟨sl d 19 [(0,(.dat (.lst ((List.map Qc) p0)))),(2,(.ptr 0 0)),(3,(.vec 1 ((List.map Qc) v601)))],[(.box [(.dat (.lst ((List.map Qc) []))),(.dat (.lst ((List.map Qc) []))),(.dat (.lst ((List.map Qc) []))),(.dat (.lst ((List.map Qc) []))),(Qd 0),(Qd 0),(.dat (.lst ((List.map Qc) [])))]),(.tok 3 v601.length)]⟩)
theorem Qby:∀ x r,YG x=some r→Qc4 x r:=by
 refine YG.partial_correctness _ (fun YG Qby x r hm=>?_)
 unfold Qc4
 obtain ⟨p0,v201,v202⟩:=x
 intro st hst
 refine RL_at hst ?_
 clear hst
 refine Qe (Qe (R_G (Qb 2 (Qg ?_))))
 refine Qx hm (rfl) (fun hm=>?_) (fun hm=>?_)
 ·refine Qs (Qe (Qz (R_G (Qb 3 ?_))))
  obtain ⟨v602,hx,hm⟩:=Qf hm
  refine YZ 3 1 8 1 Qc v201 ([v202]:List Int) v602 (xs:=(List.map Qc) v201) (es:=(List.map Qc) ([v202]:List Int)) (L:=(List.map Qc)) (fun _=>rfl) rfl rfl (fun _=>rfl) hx ?_
  refine Qb 1 (Qg (R_G (Qb 3 (Qg ?_))))
  exact Qby _ _ hm _ (by kernel_rfl)
 refine QP ?_
 obtain rfl:=Qq hm
 exact ⟨rfl,Qm⟩
def JM (x:(List Int)):Option Qu :=
 match x with
 | p0 =>
 YG (p0,([]:List Int),(W ((p0.length:Int) - 1)))>>=fun (v601:(List Int)) =>
 Xf (v601,p0)>>=fun (v603:Qu) =>
 some v603
def QeN:(List Int)→Qu→Prop:=fun x r=>match x,r with
 | p0,r0=>∀ H,PC prog env 88 ([(.lst ((List.map Qc) p0))].map .dat) H (.dat (Qu.toD r0)) H
theorem QeL:∀ x r,JM x=some r→QeN x r:=by
 intro p0 r0 hm
 unfold JM at hm
 unfold QeN
 intro H
 refine PC_sx (ds:=[(.lst ((List.map Qc) p0))]) (fn:=f88) rfl ?_
 refine Qe (R_G (Qb 1 (Qg (Qe (R_G (Qb 1 (Qg (Qe (Qe (R_G (Qb 1 ?_)))))))))))
 refine QG Qc p0 (es:=(List.map Qc) p0) rfl ?_
 refine Qb 2 (Qg (Qz ?_))
 obtain ⟨v601,hs,hm⟩:=Qf hm
 refine QT ?_
 refine RL_use (Qby _ _ hs) (by kernel_rfl) ?_
 clear hs
 intro e s hp
 obtain ⟨rfl,d,rfl⟩:=hp
 refine Qe (R_G (Qb 2 ?_))
 obtain ⟨v603,hx,hm⟩:=Qf hm
 have hq:=QcJ _ _ hx []
 refine Qr hq ?_
 refine Qb 1 (Qg (Qt ?_))
 obtain rfl:=Qq hm
 exact ⟨trivial,Qk⟩
def Zh (x:(Int × QK × (List Int) × Int × Int)):Option (Nat ⊕ ((List Int) × Int)) :=
 match x with
 | (p1,p0,v201,v202,v203) =>
 if v203 < p1 then
  (idx p0.values v203>>=fun v605 =>
  if v605 < 0 then
   some true
  else
  idx p0.values v203>>=fun v606 =>
  some (decide (v606≥p1))
  )>>=fun (v604:Bool) =>
  if v604=true then
   some (Sum.inl v201.length)
  else
  idx p0.values v203>>=fun v607 =>
  app 8 v201 ([v607]:List Int)>>=fun v608 =>
  idx v608 v203>>=fun v609 =>
  Zh (p1,p0,v608,(if v202 < v609 then v609 else v202),(W (v203+1)))
 else
 some (Sum.inr (v201,v202))
 partial_fixpoint
def QaP:(Int × QK × (List Int) × Int × Int)→(Nat ⊕ ((List Int) × Int))→Prop:=fun x r=>match x with
 | (p1,p0,v201,v202,v203)=>∀ st,prune 2 ((Qw (QD [1,1,1,1,0,1,0,0] (QE f113))).bind (env.hint 113).keepAt) st=⟨kp 73 [(1,(Qd p1)),(2,(.ptr 0 0)),(6,(.vec 1 ((List.map Qc) v201))),(7,(Qd v202)),(8,(Qd v203))],[(.box [(.dat (.lst ((List.map Qc) p0.values))),(Qp p0.scalar)]),(.tok 3 v201.length)]⟩ →
  RL prog env (env.hint 113) true (QD [1,1,1,1,0,1,0,0] (QE f113)) 2 st (fun e s=>match r with|.inl v601=>e=.ret∧∃ d,s=⟨sl d 73 [(4,(.dat (.lst ((List.map Qc) [])))),(5,(Qd 6))],[(.box [(.dat (.lst ((List.map Qc) p0.values))),(Qp p0.scalar)]),(.tok 3 v601)]⟩|.inr ((v602,v603))=>e=.exit 0∧∃ d,s=⟨sl d 73 [(1,(Qd p1)),(6,(.vec 1 ((List.map Qc) v602))),(7,(Qd v603))],[(.box [(.dat (.lst ((List.map Qc) p0.values))),(Qp p0.scalar)]),(.tok 3 v602.length)]⟩)
theorem Y8:∀ x r,Zh x=some r→QaP x r:=by
 refine Zh.partial_correctness _ (fun Zh Y8 x r hm=>?_)
 unfold QaP
 obtain ⟨p1,p0,v201,v202,v203⟩:=x
 intro st hst
 refine RL_at hst ?_
 clear hst
 refine Qe (Qe (R_G (Qb 3 (Qg ?_))))
 refine Qx hm (rfl) (fun hm=>?_) (fun hm=>?_)
 ·refine Qs (Qe (Qz (Qe (Qe ?_))))
  obtain ⟨v604,hs,hm⟩:=Qf hm
  refine Q7 (fun d=>⟨sl d 73 [(1,(Qd p1)),(2,(.ptr 0 0)),(6,(.vec 1 ((List.map Qc) v201))),(7,(Qd v202)),(8,(Qd v203)),(36,(Qp v604))],[(.box [(.dat (.lst ((List.map Qc) p0.values))),(Qp p0.scalar)]),(.tok 3 v201.length)]⟩) ?_ (fun d=>?_)
  ·replace hm:=hs
   clear hs
   refine R_G (Qb 3 ?_)
   refine QF 1 Qc hm rfl (fun _=>rfl) (fun v605 hm=>?_)
   refine Qb 3 ?_
   refine Qy 28 hm (rfl) (fun hm=>?_) (fun hm=>?_)
   ·refine Qb 8 (Qg ?_)
    obtain rfl:=Qq hm
    exact Qm
   refine Qb 3 ?_
   refine QF 1 Qc hm rfl (fun _=>rfl) (fun v606 hm=>?_)
   refine Qb 4 (Qg ?_)
   obtain rfl:=Qq hm
   exact Qm
  clear hs
  refine Qx hm (QC _) (fun hm=>?_) (fun hm=>?_)
  ·refine Qe (R_G (Qb 2 (Qg (Qt ?_))))
   obtain rfl:=Qq hm
   exact ⟨rfl,Qm⟩
  refine Qs (Qe (R_G (Qb 4 ?_)))
  refine QF 1 Qc hm rfl (fun _=>rfl) (fun v607 hm=>?_)
  refine Qb 2 ?_
  obtain ⟨v608,hx,hm⟩:=Qf hm
  refine YZ 3 1 8 1 Qc v201 ([v607]:List Int) v608 (xs:=(List.map Qc) v201) (es:=(List.map Qc) ([v607]:List Int)) (L:=(List.map Qc)) (fun _=>rfl) rfl rfl (fun _=>rfl) hx ?_
  refine Qb 1 (Qg (R_G (Qb 3 ?_)))
  refine QF 1 Qc hm rfl (fun _=>rfl) (fun v609 hm=>?_)
  refine Qb 1 ?_
  refine QL rfl (fun _=>QfU (k:=.i64) (m:=v202) (n:=v609) rfl (by kernel_rfl) (by kernel_rfl)) ?_
  refine Qb 1 (Qg (R_G (Qb 3 (Qg ?_))))
  exact Y8 _ _ hm _ (by kernel_rfl)
 refine QP ?_
 obtain rfl:=Qq hm
 exact ⟨rfl,Qm⟩
def Q8 (x:(Int × (List Int) × Int × Int × QK × Bool × Int)):Option (Bool) :=
 match x with
 | (p1,v602,v810,v603,p0,v1410,v1411) =>
 if v1411 < p1 then
  if v1410=true then
   Q8 (p1,v602,v810,v603,p0,true,(W (v1411+1)))
  else
  idx v602 v1411>>=fun v1811 =>
  Q8 (p1,v602,v810,v603,p0,(v1811 == v810),(W (v1411+1)))
 else
 some v1410
 partial_fixpoint
def QaN:(Int × (List Int) × Int × Int × QK × Bool × Int)→Bool→Prop:=fun x r=>match x with
 | (p1,v602,v810,v603,p0,v1410,v1411)=>∀ st,prune 2 ((Qw (QD [1,1,1,1,1,0,1,0,0,1,0,0,1,0,1,0,0] (QE f113))).bind (env.hint 113).keepAt) st=⟨kp 73 [(1,(Qd p1)),(6,(.vec 1 ((List.map Qc) v602))),(7,(Qd v603)),(9,(Qd v810)),(10,(Qp v1410)),(11,(Qd v1411))],[(.box [(.dat (.lst ((List.map Qc) p0.values))),(Qp p0.scalar)]),(.tok 3 v602.length)]⟩ →
  RL prog env (env.hint 113) true (QD [1,1,1,1,1,0,1,0,0,1,0,0,1,0,1,0,0] (QE f113)) 2 st (fun e s=>match r with|v1810=>e=.exit 4∧∃ d,s=⟨sl d 73 [(1,(Qd p1)),(6,(.vec 1 ((List.map Qc) v602))),(7,(Qd v603)),(9,(Qd v810)),(10,(Qp v1810))],[(.box [(.dat (.lst ((List.map Qc) p0.values))),(Qp p0.scalar)]),(.tok 3 v602.length)]⟩)
theorem Y7:∀ x r,Q8 x=some r→QaN x r:=by
 refine Q8.partial_correctness _ (fun Q8 Y7 x r hm=>?_)
 unfold QaN
 obtain ⟨p1,v602,v810,v603,p0,v1410,v1411⟩:=x
 intro st hst
 refine RL_at hst ?_
 clear hst
 refine Qe (Qe (R_G (Qb 3 (Qg ?_))))
 refine Qx hm (rfl) (fun hm=>?_) (fun hm=>?_)
 ·refine Qs (Qe (Qz (R_G (Qb 2 ?_))))
  refine Qy 62 hm (QC _) (fun hm=>?_) (fun hm=>?_)
  ·refine Qb 8 (Qg (R_G (Qb 3 (Qg ?_))))
   exact Y7 _ _ hm _ (by kernel_rfl)
  refine Qb 2 ?_
  refine QF 1 Qc hm rfl (fun _=>rfl) (fun v1811 hm=>?_)
  refine Qb 5 (Qg (R_G (Qb 3 (Qg ?_))))
  exact Y7 _ _ hm _ (by kernel_rfl)
 refine QP ?_
 obtain rfl:=Qq hm
 exact ⟨rfl,Qm⟩
def Zi (x:(Int × Int × (List Int) × QK × Int)):Option (Unit ⊕ Unit) :=
 match x with
 | (v603,p1,v602,p0,v810) =>
 if v810≤v603 then
  Q8 (p1,v602,v810,v603,p0,false,0)>>=fun (v1810:Bool) =>
  if v1810=false then
   some (Sum.inl ())
  else
  Zi (v603,p1,v602,p0,(W (v810+1)))
 else
 some (Sum.inr ())
 partial_fixpoint
def QaU:(Int × Int × (List Int) × QK × Int)→(Unit ⊕ Unit)→Prop:=fun x r=>match x with
 | (v603,p1,v602,p0,v810)=>∀ st,prune 2 ((Qw (QD [1,1,1,1,1,0,1,0,0] (QE f113))).bind (env.hint 113).keepAt) st=⟨kp 73 [(1,(Qd p1)),(6,(.vec 1 ((List.map Qc) v602))),(7,(Qd v603)),(9,(Qd v810))],[(.box [(.dat (.lst ((List.map Qc) p0.values))),(Qp p0.scalar)]),(.tok 3 v602.length)]⟩ →
  RL prog env (env.hint 113) true (QD [1,1,1,1,1,0,1,0,0] (QE f113)) 2 st (fun e s=>match r with|.inl _=>e=.ret∧∃ d,s=⟨sl d 73 [(4,(.dat (.lst ((List.map Qc) [])))),(5,(Qd 6))],[(.box [(.dat (.lst ((List.map Qc) p0.values))),(Qp p0.scalar)]),(.tok 3 v602.length)]⟩|.inr (_)=>e=.exit 2∧∃ d,s=⟨sl d 73 [(6,(.vec 1 ((List.map Qc) v602)))],[(.box [(.dat (.lst ((List.map Qc) p0.values))),(Qp p0.scalar)]),(.tok 3 v602.length)]⟩)
theorem Xb:∀ x r,Zi x=some r→QaU x r:=by
 refine Zi.partial_correctness _ (fun Zi Xb x r hm=>?_)
 unfold QaU
 obtain ⟨v603,p1,v602,p0,v810⟩:=x
 intro st hst
 refine RL_at hst ?_
 clear hst
 refine Qe (Qe (R_G (Qb 3 (Qg ?_))))
 refine Qx hm (rfl) (fun hm=>?_) (fun hm=>?_)
 ·refine Qs (Qe (Qz (Qe (R_G (Qb 1 (Qg (Qe (Qe (R_G (Qb 1 (Qg ?_)))))))))))
  refine Qz ?_
  obtain ⟨v1810,hs,hm⟩:=Qf hm
  refine QT ?_
  refine RL_use (Y7 _ _ hs) (by kernel_rfl) ?_
  clear hs
  intro e s hp
  obtain ⟨rfl,d,rfl⟩:=hp
  refine Qe (R_G (Qb 2 (Qg ?_)))
  refine Qx hm (ZL _) (fun hm=>?_) (fun hm=>?_)
  ·refine Qe (R_G (Qb 2 (Qg (Qt ?_))))
   obtain rfl:=Qq hm
   exact ⟨rfl,Qm⟩
  refine Qs (R_G (Qb 3 (Qg ?_)))
  exact Xb _ _ hm _ (by kernel_rfl)
 refine QP ?_
 obtain rfl:=Qq hm
 exact ⟨rfl,Qm⟩
def Y3 (x:(QK × Int)):Option ((List Int) × Int) :=
 match x with
 | (p0,p1) =>
 if (p0.values.length:Int)≠p1 then
  some (([]:(List Int)),5)
 else
 (
 Zh (p1,p0,([]:List Int),(-1),0)>>=fun (out:Nat ⊕ ((List Int) × Int)) =>
 match out with
 | .inl v601 =>
  some (([]:(List Int)),6)
 | .inr ((v602,v603)) =>
  (
  Zi (v603,p1,v602,p0,0)>>=fun (out:Unit ⊕ Unit) =>
  match out with
  | .inl _ =>
   some (([]:(List Int)),6)
  | .inr (_) =>
   some (v602,0)
  )
 )
def QbG:(QK × Int)→((List Int) × Int)→Prop:=fun x r=>match x,r with
 | (p0,p1),(r0,r1)=>∀ H,PC prog env 113 ([(QK.toD p0),(Qc p1)].map .dat) H (.tup [(.dat (.lst ((List.map Qc) r0))),(Qd r1)]) H
theorem QdH:∀ x r,Y3 x=some r→QbG x r:=by
 intro x r hm
 unfold Y3 at hm
 unfold QbG
 obtain ⟨p0,p1⟩:=x
 obtain ⟨r0,r1⟩:=r
 intro H
 refine PC_sx (ds:=[(QK.toD p0),(Qc p1)]) (fn:=f113) rfl ?_
 refine Qe (R_G (Qb 3 (Qg (Qe (Qe (R_G (Qb 2 ?_)))))))
 refine QG Qc p0.values (es:=(List.map Qc) p0.values) rfl ?_
 refine Qb 2 (Qg ?_)
 refine Qx hm (ne_dec _ _) (fun hm=>?_) (fun hm=>?_)
 ·refine Qe (R_G (Qb 2 (Qg (Qt ?_))))
  obtain ⟨rfl,rfl⟩:=Zn hm
  exact ⟨trivial,Qk⟩
 refine Qs (Qe (R_G (Qb 1 (Qg (Qe (R_G (Qb 1 (Qg (Qe (Qe (R_G ?_)))))))))))
 refine Qb 1 (Qg (Qz ?_))
 obtain ⟨out,hs,hm⟩:=Qf hm
 refine QT ?_
 rcases out with v601|⟨v602,v603⟩
 ·refine RL_use (Y8 _ _ hs) (by kernel_rfl) ?_
  clear hs
  intro e s hp
  obtain ⟨rfl,d,rfl⟩:=hp
  obtain ⟨rfl,rfl⟩:=Zn hm
  exact ⟨trivial,Qk⟩
 ·refine RL_use (Y8 _ _ hs) (by kernel_rfl) ?_
  clear hs
  intro e s hp
  obtain ⟨rfl,d,rfl⟩:=hp
  refine Qe (Qe (R_G (Qb 1 (Qg (Qz ?_)))))
  obtain ⟨out,hs,hm⟩:=Qf hm
  refine QT ?_
  rcases out with _|_
  ·refine RL_use (Xb _ _ hs) (by kernel_rfl) ?_
   clear hs
   intro e s hp
   obtain ⟨rfl,d,rfl⟩:=hp
   obtain ⟨rfl,rfl⟩:=Zn hm
   exact ⟨trivial,Qk⟩
  ·refine RL_use (Xb _ _ hs) (by kernel_rfl) ?_
   clear hs
   intro e s hp
   obtain ⟨rfl,d,rfl⟩:=hp
   refine Qe (R_G (Qb 3 (Qg (Qt ?_))))
   obtain ⟨rfl,rfl⟩:=Zn hm
   exact ⟨trivial,Qk⟩
def YV (x:((List Int) × (List Int))):Option (Qu × Int) :=
 match x with
 | (p0,p1) =>
 Y3 ((⟨p0,false⟩:QK),(p1.length:Int))>>=fun ((v1,v2):((List Int) × Int)) =>
 if v2≠0 then
  some ((⟨([]:(List Int)),([]:(List Int)),([]:(List Int)),([]:(List Int)),0,0,([]:(List Int))⟩:Qu),v2)
 else
 Xf (v1,p1)>>=fun (v3:Qu) =>
 some (v3,0)
def Qcj:((List Int) × (List Int))→(Qu × Int)→Prop:=fun x r=>match x,r with
 | (p0,p1),(r0,r1)=>∀ H,PC prog env 89 ([(.lst ((List.map Qc) p0)),(.lst ((List.map Qc) p1))].map .dat) H (.tup [(.dat (Qu.toD r0)),(Qd r1)]) H
theorem Qcm:∀ x r,YV x=some r→Qcj x r:=by
 intro x r hm
 unfold YV at hm
 unfold Qcj
 obtain ⟨p0,p1⟩:=x
 obtain ⟨r0,r1⟩:=r
 intro H
 refine PC_sx (ds:=[(.lst ((List.map Qc) p0)),(.lst ((List.map Qc) p1))]) (fn:=f89) rfl ?_
 refine Qe (R_G (Qb 2 (Qg (Qe (R_G (Qb 3 ?_))))))
 refine QG Qc p1 (es:=(List.map Qc) p1) rfl ?_
 obtain ⟨⟨v1,v2⟩,hx,hm⟩:=Qf hm
 have hq:=QdH _ _ hx []
 refine Qr hq ?_
 refine Qb 5 (Qg (Qe (Qe (R_G (Qb 2 (Qg ?_))))))
 refine Qx hm (ne_dec _ _) (fun hm=>?_) (fun hm=>?_)
 ·refine Qe (R_G (Qb 4 (Qg (Qt ?_))))
  obtain ⟨rfl,rfl⟩:=Zn hm
  exact ⟨trivial,Qk⟩
 refine Qs (Qe (R_G (Qb 2 ?_)))
 obtain ⟨v3,hx,hm⟩:=Qf hm
 have hq:=QcJ _ _ hx []
 refine Qr hq ?_
 refine Qb 2 (Qg (Qt ?_))
 obtain ⟨rfl,rfl⟩:=Zn hm
 exact ⟨trivial,Qk⟩
def Zq (x:(QK × Int)):Option (Unit ⊕ Unit) :=
 match x with
 | (p0,v201) =>
 if v201 < (p0.values.length:Int) then
  idx p0.values v201>>=fun v601 =>
  if v601 < 0 then
   some (Sum.inl ())
  else
  Zq (p0,(W (v201+1)))
 else
 some (Sum.inr ())
 partial_fixpoint
def QaX:(QK × Int)→(Unit ⊕ Unit)→Prop:=fun x r=>match x with
 | (p0,v201)=>∀ st,prune 1 ((Qw (QD [1,0,1,0,0] (QE f114))).bind (env.hint 114).keepAt) st=⟨kp 52 [(1,(.ptr 0 0)),(4,(Qd v201))],[(.box [(.dat (.lst ((List.map Qc) p0.values))),(Qp p0.scalar)])]⟩ →
  RL prog env (env.hint 114) true (QD [1,0,1,0,0] (QE f114)) 1 st (fun e s=>match r with|.inl _=>e=.ret∧∃ d,s=⟨sl d 52 [(2,(.dat (.lst ((List.map Qc) [])))),(3,(Qd 6))],[(.box [(.dat (.lst ((List.map Qc) p0.values))),(Qp p0.scalar)])]⟩|.inr (_)=>e=.exit 0∧∃ d,s=⟨sl d 52 [(1,(.ptr 0 0))],[(.box [(.dat (.lst ((List.map Qc) p0.values))),(Qp p0.scalar)])]⟩)
theorem Xr:∀ x r,Zq x=some r→QaX x r:=by
 refine Zq.partial_correctness _ (fun Zq Xr x r hm=>?_)
 unfold QaX
 obtain ⟨p0,v201⟩:=x
 intro st hst
 refine RL_at hst ?_
 clear hst
 refine Qe (Qe (R_G (Qb 3 ?_)))
 refine QG Qc p0.values (es:=(List.map Qc) p0.values) rfl ?_
 refine Qb 1 (Qg ?_)
 refine Qx hm (rfl) (fun hm=>?_) (fun hm=>?_)
 ·refine Qs (Qe (Qz (Qe (R_G (Qb 3 ?_)))))
  refine QF 1 Qc hm rfl (fun _=>rfl) (fun v601 hm=>?_)
  refine Qb 2 (Qg ?_)
  refine Qx hm (rfl) (fun hm=>?_) (fun hm=>?_)
  ·refine Qe (R_G (Qb 2 (Qg (Qt ?_))))
   obtain rfl:=Qq hm
   exact ⟨rfl,Qm⟩
  refine Qs (R_G (Qb 3 (Qg ?_)))
  exact Xr _ _ hm _ (by kernel_rfl)
 refine QP ?_
 obtain rfl:=Qq hm
 exact ⟨rfl,Qm⟩
def Zp (x:(QK × (List Int) × Int)):Option (Nat ⊕ (List Int)) :=
 match x with
 | (p0,v802,v803) =>
 if v803 < (p0.values.length:Int) then
  (if v803≥16 then
   some true
  else
  idx p0.values v803>>=fun v1205 =>
  some (decide (v1205 > 65536))
  )>>=fun (v1204:Bool) =>
  if v1204=true then
   some (Sum.inl v802.length)
  else
  idx p0.values v803>>=fun v1206 =>
  app 8 v802 ([v1206]:List Int)>>=fun v1207 =>
  Zp (p0,v1207,(W (v803+1)))
 else
 some (Sum.inr v802)
 partial_fixpoint
def Qa0:(QK × (List Int) × Int)→(Nat ⊕ (List Int))→Prop:=fun x r=>match x with
 | (p0,v802,v803)=>∀ st,prune 2 ((Qw (QD [1,1,1,0,1,0,0] (QE f114))).bind (env.hint 114).keepAt) st=⟨kp 52 [(1,(.ptr 0 0)),(5,(.vec 1 ((List.map Qc) v802))),(6,(Qd v803))],[(.box [(.dat (.lst ((List.map Qc) p0.values))),(Qp p0.scalar)]),(.tok 3 v802.length)]⟩ →
  RL prog env (env.hint 114) true (QD [1,1,1,0,1,0,0] (QE f114)) 2 st (fun e s=>match r with|.inl v1202=>e=.ret∧∃ d,s=⟨sl d 52 [(2,(.dat (.lst ((List.map Qc) [])))),(3,(Qd 7))],[(.box [(.dat (.lst ((List.map Qc) p0.values))),(Qp p0.scalar)]),(.tok 3 v1202)]⟩|.inr (v1203)=>e=.exit 2∧∃ d,s=⟨sl d 52 [(5,(.vec 1 ((List.map Qc) v1203)))],[(.box [(.dat (.lst ((List.map Qc) p0.values))),(Qp p0.scalar)]),(.tok 3 v1203.length)]⟩)
theorem Xs:∀ x r,Zp x=some r→Qa0 x r:=by
 refine Zp.partial_correctness _ (fun Zp Xs x r hm=>?_)
 unfold Qa0
 obtain ⟨p0,v802,v803⟩:=x
 intro st hst
 refine RL_at hst ?_
 clear hst
 refine Qe (Qe (R_G (Qb 3 ?_)))
 refine QG Qc p0.values (es:=(List.map Qc) p0.values) rfl ?_
 refine Qb 1 (Qg ?_)
 refine Qx hm (rfl) (fun hm=>?_) (fun hm=>?_)
 ·refine Qs (Qe (Qz (Qe (Qe ?_))))
  obtain ⟨v1204,hs,hm⟩:=Qf hm
  refine Q7 (fun d=>⟨sl d 52 [(1,(.ptr 0 0)),(5,(.vec 1 ((List.map Qc) v802))),(6,(Qd v803)),(37,(Qp v1204))],[(.box [(.dat (.lst ((List.map Qc) p0.values))),(Qp p0.scalar)]),(.tok 3 v802.length)]⟩) ?_ (fun d=>?_)
  ·replace hm:=hs
   clear hs
   refine R_G (Qb 3 ?_)
   refine Qy 30 hm (rfl) (fun hm=>?_) (fun hm=>?_)
   ·refine Qb 7 (Qg ?_)
    obtain rfl:=Qq hm
    exact Qm
   refine Qb 3 ?_
   refine QF 1 Qc hm rfl (fun _=>rfl) (fun v1205 hm=>?_)
   refine Qb 3 (Qg ?_)
   obtain rfl:=Qq hm
   exact Qm
  clear hs
  refine Qx hm (QC _) (fun hm=>?_) (fun hm=>?_)
  ·refine Qe (R_G (Qb 2 (Qg (Qt ?_))))
   obtain rfl:=Qq hm
   exact ⟨rfl,Qm⟩
  refine Qs (R_G (Qb 4 ?_))
  refine QF 1 Qc hm rfl (fun _=>rfl) (fun v1206 hm=>?_)
  refine Qb 2 ?_
  obtain ⟨v1207,hx,hm⟩:=Qf hm
  refine YZ 3 1 8 1 Qc v802 ([v1206]:List Int) v1207 (xs:=(List.map Qc) v802) (es:=(List.map Qc) ([v1206]:List Int)) (L:=(List.map Qc)) (fun _=>rfl) rfl rfl (fun _=>rfl) hx ?_
  refine Qb 1 (Qg (R_G (Qb 3 (Qg ?_))))
  exact Xs _ _ hm _ (by kernel_rfl)
 refine QP ?_
 obtain rfl:=Qq hm
 exact ⟨rfl,Qm⟩
def Jb (x:QK):Option ((List Int) × Int) :=
 match x with
 | p0 =>
 (
 Zq (p0,0)>>=fun (out:Unit ⊕ Unit) =>
 match out with
 | .inl _ =>
  some (([]:(List Int)),6)
 | .inr (_) =>
  (
  Zp (p0,([]:List Int),0)>>=fun (out:Nat ⊕ (List Int)) =>
  match out with
  | .inl v1202 =>
   some (([]:(List Int)),7)
  | .inr (v1203) =>
   Yg v1203>>=fun (v1208:Int) =>
   if v1208≠0 then
    some (([]:(List Int)),v1208)
   else
   some (v1203,0)
  )
 )
def QbS:QK→((List Int) × Int)→Prop:=fun x r=>match x,r with
 | p0,(r0,r1)=>∀ H,PC prog env 114 ([(QK.toD p0)].map .dat) H (.tup [(.dat (.lst ((List.map Qc) r0))),(Qd r1)]) H
theorem Qeg:∀ x r,Jb x=some r→QbS x r:=by
 intro p0 r hm
 unfold Jb at hm
 unfold QbS
 obtain ⟨r0,r1⟩:=r
 intro H
 refine PC_sx (ds:=[(QK.toD p0)]) (fn:=f114) rfl ?_
 refine Qe (R_G (Qb 3 (Qg (Qe (Qe (R_G (Qb 1 (Qg (Qz ?_)))))))))
 obtain ⟨out,hs,hm⟩:=Qf hm
 refine QT ?_
 rcases out with _|_
 ·refine RL_use (Xr _ _ hs) (by kernel_rfl) ?_
  clear hs
  intro e s hp
  obtain ⟨rfl,d,rfl⟩:=hp
  obtain ⟨rfl,rfl⟩:=Zn hm
  exact ⟨trivial,Qk⟩
 ·refine RL_use (Xr _ _ hs) (by kernel_rfl) ?_
  clear hs
  intro e s hp
  obtain ⟨rfl,d,rfl⟩:=hp
  refine Qe (R_G (Qb 1 (Qg (Qe (Qe (R_G (Qb 1 (Qg (Qz ?_)))))))))
  obtain ⟨out,hs,hm⟩:=Qf hm
  refine QT ?_
  rcases out with v1202|v1203
  ·refine RL_use (Xs _ _ hs) (by kernel_rfl) ?_
   clear hs
   intro e s hp
   obtain ⟨rfl,d,rfl⟩:=hp
   obtain ⟨rfl,rfl⟩:=Zn hm
   exact ⟨trivial,Qk⟩
  ·refine RL_use (Xs _ _ hs) (by kernel_rfl) ?_
   clear hs
   intro e s hp
   obtain ⟨rfl,d,rfl⟩:=hp
   refine Qe (R_G (Qb 1 ?_))
   obtain ⟨v1208,hx,hm⟩:=Qf hm
   have hq:=XJ _ _ hx []
   refine Qr hq ?_
   refine Qb 1 (Qg (Qe (Qe (R_G (Qb 2 (Qg ?_))))))
   refine Qx hm (ne_dec _ _) (fun hm=>?_) (fun hm=>?_)
   ·refine Qe (R_G (Qb 3 (Qg (Qt ?_))))
    obtain ⟨rfl,rfl⟩:=Zn hm
    exact ⟨trivial,Qk⟩
   refine Qs (Qe (R_G (Qb 3 (Qg (Qt ?_)))))
   obtain ⟨rfl,rfl⟩:=Zn hm
   exact ⟨trivial,Qk⟩
def Xy (x:((List Int) × (List Int))):Option (Qu × Int) :=
 match x with
 | (p0,p1) =>
 Jb (⟨p0,false⟩:QK)>>=fun ((v1,v2):((List Int) × Int)) =>
 if v2≠0 then
  some ((⟨([]:(List Int)),([]:(List Int)),([]:(List Int)),([]:(List Int)),0,0,([]:(List Int))⟩:Qu),v2)
 else
 some ((⟨([]:(List Int)),p1,v1,([]:(List Int)),(-1),0,([]:(List Int))⟩:Qu),0)
def Qc7:((List Int) × (List Int))→(Qu × Int)→Prop:=fun x r=>match x,r with
 | (p0,p1),(r0,r1)=>∀ H,PC prog env 90 ([(.lst ((List.map Qc) p0)),(.lst ((List.map Qc) p1))].map .dat) H (.tup [(.dat (Qu.toD r0)),(Qd r1)]) H
theorem Qc3:∀ x r,Xy x=some r→Qc7 x r:=by
 intro x r hm
 unfold Xy at hm
 unfold Qc7
 obtain ⟨p0,p1⟩:=x
 obtain ⟨r0,r1⟩:=r
 intro H
 refine PC_sx (ds:=[(.lst ((List.map Qc) p0)),(.lst ((List.map Qc) p1))]) (fn:=f90) rfl ?_
 refine Qe (R_G (Qb 2 (Qg (Qe (R_G (Qb 2 ?_))))))
 obtain ⟨⟨v1,v2⟩,hx,hm⟩:=Qf hm
 have hq:=Qeg _ _ hx []
 refine Qr hq ?_
 refine Qb 5 (Qg (Qe (Qe (R_G (Qb 2 (Qg ?_))))))
 refine Qx hm (ne_dec _ _) (fun hm=>?_) (fun hm=>?_)
 ·refine Qe (R_G (Qb 4 (Qg (Qt ?_))))
  obtain ⟨rfl,rfl⟩:=Zn hm
  exact ⟨trivial,Qk⟩
 refine Qs (Qe (R_G (Qb 5 (Qg (Qt ?_)))))
 obtain ⟨rfl,rfl⟩:=Zn hm
 exact ⟨trivial,Qk⟩
def Jm (x:(List Int)):Option Qu :=
 match x with
 | p0 =>
 YL p0>>=fun (v1:Int) =>
 some (⟨([]:(List Int)),p0,([v1]:List Int),([]:(List Int)),(-1),0,([]:(List Int))⟩:Qu)
def Qd9:(List Int)→Qu→Prop:=fun x r=>match x,r with
 | p0,r0=>∀ H,PC prog env 91 ([(.lst ((List.map Qc) p0))].map .dat) H (.dat (Qu.toD r0)) H
theorem Qea:∀ x r,Jm x=some r→Qd9 x r:=by
 intro p0 r0 hm
 unfold Jm at hm
 unfold Qd9
 intro H
 refine PC_sx (ds:=[(.lst ((List.map Qc) p0))]) (fn:=f91) rfl ?_
 refine Qe (R_G (Qb 1 (Qg (Qe (R_G (Qb 2 ?_))))))
 obtain ⟨v1,hx,hm⟩:=Qf hm
 have hq:=J7 _ _ hx []
 refine Qr hq ?_
 refine Qb 3 (Qg (Qt ?_))
 obtain rfl:=Qq hm
 exact ⟨trivial,Qk⟩
def ZV (x:((List Int) × (List Int) × Int)):Option (Unit ⊕ Unit) :=
 match x with
 | (p0,p1,v201) =>
 if v201 < (p0.length:Int) then
  idx p0 v201>>=fun v601 =>
  idx p1 v201>>=fun v602 =>
  if v601≠v602 then
   some (Sum.inl ())
  else
  ZV (p0,p1,(W (v201+1)))
 else
 some (Sum.inr ())
 partial_fixpoint
def QcN:((List Int) × (List Int) × Int)→(Unit ⊕ Unit)→Prop:=fun x r=>match x with
 | (p0,p1,v201)=>∀ st,prune 0 ((Qw (QD [1,1,0,1,0,0] (QE f24))).bind (env.hint 24).keepAt) st=⟨kp 26 [(0,(.dat (.lst ((List.map Qc) p0)))),(1,(.dat (.lst ((List.map Qc) p1)))),(5,(Qd v201))],[]⟩ →
  RL prog env (env.hint 24) true (QD [1,1,0,1,0,0] (QE f24)) 0 st (fun e s=>match r with|.inl _=>e=.ret∧∃ d,s=⟨sl d 26 [(4,(Qp false))],[]⟩|.inr (_)=>e=.exit 0∧∃ d,s=⟨sl d 26 [],[]⟩)
theorem JK:∀ x r,ZV x=some r→QcN x r:=by
 refine ZV.partial_correctness _ (fun ZV JK x r hm=>?_)
 unfold QcN
 obtain ⟨p0,p1,v201⟩:=x
 intro st hst
 refine RL_at hst ?_
 clear hst
 refine Qe (Qe (R_G (Qb 2 ?_)))
 refine QG Qc p0 (es:=(List.map Qc) p0) rfl ?_
 refine Qb 1 (Qg ?_)
 refine Qx hm (rfl) (fun hm=>?_) (fun hm=>?_)
 ·refine Qs (Qe (Qz (Qe ?_)))
  refine YM ?_
  refine Qb 2 ?_
  refine QF 1 Qc hm rfl (fun _=>rfl) (fun v601 hm=>?_)
  refine Qb 3 ?_
  refine QF 1 Qc hm rfl (fun _=>rfl) (fun v602 hm=>?_)
  refine Qb 2 ?_
  refine Qg ⟨by kernel_rfl,?_⟩
  refine Qx hm (ne_dec _ _) (fun hm=>?_) (fun hm=>?_)
  ·refine Qe (R_G (Qb 1 (Qg (Qt ?_))))
   obtain rfl:=Qq hm
   exact ⟨rfl,Qm⟩
  refine Qs (R_G (Qb 3 (Qg ?_)))
  exact JK _ _ hm _ (by kernel_rfl)
 refine QP ?_
 obtain rfl:=Qq hm
 exact ⟨rfl,Qm⟩
def Ys (x:((List Int) × (List Int))):Option Bool :=
 match x with
 | (p0,p1) =>
 if (p0.length:Int)≠(p1.length:Int) then
  some false
 else
 (
 ZV (p0,p1,0)>>=fun (out:Unit ⊕ Unit) =>
 match out with
 | .inl _ =>
  some false
 | .inr (_) =>
  some true
 )
def QdN:((List Int) × (List Int))→Bool→Prop:=fun x r=>match x,r with
 | (p0,p1),r0=>∀ H,PC prog env 24 ([(.lst ((List.map Qc) p0)),(.lst ((List.map Qc) p1))].map .dat) H (Qp r0) H
theorem Qbm:∀ x r,Ys x=some r→QdN x r:=by
 intro x r0 hm
 unfold Ys at hm
 unfold QdN
 obtain ⟨p0,p1⟩:=x
 intro H
 refine PC_sx (ds:=[(.lst ((List.map Qc) p0)),(.lst ((List.map Qc) p1))]) (fn:=f24) rfl ?_
 refine Qe (R_G (Qb 1 (Qg (Qe (Qe (R_G (Qb 1 ?_)))))))
 refine QG Qc p0 (es:=(List.map Qc) p0) rfl ?_
 refine Qb 1 ?_
 refine QG Qc p1 (es:=(List.map Qc) p1) rfl ?_
 refine Qb 1 (Qg ?_)
 refine Qx hm (ne_dec _ _) (fun hm=>?_) (fun hm=>?_)
 ·refine Qe (R_G (Qb 1 (Qg (Qt ?_))))
  obtain rfl:=Qq hm
  exact ⟨trivial,Qk⟩
 refine Qs (Qe (Qe (R_G (Qb 1 (Qg (Qz ?_))))))
 obtain ⟨out,hs,hm⟩:=Qf hm
 refine QT ?_
 rcases out with _|_
 ·refine RL_use (JK _ _ hs) (by kernel_rfl) ?_
  clear hs
  intro e s hp
  obtain ⟨rfl,d,rfl⟩:=hp
  obtain rfl:=Qq hm
  exact ⟨trivial,Qk⟩
 ·refine RL_use (JK _ _ hs) (by kernel_rfl) ?_
  clear hs
  intro e s hp
  obtain ⟨rfl,d,rfl⟩:=hp
  refine Qe (R_G (Qb 1 (Qg (Qt ?_))))
  obtain rfl:=Qq hm
  exact ⟨trivial,Qk⟩
def Yc (x:(Qa × Qa)):Option Qa :=
 match x with
 | (p0,p1) =>
 some (⟨p0.kind,p0.shape,p0.buffer,p0.starts,p0.axis,p0.amount,p0.perm,([(⟨p1.kind,p1.shape,p1.buffer,p1.starts,p1.axis,p1.amount,p1.perm,p1.kids⟩:Qa)]:(List Qa))⟩:Qa)
def Qdu:(Qa × Qa)→Qa→Prop:=fun x r=>match x,r with
 | (p0,p1),r0=>∀ H,PC prog env 92 ([(Qa.ex p0),(Qa.ex p1)].map .dat) H (.dat (Qa.ex r0)) H
theorem Xo:∀ x r,Yc x=some r→Qdu x r:=by
 intro x r0 hm
 unfold Yc at hm
 unfold Qdu
 obtain ⟨p0,p1⟩:=x
 intro H
 refine PC_sx (ds:=[(Qa.ex p0),(Qa.ex p1)]) (fn:=f92) rfl ?_
 refine Qe (R_G (Qb 3 (Qg (Qe (R_G (Qb 4 (Qg (Qe (R_G (Qb 2 (Qg ?_)))))))))))
 refine Qt ?_
 obtain rfl:=Qq hm
 exact ⟨trivial,Qk⟩
def Z1 (x:(Qa × (List Int))):Option Qa :=
 match x with
 | (p0,p1) =>
 Ys (p0.shape,p1)>>=fun (v1:Bool) =>
 if v1=true then
  some (⟨p0.kind,p0.shape,p0.buffer,p0.starts,p0.axis,p0.amount,p0.perm,p0.kids⟩:Qa)
 else
 Yc ((⟨6,p1,0,([]:(List Int)),0,0,([]:(List Int)),([]:(List Qa))⟩:Qa),p0)>>=fun (v2:Qa) =>
 some v2
def Qeu:(Qa × (List Int))→Qa→Prop:=fun x r=>match x,r with
 | (p0,p1),r0=>∀ H,PC prog env 63 ([(Qa.ex p0),(.lst ((List.map Qc) p1))].map .dat) H (.dat (Qa.ex r0)) H
theorem Xz:∀ x r,Z1 x=some r→Qeu x r:=by
 intro x r0 hm
 unfold Z1 at hm
 unfold Qeu
 obtain ⟨p0,p1⟩:=x
 intro H
 refine PC_sx (ds:=[(Qa.ex p0),(.lst ((List.map Qc) p1))]) (fn:=f63) rfl ?_
 refine Qe (R_G (Qb 2 (Qg (Qe (Qe (R_G (Qb 3 ?_)))))))
 obtain ⟨v1,hx,hm⟩:=Qf hm
 have hq:=Qbm _ _ hx []
 refine Qr hq ?_
 refine Qg ?_
 refine Qx hm (QC _) (fun hm=>?_) (fun hm=>?_)
 ·refine Qe (R_G (Qb 2 (Qg (Qt ?_))))
  obtain rfl:=Qq hm
  exact ⟨trivial,Qk⟩
 refine Qs (Qe (R_G (Qb 3 ?_)))
 obtain ⟨v2,hx,hm⟩:=Qf hm
 have hq:=Xo _ _ hx []
 refine Qr hq ?_
 refine Qb 1 (Qg (Qt ?_))
 obtain rfl:=Qq hm
 exact ⟨trivial,Qk⟩
def Qbq (x:((List Qn) × Qh × Qa)):Option (Qa × Int) :=
 match x with
 | (p0,p1,p2) =>
 if p1.kind=4 then
  idx p1.kids 0>>=fun v1 =>
  QaC (p0,v1)>>=fun ((v2,v3):(QK × Int)) =>
  if v3≠0 then
   some ((⟨0,([]:(List Int)),0,([]:(List Int)),0,0,([]:(List Int)),([]:(List Qa))⟩:Qa),v3)
  else
  (if p1.fn=1 then
   some (p1.fn == 1)
  else
  some (p1.fn == 2)
  )>>=fun (v4:Bool) =>
  if v4=true then
   (if p1.fn=1 then
    JG (v2.values,p2.shape)>>=fun ((v13,v14):(Qu × Int)) =>
    some (v13.left,v13.right,v13.shape,v13.starts,v13.axis,v13.amount,v13.perm,v14)
   else
   JI (v2.values,p2.shape)>>=fun ((v15,v16):(Qu × Int)) =>
   some (v15.left,v15.right,v15.shape,v15.starts,v15.axis,v15.amount,v15.perm,v16)
   )>>=fun ((v5,v6,v7,v8,v9,v10,v11,v12):((List Int) × (List Int) × (List Int) × (List Int) × Int × Int × (List Int) × Int)) =>
   if v12≠0 then
    some ((⟨0,([]:(List Int)),0,([]:(List Int)),0,0,([]:(List Int)),([]:(List Qa))⟩:Qa),v12)
   else
   Z1 ((⟨p2.kind,p2.shape,p2.buffer,p2.starts,p2.axis,p2.amount,p2.perm,p2.kids⟩:Qa),v6)>>=fun (v17:Qa) =>
   Yc ((⟨2,v7,0,v8,0,0,([]:(List Int)),([]:(List Qa))⟩:Qa),v17)>>=fun (v18:Qa) =>
   some (v18,0)
  else
  if p1.fn=3 then
   (if p1.kind=3 then
    Y1 (p1.axis,p2.shape)>>=fun ((v27,v28):(Qu × Int)) =>
    some (v27.left,v27.right,v27.shape,v27.starts,v27.axis,v27.amount,v27.perm,v28)
   else
   XR (v2.values,p1.axis,p2.shape)>>=fun ((v29,v30):(Qu × Int)) =>
   some (v29.left,v29.right,v29.shape,v29.starts,v29.axis,v29.amount,v29.perm,v30)
   )>>=fun ((v19,v20,v21,v22,v23,v24,v25,v26):((List Int) × (List Int) × (List Int) × (List Int) × Int × Int × (List Int) × Int)) =>
   (if v26=0 then
    some (decide (v23 < 0))
   else
   some false
   )>>=fun (v31:Bool) =>
   if v31=true then
    some ((⟨p2.kind,p2.shape,p2.buffer,p2.starts,p2.axis,p2.amount,p2.perm,p2.kids⟩:Qa),0)
   else
   if v26≠0 then
    some ((⟨0,([]:(List Int)),0,([]:(List Int)),0,0,([]:(List Int)),([]:(List Qa))⟩:Qa),v26)
   else
   Z1 ((⟨p2.kind,p2.shape,p2.buffer,p2.starts,p2.axis,p2.amount,p2.perm,p2.kids⟩:Qa),v20)>>=fun (v32:Qa) =>
   Yc ((⟨p1.kind,v21,0,([]:(List Int)),v23,v24,([]:(List Int)),([]:(List Qa))⟩:Qa),v32)>>=fun (v33:Qa) =>
   some (v33,0)
  else
  (if p1.fn=4 then
   if p1.kind=3 then
    JM p2.shape>>=fun (v44:Qu) =>
    some (v44.left,v44.right,v44.shape,v44.starts,v44.axis,v44.amount,v44.perm,(5:Int),v44.perm,(0:Int))
   else
   YV (v2.values,p2.shape)>>=fun ((v45,v46):(Qu × Int)) =>
   some (v45.left,v45.right,v45.shape,v45.starts,v45.axis,v45.amount,v45.perm,(5:Int),v45.perm,v46)
  else
  if p1.fn=5 then
   Xy (v2.values,p2.shape)>>=fun ((v47,v48):(Qu × Int)) =>
   some (v47.left,v47.right,v47.shape,v47.starts,v47.axis,v47.amount,v47.perm,(6:Int),([]:List Int),v48)
  else
  if p1.fn=6 then
   Jm p2.shape>>=fun (v49:Qu) =>
   some (v49.left,v49.right,v49.shape,v49.starts,v49.axis,v49.amount,v49.perm,(6:Int),([]:List Int),(0:Int))
  else
  some (([]:List Int),([]:List Int),([]:List Int),([]:List Int),(0:Int),(0:Int),([]:List Int),(0:Int),([]:List Int),(0:Int))
  )>>=fun ((v34,v35,v36,v37,v38,v39,v40,v41,v42,v43):((List Int) × (List Int) × (List Int) × (List Int) × Int × Int × (List Int) × Int × (List Int) × Int)) =>
  if v43≠0 then
   some ((⟨0,([]:(List Int)),0,([]:(List Int)),0,0,([]:(List Int)),([]:(List Qa))⟩:Qa),v43)
  else
  Z1 ((⟨p2.kind,p2.shape,p2.buffer,p2.starts,p2.axis,p2.amount,p2.perm,p2.kids⟩:Qa),v35)>>=fun (v50:Qa) =>
  Yc ((⟨v41,v36,0,([]:(List Int)),0,0,v42,([]:(List Qa))⟩:Qa),v50)>>=fun (v51:Qa) =>
  some (v51,0)
 else
 (if p1.fn=1 then
  some (p1.fn == 1)
 else
 some (p1.fn == 2)
 )>>=fun (v52:Bool) =>
 if v52=true then
  (if p1.fn=1 then
   JG (([]:(List Int)),p2.shape)>>=fun ((v61,v62):(Qu × Int)) =>
   some (v61.left,v61.right,v61.shape,v61.starts,v61.axis,v61.amount,v61.perm,v62)
  else
  JI (([]:(List Int)),p2.shape)>>=fun ((v63,v64):(Qu × Int)) =>
  some (v63.left,v63.right,v63.shape,v63.starts,v63.axis,v63.amount,v63.perm,v64)
  )>>=fun ((v53,v54,v55,v56,v57,v58,v59,v60):((List Int) × (List Int) × (List Int) × (List Int) × Int × Int × (List Int) × Int)) =>
  if v60≠0 then
   some ((⟨0,([]:(List Int)),0,([]:(List Int)),0,0,([]:(List Int)),([]:(List Qa))⟩:Qa),v60)
  else
  Z1 ((⟨p2.kind,p2.shape,p2.buffer,p2.starts,p2.axis,p2.amount,p2.perm,p2.kids⟩:Qa),v54)>>=fun (v65:Qa) =>
  Yc ((⟨2,v55,0,v56,0,0,([]:(List Int)),([]:(List Qa))⟩:Qa),v65)>>=fun (v66:Qa) =>
  some (v66,0)
 else
 if p1.fn=3 then
  (if p1.kind=3 then
   Y1 (p1.axis,p2.shape)>>=fun ((v75,v76):(Qu × Int)) =>
   some (v75.left,v75.right,v75.shape,v75.starts,v75.axis,v75.amount,v75.perm,v76)
  else
  XR (([]:(List Int)),p1.axis,p2.shape)>>=fun ((v77,v78):(Qu × Int)) =>
  some (v77.left,v77.right,v77.shape,v77.starts,v77.axis,v77.amount,v77.perm,v78)
  )>>=fun ((v67,v68,v69,v70,v71,v72,v73,v74):((List Int) × (List Int) × (List Int) × (List Int) × Int × Int × (List Int) × Int)) =>
  (if v74=0 then
   some (decide (v71 < 0))
  else
  some false
  )>>=fun (v79:Bool) =>
  if v79=true then
   some ((⟨p2.kind,p2.shape,p2.buffer,p2.starts,p2.axis,p2.amount,p2.perm,p2.kids⟩:Qa),0)
  else
  if v74≠0 then
   some ((⟨0,([]:(List Int)),0,([]:(List Int)),0,0,([]:(List Int)),([]:(List Qa))⟩:Qa),v74)
  else
  Z1 ((⟨p2.kind,p2.shape,p2.buffer,p2.starts,p2.axis,p2.amount,p2.perm,p2.kids⟩:Qa),v68)>>=fun (v80:Qa) =>
  Yc ((⟨p1.kind,v69,0,([]:(List Int)),v71,v72,([]:(List Int)),([]:(List Qa))⟩:Qa),v80)>>=fun (v81:Qa) =>
  some (v81,0)
 else
 (if p1.fn=4 then
  if p1.kind=3 then
   JM p2.shape>>=fun (v92:Qu) =>
   some (v92.left,v92.right,v92.shape,v92.starts,v92.axis,v92.amount,v92.perm,(5:Int),v92.perm,(0:Int))
  else
  YV (([]:(List Int)),p2.shape)>>=fun ((v93,v94):(Qu × Int)) =>
  some (v93.left,v93.right,v93.shape,v93.starts,v93.axis,v93.amount,v93.perm,(5:Int),v93.perm,v94)
 else
 if p1.fn=5 then
  Xy (([]:(List Int)),p2.shape)>>=fun ((v95,v96):(Qu × Int)) =>
  some (v95.left,v95.right,v95.shape,v95.starts,v95.axis,v95.amount,v95.perm,(6:Int),([]:List Int),v96)
 else
 if p1.fn=6 then
  Jm p2.shape>>=fun (v97:Qu) =>
  some (v97.left,v97.right,v97.shape,v97.starts,v97.axis,v97.amount,v97.perm,(6:Int),([]:List Int),(0:Int))
 else
 some (([]:List Int),([]:List Int),([]:List Int),([]:List Int),(0:Int),(0:Int),([]:List Int),(0:Int),([]:List Int),(0:Int))
 )>>=fun ((v82,v83,v84,v85,v86,v87,v88,v89,v90,v91):((List Int) × (List Int) × (List Int) × (List Int) × Int × Int × (List Int) × Int × (List Int) × Int)) =>
 if v91≠0 then
  some ((⟨0,([]:(List Int)),0,([]:(List Int)),0,0,([]:(List Int)),([]:(List Qa))⟩:Qa),v91)
 else
 Z1 ((⟨p2.kind,p2.shape,p2.buffer,p2.starts,p2.axis,p2.amount,p2.perm,p2.kids⟩:Qa),v83)>>=fun (v98:Qa) =>
 Yc ((⟨v89,v84,0,([]:(List Int)),0,0,v90,([]:(List Qa))⟩:Qa),v98)>>=fun (v99:Qa) =>
 some (v99,0)
def QeU:((List Qn) × Qh × Qa)→(Qa × Int)→Prop:=fun x r=>match x,r with
 | (p0,p1,p2),(r0,r1)=>∀ H,PC prog env 61 ([(.lst ((List.map Qn.toD) p0)),(Qh.ex p1),(Qa.ex p2)].map .dat) H (.tup [(.dat (Qa.ex r0)),(Qd r1)]) H
theorem QfW:∀ x r,Qbq x=some r→QeU x r:=by
 intro x r hm
 unfold Qbq at hm
 unfold QeU
 obtain ⟨p0,p1,p2⟩:=x
 obtain ⟨r0,r1⟩:=r
 intro H
 refine PC_sx (ds:=[(.lst ((List.map Qn.toD) p0)),(Qh.ex p1),(Qa.ex p2)]) (fn:=f61) rfl ?_
 refine Qe (R_G (Qb 4 (Qg (Qe (R_G (Qb 1 (Qg (Qe (Qe (R_G (Qb 3 ?_)))))))))))
 refine Qg ?_
 refine Qx hm (QO _ _) (fun hm=>?_) (fun hm=>?_)
 ·refine Qe (R_G (Qb 3 ?_))
  obtain ⟨v1,hx,hm⟩:=Qf hm
  refine Y2 6 Qh.toD p1.kids 0 v1 (es:=Qh.toDs p1.kids) (d:=(Qh.ex v1)) (Qh.toDs_eq _) hx (Qh.toD_eq v1) rfl ?_
  refine Qb 1 ?_
  obtain ⟨⟨v2,v3⟩,hx,hm⟩:=Qf hm
  have hq:=QfH _ _ hx []
  refine Qr hq ?_
  refine Qb 6 (Qg (Qe (Qe (R_G (Qb 2 (Qg ?_))))))
  refine Qx hm (ne_dec _ _) (fun hm=>?_) (fun hm=>?_)
  ·refine Qe (R_G (Qb 4 (Qg (Qt ?_))))
   obtain ⟨rfl,rfl⟩:=Zn hm
   exact ⟨trivial,Qk⟩
  refine Qs (R_G (Qb 3 (Qg (Qe (R_G (Qb 1 (Qg (Qe (R_G (Qb 1 (Qg ?_)))))))))))
  refine Qe (R_G (Qb 3 (Qg (Qe (Qe (R_G (Qb 2 (Qg (Qz (Qe (Qe ?_)))))))))))
  refine R_G (Qb 2 (Qg ?_))
  obtain ⟨v4,hs,hm⟩:=Qf hm
  refine Q7 (fun d=>⟨sl d 146 [(4,(.ptr 0 0)),(5,(.ptr 1 0)),(6,(.ptr 2 0)),(8,(.dat (.lst ((List.map Qc) v2.values)))),(11,(.ptr 4 0)),(12,(Qd 0)),(13,(.ptr 5 0)),(34,(Qd p1.fn)),(35,(Qp v4))],[(.box [(Qd p1.kind),(Qd p1.fn),(Qd p1.axis),(.dat (strD p1.name)),(.dat (.lst ((List.map Qc) p1.nums))),(.dat (.lst (Qh.toDs p1.kids)))]),(.box [(Qd p2.kind),(.dat (.lst ((List.map Qc) p2.shape))),(Qd p2.buffer),(.dat (.lst ((List.map Qc) p2.starts))),(Qd p2.axis),(Qd p2.amount),(.dat (.lst ((List.map Qc) p2.perm))),(.dat (.lst (Qa.toDs p2.kids)))]),(.box [(Qd 0),(.dat (.lst ((List.map Qc) []))),(Qd 0),(.dat (.lst ((List.map Qc) []))),(Qd 0),(Qd 0),(.dat (.lst ((List.map Qc) []))),(.dat (.lst (Qa.toDs [])))]),(.box [(.dat (.lst ((List.map Qc) v2.values))),(Qp v2.scalar)]),(.box [(.dat (.lst ((List.map Qc) []))),(.dat (.lst ((List.map Qc) []))),(.dat (.lst ((List.map Qc) []))),(.dat (.lst ((List.map Qc) []))),(Qd 0),(Qd 0),(.dat (.lst ((List.map Qc) [])))]),(.box [(Qd 0),(.dat (.lst ((List.map Qc) []))),(Qd 0),(.dat (.lst ((List.map Qc) []))),(Qd 0),(Qd 0),(.dat (.lst ((List.map Qc) []))),(.dat (.lst (Qa.toDs [])))])]⟩) ?_ (fun d=>?_)
  ·replace hm:=hs
   clear hs
   refine Qx hm (QO _ _) (fun hm=>?_) (fun hm=>?_)
   ·refine Qs ?_
    obtain rfl:=Qq hm
    exact Qm
   refine R_G (Qb 2 (Qg ?_))
   obtain rfl:=Qq hm
   exact Qm
  clear hs
  refine Qx hm (QC _) (fun hm=>?_) (fun hm=>?_)
  ·refine Qe (R_G (Qb 2 (Qg (Qe (Qe (R_G (Qb 3 (Qg ?_))))))))
   obtain ⟨⟨v5,v6,v7,v8,v9,v10,v11,v12⟩,hs,hm⟩:=Qf hm
   refine Q7 (fun d=>⟨sl d 146 [(5,(.ptr 1 0)),(6,(.ptr 2 0)),(11,(.ptr 4 0)),(12,(Qd v12)),(13,(.ptr 5 0))],[(.box [(Qd p1.kind),(Qd p1.fn),(Qd p1.axis),(.dat (strD p1.name)),(.dat (.lst ((List.map Qc) p1.nums))),(.dat (.lst (Qh.toDs p1.kids)))]),(.box [(Qd p2.kind),(.dat (.lst ((List.map Qc) p2.shape))),(Qd p2.buffer),(.dat (.lst ((List.map Qc) p2.starts))),(Qd p2.axis),(Qd p2.amount),(.dat (.lst ((List.map Qc) p2.perm))),(.dat (.lst (Qa.toDs p2.kids)))]),(.box [(Qd 0),(.dat (.lst ((List.map Qc) []))),(Qd 0),(.dat (.lst ((List.map Qc) []))),(Qd 0),(Qd 0),(.dat (.lst ((List.map Qc) []))),(.dat (.lst (Qa.toDs [])))]),(.box [(.dat (.lst ((List.map Qc) v2.values))),(Qp v2.scalar)]),(.box [(.dat (.lst ((List.map Qc) v5))),(.dat (.lst ((List.map Qc) v6))),(.dat (.lst ((List.map Qc) v7))),(.dat (.lst ((List.map Qc) v8))),(Qd v9),(Qd v10),(.dat (.lst ((List.map Qc) v11)))]),(.box [(Qd 2),(.dat (.lst ((List.map Qc) []))),(Qd 0),(.dat (.lst ((List.map Qc) []))),(Qd 0),(Qd 0),(.dat (.lst ((List.map Qc) []))),(.dat (.lst (Qa.toDs [])))])]⟩) ?_ (fun d=>?_)
   ·replace hm:=hs
    clear hs
    refine Qx hm (QO _ _) (fun hm=>?_) (fun hm=>?_)
    ·refine R_G (Qb 3 ?_)
     obtain ⟨⟨v13,v14⟩,hx,hm⟩:=Qf hm
     have hq:=QeF _ _ hx []
     refine Qr hq ?_
     refine Qb 5 (Qg ?_)
     obtain ⟨rfl,rfl,rfl,rfl,rfl,rfl,rfl,rfl⟩:=QfY hm
     exact Qm
    refine R_G (Qb 3 ?_)
    obtain ⟨⟨v15,v16⟩,hx,hm⟩:=Qf hm
    have hq:=QeE _ _ hx []
    refine Qr hq ?_
    refine Qb 5 (Qg ?_)
    obtain ⟨rfl,rfl,rfl,rfl,rfl,rfl,rfl,rfl⟩:=QfY hm
    exact Qm
   clear hs
   refine R_G (Qb 4 (Qg (Qe (R_G (Qb 4 (Qg (Qe (Qe (R_G (Qb 2 (Qg ?_)))))))))))
   refine Qx hm (ne_dec _ _) (fun hm=>?_) (fun hm=>?_)
   ·refine Qe (R_G (Qb 4 (Qg (Qt ?_))))
    obtain ⟨rfl,rfl⟩:=Zn hm
    exact ⟨trivial,Qk⟩
   refine Qs (Qe ?_)
   refine YM ?_
   refine Qb 4 ?_
   obtain ⟨v17,hx,hm⟩:=Qf hm
   have hq:=Xz _ _ hx []
   refine Qr hq ?_
   obtain ⟨v18,hx,hm⟩:=Qf hm
   have hq:=Xo _ _ hx []
   refine Qr hq ?_
   refine Qb 2 ?_
   refine Qg ⟨by kernel_rfl,?_⟩
   refine Qt ?_
   obtain ⟨rfl,rfl⟩:=Zn hm
   exact ⟨trivial,Qk⟩
  refine Qe (R_G (Qb 2 (Qg ?_)))
  refine Qx hm (QO _ _) (fun hm=>?_) (fun hm=>?_)
  ·refine Qe (R_G (Qb 4 (Qg (Qe (Qe (R_G (Qb 3 (Qg ?_))))))))
   obtain ⟨⟨v19,v20,v21,v22,v23,v24,v25,v26⟩,hs,hm⟩:=Qf hm
   refine Q7 (fun d=>⟨sl d 146 [(5,(.ptr 1 0)),(6,(.ptr 2 0)),(11,(.ptr 4 0)),(12,(Qd v26)),(13,(.ptr 5 0))],[(.box [(Qd p1.kind),(Qd p1.fn),(Qd p1.axis),(.dat (strD p1.name)),(.dat (.lst ((List.map Qc) p1.nums))),(.dat (.lst (Qh.toDs p1.kids)))]),(.box [(Qd p2.kind),(.dat (.lst ((List.map Qc) p2.shape))),(Qd p2.buffer),(.dat (.lst ((List.map Qc) p2.starts))),(Qd p2.axis),(Qd p2.amount),(.dat (.lst ((List.map Qc) p2.perm))),(.dat (.lst (Qa.toDs p2.kids)))]),(.box [(Qd 0),(.dat (.lst ((List.map Qc) []))),(Qd 0),(.dat (.lst ((List.map Qc) []))),(Qd 0),(Qd 0),(.dat (.lst ((List.map Qc) []))),(.dat (.lst (Qa.toDs [])))]),(.box [(.dat (.lst ((List.map Qc) v2.values))),(Qp v2.scalar)]),(.box [(.dat (.lst ((List.map Qc) v19))),(.dat (.lst ((List.map Qc) v20))),(.dat (.lst ((List.map Qc) v21))),(.dat (.lst ((List.map Qc) v22))),(Qd v23),(Qd v24),(.dat (.lst ((List.map Qc) v25)))]),(.box [(Qd p1.kind),(.dat (.lst ((List.map Qc) []))),(Qd 0),(.dat (.lst ((List.map Qc) []))),(Qd 0),(Qd 0),(.dat (.lst ((List.map Qc) []))),(.dat (.lst (Qa.toDs [])))])]⟩) ?_ (fun d=>?_)
   ·replace hm:=hs
    clear hs
    refine Qx hm (QO _ _) (fun hm=>?_) (fun hm=>?_)
    ·refine R_G (Qb 4 ?_)
     obtain ⟨⟨v27,v28⟩,hx,hm⟩:=Qf hm
     have hq:=QbB _ _ hx []
     refine Qr hq ?_
     refine Qb 5 (Qg ?_)
     obtain ⟨rfl,rfl,rfl,rfl,rfl,rfl,rfl,rfl⟩:=QfY hm
     exact Qm
    refine R_G (Qb 5 ?_)
    obtain ⟨⟨v29,v30⟩,hx,hm⟩:=Qf hm
    have hq:=QdE _ _ hx []
    refine Qr hq ?_
    refine Qb 5 (Qg ?_)
    obtain ⟨rfl,rfl,rfl,rfl,rfl,rfl,rfl,rfl⟩:=QfY hm
    exact Qm
   clear hs
   refine Qe (Qe ?_)
   obtain ⟨v31,hs,hm⟩:=Qf hm
   refine Q7 (fun d=>⟨sl d 146 [(5,(.ptr 1 0)),(6,(.ptr 2 0)),(11,(.ptr 4 0)),(12,(Qd v26)),(13,(.ptr 5 0)),(90,(Qp v31))],[(.box [(Qd p1.kind),(Qd p1.fn),(Qd p1.axis),(.dat (strD p1.name)),(.dat (.lst ((List.map Qc) p1.nums))),(.dat (.lst (Qh.toDs p1.kids)))]),(.box [(Qd p2.kind),(.dat (.lst ((List.map Qc) p2.shape))),(Qd p2.buffer),(.dat (.lst ((List.map Qc) p2.starts))),(Qd p2.axis),(Qd p2.amount),(.dat (.lst ((List.map Qc) p2.perm))),(.dat (.lst (Qa.toDs p2.kids)))]),(.box [(Qd 0),(.dat (.lst ((List.map Qc) []))),(Qd 0),(.dat (.lst ((List.map Qc) []))),(Qd 0),(Qd 0),(.dat (.lst ((List.map Qc) []))),(.dat (.lst (Qa.toDs [])))]),(.box [(.dat (.lst ((List.map Qc) v2.values))),(Qp v2.scalar)]),(.box [(.dat (.lst ((List.map Qc) v19))),(.dat (.lst ((List.map Qc) v20))),(.dat (.lst ((List.map Qc) v21))),(.dat (.lst ((List.map Qc) v22))),(Qd v23),(Qd v24),(.dat (.lst ((List.map Qc) v25)))]),(.box [(Qd p1.kind),(.dat (.lst ((List.map Qc) []))),(Qd 0),(.dat (.lst ((List.map Qc) []))),(Qd 0),(Qd 0),(.dat (.lst ((List.map Qc) []))),(.dat (.lst (Qa.toDs [])))])]⟩) ?_ (fun d=>?_)
   ·replace hm:=hs
    clear hs
    refine R_G (Qb 3 ?_)
    refine Qy 86 hm (QO _ _) (fun hm=>?_) (fun hm=>?_)
    ·refine Qb 4 (Qg ?_)
     obtain rfl:=Qq hm
     exact Qm
    refine Qb 4 (Qg ?_)
    obtain rfl:=Qq hm
    exact Qm
   clear hs
   refine Qx hm (QC _) (fun hm=>?_) (fun hm=>?_)
   ·refine Qe (R_G (Qb 3 (Qg (Qt ?_))))
    obtain ⟨rfl,rfl⟩:=Zn hm
    exact ⟨trivial,Qk⟩
   refine Qs (Qe (R_G (Qb 4 (Qg (R_G (Qb 4 (Qg (Qe (R_G (Qb 4 (Qg ?_)))))))))))
   refine Qe (Qe (R_G (Qb 2 (Qg ?_))))
   refine Qx hm (ne_dec _ _) (fun hm=>?_) (fun hm=>?_)
   ·refine Qe (R_G (Qb 4 (Qg (Qt ?_))))
    obtain ⟨rfl,rfl⟩:=Zn hm
    exact ⟨trivial,Qk⟩
   refine Qs (Qe ?_)
   refine YM ?_
   refine Qb 4 ?_
   obtain ⟨v32,hx,hm⟩:=Qf hm
   have hq:=Xz _ _ hx []
   refine Qr hq ?_
   obtain ⟨v33,hx,hm⟩:=Qf hm
   have hq:=Xo _ _ hx []
   refine Qr hq ?_
   refine Qb 2 ?_
   refine Qg ⟨by kernel_rfl,?_⟩
   refine Qt ?_
   obtain ⟨rfl,rfl⟩:=Zn hm
   exact ⟨trivial,Qk⟩
  refine Qe (R_G (Qb 2 (Qg ?_)))
  obtain ⟨⟨v34,v35,v36,v37,v38,v39,v40,v41,v42,v43⟩,hs,hm⟩:=Qf hm
  refine Q7 (fun d=>⟨sl d 146 [(5,(.ptr 1 0)),(6,(.ptr 2 0)),(11,(.ptr 4 0)),(12,(Qd v43)),(13,(.ptr 5 0))],[(.box [(Qd p1.kind),(Qd p1.fn),(Qd p1.axis),(.dat (strD p1.name)),(.dat (.lst ((List.map Qc) p1.nums))),(.dat (.lst (Qh.toDs p1.kids)))]),(.box [(Qd p2.kind),(.dat (.lst ((List.map Qc) p2.shape))),(Qd p2.buffer),(.dat (.lst ((List.map Qc) p2.starts))),(Qd p2.axis),(Qd p2.amount),(.dat (.lst ((List.map Qc) p2.perm))),(.dat (.lst (Qa.toDs p2.kids)))]),(.box [(Qd 0),(.dat (.lst ((List.map Qc) []))),(Qd 0),(.dat (.lst ((List.map Qc) []))),(Qd 0),(Qd 0),(.dat (.lst ((List.map Qc) []))),(.dat (.lst (Qa.toDs [])))]),(.box [(.dat (.lst ((List.map Qc) v2.values))),(Qp v2.scalar)]),(.box [(.dat (.lst ((List.map Qc) v34))),(.dat (.lst ((List.map Qc) v35))),(.dat (.lst ((List.map Qc) v36))),(.dat (.lst ((List.map Qc) v37))),(Qd v38),(Qd v39),(.dat (.lst ((List.map Qc) v40)))]),(.box [(Qd v41),(.dat (.lst ((List.map Qc) []))),(Qd 0),(.dat (.lst ((List.map Qc) []))),(Qd 0),(Qd 0),(.dat (.lst ((List.map Qc) v42))),(.dat (.lst (Qa.toDs [])))])]⟩) ?_ (fun d=>?_)
  ·replace hm:=hs
   clear hs
   refine Qx hm (QO _ _) (fun hm=>?_) (fun hm=>?_)
   ·refine Qe (R_G (Qb 2 (Qg (Qe (Qe (R_G (Qb 3 (Qg ?_))))))))
    refine Qx hm (QO _ _) (fun hm=>?_) (fun hm=>?_)
    ·refine R_G (Qb 2 ?_)
     obtain ⟨v44,hx,hm⟩:=Qf hm
     have hq:=QeL _ _ hx []
     refine Qr hq ?_
     refine Qb 1 (Qg (R_G (Qb 4 (Qg ?_))))
     obtain ⟨rfl,rfl,rfl,rfl,rfl,rfl,rfl,rfl,rfl,rfl⟩:=Qee hm
     exact Qm
    refine R_G (Qb 3 ?_)
    obtain ⟨⟨v45,v46⟩,hx,hm⟩:=Qf hm
    have hq:=Qcm _ _ hx []
    refine Qr hq ?_
    refine Qb 5 (Qg (R_G (Qb 4 (Qg ?_))))
    obtain ⟨rfl,rfl,rfl,rfl,rfl,rfl,rfl,rfl,rfl,rfl⟩:=Qee hm
    exact Qm
   refine Qe (R_G (Qb 2 (Qg ?_)))
   refine Qx hm (QO _ _) (fun hm=>?_) (fun hm=>?_)
   ·refine Qe (R_G (Qb 2 (Qg (R_G (Qb 3 ?_)))))
    obtain ⟨⟨v47,v48⟩,hx,hm⟩:=Qf hm
    have hq:=Qc3 _ _ hx []
    refine Qr hq ?_
    refine Qb 5 (Qg ?_)
    obtain ⟨rfl,rfl,rfl,rfl,rfl,rfl,rfl,rfl,rfl,rfl⟩:=Qee hm
    exact Qm
   refine Qe (R_G (Qb 2 (Qg ?_)))
   refine Qx hm (QO _ _) (fun hm=>?_) (fun hm=>?_)
   ·refine Qe (R_G (Qb 2 (Qg (R_G (Qb 2 ?_)))))
    obtain ⟨v49,hx,hm⟩:=Qf hm
    have hq:=Qea _ _ hx []
    refine Qr hq ?_
    refine Qb 1 (Qg ?_)
    obtain ⟨rfl,rfl,rfl,rfl,rfl,rfl,rfl,rfl,rfl,rfl⟩:=Qee hm
    exact Qm
   refine Qs ?_
   obtain ⟨rfl,rfl,rfl,rfl,rfl,rfl,rfl,rfl,rfl,rfl⟩:=Qee hm
   exact Qm
  clear hs
  refine Qe (R_G (Qb 4 (Qg (Qe (Qe (R_G (Qb 2 (Qg ?_))))))))
  refine Qx hm (ne_dec _ _) (fun hm=>?_) (fun hm=>?_)
  ·refine Qe (R_G (Qb 4 (Qg (Qt ?_))))
   obtain ⟨rfl,rfl⟩:=Zn hm
   exact ⟨trivial,Qk⟩
  refine Qs (Qe ?_)
  refine YM ?_
  refine Qb 4 ?_
  obtain ⟨v50,hx,hm⟩:=Qf hm
  have hq:=Xz _ _ hx []
  refine Qr hq ?_
  obtain ⟨v51,hx,hm⟩:=Qf hm
  have hq:=Xo _ _ hx []
  refine Qr hq ?_
  refine Qb 2 ?_
  refine Qg ⟨by kernel_rfl,?_⟩
  refine Qt ?_
  obtain ⟨rfl,rfl⟩:=Zn hm
  exact ⟨trivial,Qk⟩
 refine Qs (Qe (R_G (Qb 1 (Qg (Qe (R_G (Qb 1 (Qg (Qe (R_G (Qb 3 ?_)))))))))))
 refine Qg (Qe (Qe (R_G (Qb 2 (Qg (Qz (Qe (Qe (R_G (Qb 2 (Qg ?_)))))))))))
 obtain ⟨v52,hs,hm⟩:=Qf hm
 refine Q7 (fun d=>⟨sl d 146 [(4,(.ptr 0 0)),(5,(.ptr 1 0)),(6,(.ptr 2 0)),(8,(.dat (.lst ((List.map Qc) [])))),(11,(.ptr 3 0)),(12,(Qd 0)),(13,(.ptr 4 0)),(34,(Qd p1.fn)),(35,(Qp v52))],[(.box [(Qd p1.kind),(Qd p1.fn),(Qd p1.axis),(.dat (strD p1.name)),(.dat (.lst ((List.map Qc) p1.nums))),(.dat (.lst (Qh.toDs p1.kids)))]),(.box [(Qd p2.kind),(.dat (.lst ((List.map Qc) p2.shape))),(Qd p2.buffer),(.dat (.lst ((List.map Qc) p2.starts))),(Qd p2.axis),(Qd p2.amount),(.dat (.lst ((List.map Qc) p2.perm))),(.dat (.lst (Qa.toDs p2.kids)))]),(.box [(Qd 0),(.dat (.lst ((List.map Qc) []))),(Qd 0),(.dat (.lst ((List.map Qc) []))),(Qd 0),(Qd 0),(.dat (.lst ((List.map Qc) []))),(.dat (.lst (Qa.toDs [])))]),(.box [(.dat (.lst ((List.map Qc) []))),(.dat (.lst ((List.map Qc) []))),(.dat (.lst ((List.map Qc) []))),(.dat (.lst ((List.map Qc) []))),(Qd 0),(Qd 0),(.dat (.lst ((List.map Qc) [])))]),(.box [(Qd 0),(.dat (.lst ((List.map Qc) []))),(Qd 0),(.dat (.lst ((List.map Qc) []))),(Qd 0),(Qd 0),(.dat (.lst ((List.map Qc) []))),(.dat (.lst (Qa.toDs [])))])]⟩) ?_ (fun d=>?_)
 ·replace hm:=hs
  clear hs
  refine Qx hm (QO _ _) (fun hm=>?_) (fun hm=>?_)
  ·refine Qs ?_
   obtain rfl:=Qq hm
   exact Qm
  refine R_G (Qb 2 (Qg ?_))
  obtain rfl:=Qq hm
  exact Qm
 clear hs
 refine Qx hm (QC _) (fun hm=>?_) (fun hm=>?_)
 ·refine Qe (R_G (Qb 2 (Qg (Qe (Qe (R_G (Qb 3 (Qg ?_))))))))
  obtain ⟨⟨v53,v54,v55,v56,v57,v58,v59,v60⟩,hs,hm⟩:=Qf hm
  refine Q7 (fun d=>⟨sl d 146 [(5,(.ptr 1 0)),(6,(.ptr 2 0)),(11,(.ptr 3 0)),(12,(Qd v60)),(13,(.ptr 4 0))],[(.box [(Qd p1.kind),(Qd p1.fn),(Qd p1.axis),(.dat (strD p1.name)),(.dat (.lst ((List.map Qc) p1.nums))),(.dat (.lst (Qh.toDs p1.kids)))]),(.box [(Qd p2.kind),(.dat (.lst ((List.map Qc) p2.shape))),(Qd p2.buffer),(.dat (.lst ((List.map Qc) p2.starts))),(Qd p2.axis),(Qd p2.amount),(.dat (.lst ((List.map Qc) p2.perm))),(.dat (.lst (Qa.toDs p2.kids)))]),(.box [(Qd 0),(.dat (.lst ((List.map Qc) []))),(Qd 0),(.dat (.lst ((List.map Qc) []))),(Qd 0),(Qd 0),(.dat (.lst ((List.map Qc) []))),(.dat (.lst (Qa.toDs [])))]),(.box [(.dat (.lst ((List.map Qc) v53))),(.dat (.lst ((List.map Qc) v54))),(.dat (.lst ((List.map Qc) v55))),(.dat (.lst ((List.map Qc) v56))),(Qd v57),(Qd v58),(.dat (.lst ((List.map Qc) v59)))]),(.box [(Qd 2),(.dat (.lst ((List.map Qc) []))),(Qd 0),(.dat (.lst ((List.map Qc) []))),(Qd 0),(Qd 0),(.dat (.lst ((List.map Qc) []))),(.dat (.lst (Qa.toDs [])))])]⟩) ?_ (fun d=>?_)
  ·replace hm:=hs
   clear hs
   refine Qx hm (QO _ _) (fun hm=>?_) (fun hm=>?_)
   ·refine R_G (Qb 3 ?_)
    obtain ⟨⟨v61,v62⟩,hx,hm⟩:=Qf hm
    have hq:=QeF _ _ hx []
    refine Qr hq ?_
    refine Qb 5 (Qg ?_)
    obtain ⟨rfl,rfl,rfl,rfl,rfl,rfl,rfl,rfl⟩:=QfY hm
    exact Qm
   refine R_G (Qb 3 ?_)
   obtain ⟨⟨v63,v64⟩,hx,hm⟩:=Qf hm
   have hq:=QeE _ _ hx []
   refine Qr hq ?_
   refine Qb 5 (Qg ?_)
   obtain ⟨rfl,rfl,rfl,rfl,rfl,rfl,rfl,rfl⟩:=QfY hm
   exact Qm
  clear hs
  refine R_G (Qb 4 (Qg (Qe (R_G (Qb 4 (Qg (Qe (Qe (R_G (Qb 2 (Qg ?_)))))))))))
  refine Qx hm (ne_dec _ _) (fun hm=>?_) (fun hm=>?_)
  ·refine Qe (R_G (Qb 4 (Qg (Qt ?_))))
   obtain ⟨rfl,rfl⟩:=Zn hm
   exact ⟨trivial,Qk⟩
  refine Qs (Qe ?_)
  refine YM ?_
  refine Qb 4 ?_
  obtain ⟨v65,hx,hm⟩:=Qf hm
  have hq:=Xz _ _ hx []
  refine Qr hq ?_
  obtain ⟨v66,hx,hm⟩:=Qf hm
  have hq:=Xo _ _ hx []
  refine Qr hq ?_
  refine Qb 2 ?_
  refine Qg ⟨by kernel_rfl,?_⟩
  refine Qt ?_
  obtain ⟨rfl,rfl⟩:=Zn hm
  exact ⟨trivial,Qk⟩
 refine Qe (R_G (Qb 2 (Qg ?_)))
 refine Qx hm (QO _ _) (fun hm=>?_) (fun hm=>?_)
 ·refine Qe (R_G (Qb 4 (Qg (Qe (Qe (R_G (Qb 3 (Qg ?_))))))))
  obtain ⟨⟨v67,v68,v69,v70,v71,v72,v73,v74⟩,hs,hm⟩:=Qf hm
  refine Q7 (fun d=>⟨sl d 146 [(5,(.ptr 1 0)),(6,(.ptr 2 0)),(11,(.ptr 3 0)),(12,(Qd v74)),(13,(.ptr 4 0))],[(.box [(Qd p1.kind),(Qd p1.fn),(Qd p1.axis),(.dat (strD p1.name)),(.dat (.lst ((List.map Qc) p1.nums))),(.dat (.lst (Qh.toDs p1.kids)))]),(.box [(Qd p2.kind),(.dat (.lst ((List.map Qc) p2.shape))),(Qd p2.buffer),(.dat (.lst ((List.map Qc) p2.starts))),(Qd p2.axis),(Qd p2.amount),(.dat (.lst ((List.map Qc) p2.perm))),(.dat (.lst (Qa.toDs p2.kids)))]),(.box [(Qd 0),(.dat (.lst ((List.map Qc) []))),(Qd 0),(.dat (.lst ((List.map Qc) []))),(Qd 0),(Qd 0),(.dat (.lst ((List.map Qc) []))),(.dat (.lst (Qa.toDs [])))]),(.box [(.dat (.lst ((List.map Qc) v67))),(.dat (.lst ((List.map Qc) v68))),(.dat (.lst ((List.map Qc) v69))),(.dat (.lst ((List.map Qc) v70))),(Qd v71),(Qd v72),(.dat (.lst ((List.map Qc) v73)))]),(.box [(Qd p1.kind),(.dat (.lst ((List.map Qc) []))),(Qd 0),(.dat (.lst ((List.map Qc) []))),(Qd 0),(Qd 0),(.dat (.lst ((List.map Qc) []))),(.dat (.lst (Qa.toDs [])))])]⟩) ?_ (fun d=>?_)
  ·replace hm:=hs
   clear hs
   refine Qx hm (QO _ _) (fun hm=>?_) (fun hm=>?_)
   ·refine R_G (Qb 4 ?_)
    obtain ⟨⟨v75,v76⟩,hx,hm⟩:=Qf hm
    have hq:=QbB _ _ hx []
    refine Qr hq ?_
    refine Qb 5 (Qg ?_)
    obtain ⟨rfl,rfl,rfl,rfl,rfl,rfl,rfl,rfl⟩:=QfY hm
    exact Qm
   refine R_G (Qb 5 ?_)
   obtain ⟨⟨v77,v78⟩,hx,hm⟩:=Qf hm
   have hq:=QdE _ _ hx []
   refine Qr hq ?_
   refine Qb 5 (Qg ?_)
   obtain ⟨rfl,rfl,rfl,rfl,rfl,rfl,rfl,rfl⟩:=QfY hm
   exact Qm
  clear hs
  refine Qe (Qe ?_)
  obtain ⟨v79,hs,hm⟩:=Qf hm
  refine Q7 (fun d=>⟨sl d 146 [(5,(.ptr 1 0)),(6,(.ptr 2 0)),(11,(.ptr 3 0)),(12,(Qd v74)),(13,(.ptr 4 0)),(90,(Qp v79))],[(.box [(Qd p1.kind),(Qd p1.fn),(Qd p1.axis),(.dat (strD p1.name)),(.dat (.lst ((List.map Qc) p1.nums))),(.dat (.lst (Qh.toDs p1.kids)))]),(.box [(Qd p2.kind),(.dat (.lst ((List.map Qc) p2.shape))),(Qd p2.buffer),(.dat (.lst ((List.map Qc) p2.starts))),(Qd p2.axis),(Qd p2.amount),(.dat (.lst ((List.map Qc) p2.perm))),(.dat (.lst (Qa.toDs p2.kids)))]),(.box [(Qd 0),(.dat (.lst ((List.map Qc) []))),(Qd 0),(.dat (.lst ((List.map Qc) []))),(Qd 0),(Qd 0),(.dat (.lst ((List.map Qc) []))),(.dat (.lst (Qa.toDs [])))]),(.box [(.dat (.lst ((List.map Qc) v67))),(.dat (.lst ((List.map Qc) v68))),(.dat (.lst ((List.map Qc) v69))),(.dat (.lst ((List.map Qc) v70))),(Qd v71),(Qd v72),(.dat (.lst ((List.map Qc) v73)))]),(.box [(Qd p1.kind),(.dat (.lst ((List.map Qc) []))),(Qd 0),(.dat (.lst ((List.map Qc) []))),(Qd 0),(Qd 0),(.dat (.lst ((List.map Qc) []))),(.dat (.lst (Qa.toDs [])))])]⟩) ?_ (fun d=>?_)
  ·replace hm:=hs
   clear hs
   refine R_G (Qb 3 ?_)
   refine Qy 86 hm (QO _ _) (fun hm=>?_) (fun hm=>?_)
   ·refine Qb 4 (Qg ?_)
    obtain rfl:=Qq hm
    exact Qm
   refine Qb 4 (Qg ?_)
   obtain rfl:=Qq hm
   exact Qm
  clear hs
  refine Qx hm (QC _) (fun hm=>?_) (fun hm=>?_)
  ·refine Qe (R_G (Qb 3 (Qg (Qt ?_))))
   obtain ⟨rfl,rfl⟩:=Zn hm
   exact ⟨trivial,Qk⟩
  refine Qs (Qe (R_G (Qb 4 (Qg (R_G (Qb 4 (Qg (Qe (R_G (Qb 4 (Qg ?_)))))))))))
  refine Qe (Qe (R_G (Qb 2 (Qg ?_))))
  refine Qx hm (ne_dec _ _) (fun hm=>?_) (fun hm=>?_)
  ·refine Qe (R_G (Qb 4 (Qg (Qt ?_))))
   obtain ⟨rfl,rfl⟩:=Zn hm
   exact ⟨trivial,Qk⟩
  refine Qs (Qe ?_)
  refine YM ?_
  refine Qb 4 ?_
  obtain ⟨v80,hx,hm⟩:=Qf hm
  have hq:=Xz _ _ hx []
  refine Qr hq ?_
  obtain ⟨v81,hx,hm⟩:=Qf hm
  have hq:=Xo _ _ hx []
  refine Qr hq ?_
  refine Qb 2 ?_
  refine Qg ⟨by kernel_rfl,?_⟩
  refine Qt ?_
  obtain ⟨rfl,rfl⟩:=Zn hm
  exact ⟨trivial,Qk⟩
 refine Qe (R_G (Qb 2 (Qg ?_)))
 obtain ⟨⟨v82,v83,v84,v85,v86,v87,v88,v89,v90,v91⟩,hs,hm⟩:=Qf hm
 refine Q7 (fun d=>⟨sl d 146 [(5,(.ptr 1 0)),(6,(.ptr 2 0)),(11,(.ptr 3 0)),(12,(Qd v91)),(13,(.ptr 4 0))],[(.box [(Qd p1.kind),(Qd p1.fn),(Qd p1.axis),(.dat (strD p1.name)),(.dat (.lst ((List.map Qc) p1.nums))),(.dat (.lst (Qh.toDs p1.kids)))]),(.box [(Qd p2.kind),(.dat (.lst ((List.map Qc) p2.shape))),(Qd p2.buffer),(.dat (.lst ((List.map Qc) p2.starts))),(Qd p2.axis),(Qd p2.amount),(.dat (.lst ((List.map Qc) p2.perm))),(.dat (.lst (Qa.toDs p2.kids)))]),(.box [(Qd 0),(.dat (.lst ((List.map Qc) []))),(Qd 0),(.dat (.lst ((List.map Qc) []))),(Qd 0),(Qd 0),(.dat (.lst ((List.map Qc) []))),(.dat (.lst (Qa.toDs [])))]),(.box [(.dat (.lst ((List.map Qc) v82))),(.dat (.lst ((List.map Qc) v83))),(.dat (.lst ((List.map Qc) v84))),(.dat (.lst ((List.map Qc) v85))),(Qd v86),(Qd v87),(.dat (.lst ((List.map Qc) v88)))]),(.box [(Qd v89),(.dat (.lst ((List.map Qc) []))),(Qd 0),(.dat (.lst ((List.map Qc) []))),(Qd 0),(Qd 0),(.dat (.lst ((List.map Qc) v90))),(.dat (.lst (Qa.toDs [])))])]⟩) ?_ (fun d=>?_)
 ·replace hm:=hs
  clear hs
  refine Qx hm (QO _ _) (fun hm=>?_) (fun hm=>?_)
  ·refine Qe (R_G (Qb 2 (Qg (Qe (Qe (R_G (Qb 3 (Qg ?_))))))))
   refine Qx hm (QO _ _) (fun hm=>?_) (fun hm=>?_)
   ·refine R_G (Qb 2 ?_)
    obtain ⟨v92,hx,hm⟩:=Qf hm
    have hq:=QeL _ _ hx []
    refine Qr hq ?_
    refine Qb 1 (Qg (R_G (Qb 4 (Qg ?_))))
    obtain ⟨rfl,rfl,rfl,rfl,rfl,rfl,rfl,rfl,rfl,rfl⟩:=Qee hm
    exact Qm
   refine R_G (Qb 3 ?_)
   obtain ⟨⟨v93,v94⟩,hx,hm⟩:=Qf hm
   have hq:=Qcm _ _ hx []
   refine Qr hq ?_
   refine Qb 5 (Qg (R_G (Qb 4 (Qg ?_))))
   obtain ⟨rfl,rfl,rfl,rfl,rfl,rfl,rfl,rfl,rfl,rfl⟩:=Qee hm
   exact Qm
  refine Qe (R_G (Qb 2 (Qg ?_)))
  refine Qx hm (QO _ _) (fun hm=>?_) (fun hm=>?_)
  ·refine Qe (R_G (Qb 2 (Qg (R_G (Qb 3 ?_)))))
   obtain ⟨⟨v95,v96⟩,hx,hm⟩:=Qf hm
   have hq:=Qc3 _ _ hx []
   refine Qr hq ?_
   refine Qb 5 (Qg ?_)
   obtain ⟨rfl,rfl,rfl,rfl,rfl,rfl,rfl,rfl,rfl,rfl⟩:=Qee hm
   exact Qm
  refine Qe (R_G (Qb 2 (Qg ?_)))
  refine Qx hm (QO _ _) (fun hm=>?_) (fun hm=>?_)
  ·refine Qe (R_G (Qb 2 (Qg (R_G (Qb 2 ?_)))))
   obtain ⟨v97,hx,hm⟩:=Qf hm
   have hq:=Qea _ _ hx []
   refine Qr hq ?_
   refine Qb 1 (Qg ?_)
   obtain ⟨rfl,rfl,rfl,rfl,rfl,rfl,rfl,rfl,rfl,rfl⟩:=Qee hm
   exact Qm
  refine Qs ?_
  obtain ⟨rfl,rfl,rfl,rfl,rfl,rfl,rfl,rfl,rfl,rfl⟩:=Qee hm
  exact Qm
 clear hs
 refine Qe (R_G (Qb 4 (Qg (Qe (Qe (R_G (Qb 2 (Qg ?_))))))))
 refine Qx hm (ne_dec _ _) (fun hm=>?_) (fun hm=>?_)
 ·refine Qe (R_G (Qb 4 (Qg (Qt ?_))))
  obtain ⟨rfl,rfl⟩:=Zn hm
  exact ⟨trivial,Qk⟩
 refine Qs (Qe ?_)
 refine YM ?_
 refine Qb 4 ?_
 obtain ⟨v98,hx,hm⟩:=Qf hm
 have hq:=Xz _ _ hx []
 refine Qr hq ?_
 obtain ⟨v99,hx,hm⟩:=Qf hm
 have hq:=Xo _ _ hx []
 refine Qr hq ?_
 refine Qb 2 ?_
 refine Qg ⟨by kernel_rfl,?_⟩
 refine Qt ?_
 obtain ⟨rfl,rfl⟩:=Zn hm
 exact ⟨trivial,Qk⟩
def Zj (x:((List Int) × Int × Int × (List Int) × Int)):Option ((List Int)) :=
 match x with
 | (p0,p1,p2,v201,v202) =>
 if v202≤(p0.length:Int) then
  (if v202=p1 then
   app 8 v201 ([p2]:List Int)>>=fun v603 =>
   some v603
  else
  some v201
  )>>=fun (v602:(List Int)) =>
  if v202 < (p0.length:Int) then
   idx p0 v202>>=fun v604 =>
   app 8 v602 ([v604]:List Int)>>=fun v605 =>
   Zj (p0,p1,p2,v605,(W (v202+1)))
  else
  Zj (p0,p1,p2,v602,(W (v202+1)))
 else
 some v201
 partial_fixpoint
def Qcb:((List Int) × Int × Int × (List Int) × Int)→(List Int)→Prop:=fun x r=>match x with
 | (p0,p1,p2,v201,v202)=>∀ st,prune 1 ((Qw (QD [1,1,0,1,0,0] (QE f93))).bind (env.hint 93).keepAt) st=⟨kp 34 [(0,(.dat (.lst ((List.map Qc) p0)))),(1,(Qd p1)),(2,(Qd p2)),(7,(.vec 0 ((List.map Qc) v201))),(8,(Qd v202))],[(.tok 3 v201.length)]⟩ →
  RL prog env (env.hint 93) true (QD [1,1,0,1,0,0] (QE f93)) 1 st (fun e s=>match r with|v601=>e=.exit 0∧∃ d,s=⟨sl d 34 [(7,(.vec 0 ((List.map Qc) v601)))],[(.tok 3 v601.length)]⟩)
theorem Jv:∀ x r,Zj x=some r→Qcb x r:=by
 refine Zj.partial_correctness _ (fun Zj Jv x r hm=>?_)
 unfold Qcb
 obtain ⟨p0,p1,p2,v201,v202⟩:=x
 intro st hst
 refine RL_at hst ?_
 clear hst
 refine Qe (Qe (R_G (Qb 2 ?_)))
 refine QG Qc p0 (es:=(List.map Qc) p0) rfl ?_
 refine Qb 1 (Qg ?_)
 refine Qx hm (rfl) (fun hm=>?_) (fun hm=>?_)
 ·refine Qs (Qe (Qz (Qe (Qe (R_G (Qb 3 (Qg ?_)))))))
  obtain ⟨v602,hs,hm⟩:=Qf hm
  refine Q7 (fun d=>⟨sl d 34 [(0,(.dat (.lst ((List.map Qc) p0)))),(1,(Qd p1)),(2,(Qd p2)),(7,(.vec 0 ((List.map Qc) v602))),(8,(Qd v202))],[(.tok 3 v602.length)]⟩) ?_ (fun d=>?_)
  ·replace hm:=hs
   clear hs
   refine Qx hm (QO _ _) (fun hm=>?_) (fun hm=>?_)
   ·refine R_G (Qb 3 ?_)
    obtain ⟨v603,hx,hm⟩:=Qf hm
    refine YZ 3 1 8 0 Qc v201 ([p2]:List Int) v603 (xs:=(List.map Qc) v201) (es:=(List.map Qc) ([p2]:List Int)) (L:=(List.map Qc)) (fun _=>rfl) rfl rfl (fun _=>rfl) hx ?_
    refine Qb 1 (Qg ?_)
    obtain rfl:=Qq hm
    exact Qm
   refine Qs ?_
   obtain rfl:=Qq hm
   exact Qm
  clear hs
  refine Qe (R_G (Qb 2 ?_))
  refine QG Qc p0 (es:=(List.map Qc) p0) rfl ?_
  refine Qb 1 (Qg ?_)
  refine Qx hm (rfl) (fun hm=>?_) (fun hm=>?_)
  ·refine R_G (Qb 3 ?_)
   refine QF 1 Qc hm rfl (fun _=>rfl) (fun v604 hm=>?_)
   refine Qb 2 ?_
   obtain ⟨v605,hx,hm⟩:=Qf hm
   refine YZ 3 1 8 0 Qc v602 ([v604]:List Int) v605 (xs:=(List.map Qc) v602) (es:=(List.map Qc) ([v604]:List Int)) (L:=(List.map Qc)) (fun _=>rfl) rfl rfl (fun _=>rfl) hx ?_
   refine Qb 1 (Qg (R_G (Qb 3 (Qg ?_))))
   exact Jv _ _ hm _ (by kernel_rfl)
  refine Qs (R_G (Qb 3 (Qg ?_)))
  exact Jv _ _ hm _ (by kernel_rfl)
 refine QP ?_
 obtain rfl:=Qq hm
 exact ⟨rfl,Qm⟩
def Xk (x:((List Int) × Int × Int)):Option (List Int) :=
 match x with
 | (p0,p1,p2) =>
 Zj (p0,p1,p2,([]:List Int),0)>>=fun (v601:(List Int)) =>
 some v601
def Qdy:((List Int) × Int × Int)→(List Int)→Prop:=fun x r=>match x,r with
 | (p0,p1,p2),r0=>∀ H,PC prog env 93 ([(.lst ((List.map Qc) p0)),(Qc p1),(Qc p2)].map .dat) H (.dat (.lst ((List.map Qc) r0))) H
theorem QbZ:∀ x r,Xk x=some r→Qdy x r:=by
 intro x r0 hm
 unfold Xk at hm
 unfold Qdy
 obtain ⟨p0,p1,p2⟩:=x
 intro H
 refine PC_sx (ds:=[(.lst ((List.map Qc) p0)),(Qc p1),(Qc p2)]) (fn:=f93) rfl ?_
 refine Qe (R_G (Qb 1 (Qg (Qe (R_G (Qb 1 (Qg (Qe (Qe (R_G (Qb 1 ?_)))))))))))
 refine Qg (Qz ?_)
 obtain ⟨v601,hs,hm⟩:=Qf hm
 refine QT ?_
 refine RL_use (Jv _ _ hs) (by kernel_rfl) ?_
 clear hs
 intro e s hp
 obtain ⟨rfl,d,rfl⟩:=hp
 refine Qe (R_G (Qb 2 (Qg (Qt ?_))))
 obtain rfl:=Qq hm
 exact ⟨trivial,Qk⟩
end Go.Proofs.Tryz
