/-
 Models of functions, their walks, and plain laws.
-/
import Derived.Laws.RangeString
import Derived.Test.YtlnecbnmhhjdpaaGreatKElabSourcesB
namespace Go.Proofs.Tryz
open Go Go.Pm
set_option linter.unusedVariables false
set_option maxHeartbeats 2000000
set_option maxRecDepth 2000
mutual
def ZG (x:(Qc × (List Qc) × Int)):Option ((List Qc)) :=
 match x with
 | (p0,v201,v202) =>
 if v202≥0 then
  idx p0.kids v202>>=fun v602 =>
  Xi v602>>=fun (v603:(List Qc)) =>
  app 88 v201 v603>>=fun v604 =>
  ZG (p0,v604,(W (v202 - 1)))
 else
 some v201
 partial_fixpoint
def Xi (x:Qc):Option (List Qc) :=
 match x with
 | p0 =>
 ZG (p0,([]:List Qc),(W ((p0.kids.length:Int) - 1)))>>=fun (v601:(List Qc)) =>
 app 88 v601 ([p0]:List Qc)>>=fun v605 =>
 some v605
 partial_fixpoint
end
def J5:(Qc × (List Qc) × Int)→(List Qc)→Prop:=fun x r=>match x with
 | (p0,v201,v202)=>∀ st,prune 2 ((QB (QJ [1,1,0,1,0,0] (QO f18))).bind (env.hint 18).keepAt) st=⟨kp 25 [(1,(.ptr 0 0)),(3,(.vec 1 (Qc.toDs v201))),(4,(Qe v202))],[(.box [(Qe p0.kind),(Qe p0.fn),(Qe p0.axis),(.dat (strD p0.name)),(La p0.nums),(.dat (.lst (Qc.toDs p0.kids)))]),(.tok 26 v201.length)]⟩ →
  RL prog env (env.hint 18) true (QJ [1,1,0,1,0,0] (QO f18)) 2 st (fun e s=>match r with|v601=>e=.exit 0∧∃ d,s=⟨sl d 25 [(1,(.ptr 0 0)),(3,(.vec 1 (Qc.toDs v601)))],[(.box [(Qe p0.kind),(Qe p0.fn),(Qe p0.axis),(.dat (strD p0.name)),(La p0.nums),(.dat (.lst (Qc.toDs p0.kids)))]),(.tok 26 v601.length)]⟩)
def Qa7:Qc→(List Qc)→Prop:=fun x r=>match x,r with
 | p0,r0=>∀ H,PC prog env 18 ([(Qc.ex p0)].map .dat) H (.dat (.lst (Qc.toDs r0))) H
theorem g_ref08_Steps_L1:(∀ x r,ZG x=some r→J5 x r)∧(∀ x r,Xi x=some r→Qa7 x r):=by
 refine ZG.mutual_partial_correctness J5 Qa7 ?_ ?_
 ·intro ZG Xi Qae Qbe x r hm
  unfold J5
  obtain ⟨p0,v201,v202⟩:=x
  intro st hst
  refine RL_at hst ?_
  clear hst
  refine Qd (Qd (R_G (Qb 2 (Qf ?_))))
  refine Qx hm (rfl) (fun hm=>?_) (fun hm=>?_)
  ·refine Qp (Qd (Qu (R_G (Qb 4 ?_))))
   obtain ⟨v602,hx,hm⟩:=Qi hm
   refine Qbg 6 Qc.toD p0.kids v202 v602 (es:=Qc.toDs p0.kids) (d:=(Qc.ex v602)) (Qc.toDs_eq _) hx (Qc.toD_eq v602) rfl ?_
   refine Qb 1 ?_
   obtain ⟨v603,hx,hm⟩:=Qi hm
   have hq:=Qbe _ _ hx []
   refine Qq hq ?_
   obtain ⟨v604,hx,hm⟩:=Qi hm
   refine QcJ 26 6 88 1 Qc.toD v201 v603 v604 (xs:=Qc.toDs v201) (es:=Qc.toDs v603) (L:=Qc.toDs) Qc.toDs_eq rfl rfl Qc.fit hx ?_
   refine Qb 1 (Qf (R_G (Qb 3 (Qf ?_))))
   exact Qae _ _ hm _ (by kernel_rfl)
  refine Q7 ?_
  obtain rfl:=Qs hm
  exact ⟨rfl,Qr⟩
 ·intro ZG Qae p0 r0 hm
  unfold Qa7
  intro H
  refine PC_sx (ds:=[(Qc.ex p0)]) (fn:=f18) rfl ?_
  refine Qd (R_G (Qb 2 (Qf (Qd (R_G (Qb 1 (Qf (Qd (Qd (R_G (Qb 2 ?_)))))))))))
  refine QV Qc.toD p0.kids (es:=Qc.toDs p0.kids) (Qc.toDs_eq _) ?_
  refine Qb 2 (Qf (Qu ?_))
  obtain ⟨v601,hs,hm⟩:=Qi hm
  refine Za ?_
  refine RL_use (Qae _ _ hs) (by kernel_rfl) ?_
  clear hs
  intro e s hp
  obtain ⟨rfl,d,rfl⟩:=hp
  refine Qd (R_G (Qb 3 ?_))
  obtain ⟨v605,hx,hm⟩:=Qi hm
  refine QcJ 26 6 88 1 Qc.toD v601 ([p0]:List Qc) v605 (xs:=Qc.toDs v601) (es:=[(Qc.ex p0)]) (L:=Qc.toDs) Qc.toDs_eq rfl (by simp only [Qc.toDs,Qc.toD_eq]) Qc.fit hx ?_
  refine Qb 1 (Qf (Qo ?_))
  obtain rfl:=Qs hm
  exact ⟨trivial,Qk⟩
theorem Qae:∀ x r,ZG x=some r→J5 x r:=g_ref08_Steps_L1.1
theorem Qbe:∀ x r,Xi x=some r→Qa7 x r:=g_ref08_Steps_L1.2
def Xh (x:((List ByteArray) × ByteArray × Int)):Option (Unit ⊕ Unit) :=
 match x with
 | (p1,p0,v201) =>
 if v201 < (p1.length:Int) then
  idx p1 v201>>=fun v601 =>
  if v601=p0 then
   some (Sum.inl ())
  else
  Xh (p1,p0,(W (v201+1)))
 else
 some (Sum.inr ())
 partial_fixpoint
def QdA:((List ByteArray) × ByteArray × Int)→(Unit ⊕ Unit)→Prop:=fun x r=>match x with
 | (p1,p0,v201)=>∀ st,prune 0 ((QB (QJ [1,0,1,0,0] (QO f10))).bind (env.hint 10).keepAt) st=⟨kp 18 [(0,(.dat (strD p0))),(1,(.dat (.lst ((List.map strD) p1)))),(5,(Qe v201))],[]⟩ →
  RL prog env (env.hint 10) true (QJ [1,0,1,0,0] (QO f10)) 0 st (fun e s=>match r with|.inl _=>e=.ret∧∃ d,s=⟨sl d 18 [(4,(Qn true))],[]⟩|.inr (_)=>e=.exit 0∧∃ d,s=⟨sl d 18 [],[]⟩)
theorem Qbd:∀ x r,Xh x=some r→QdA x r:=by
 refine Xh.partial_correctness _ (fun Xh Qbd x r hm=>?_)
 unfold QdA
 obtain ⟨p1,p0,v201⟩:=x
 intro st hst
 refine RL_at hst ?_
 clear hst
 refine Qd (Qd (R_G (Qb 2 ?_)))
 refine QV strD p1 (es:=(List.map strD) p1) rfl ?_
 refine Qb 1 (Qf ?_)
 refine Qx hm (rfl) (fun hm=>?_) (fun hm=>?_)
 ·refine Qp (Qd (Qu (Qd (R_G (Qb 2 ?_)))))
  refine Zt 1 strD hm rfl (fun _=>rfl) (fun v601 hm=>?_)
  refine Qb 2 ?_
  refine Zq rfl (fun _=>Qbf (a:=v601) (b:=p0) rfl (by kernel_rfl) (by kernel_rfl)) ?_
  refine Qf ?_
  refine Qx hm (rfl) (fun hm=>?_) (fun hm=>?_)
  ·refine Qd (R_G (Qb 1 (Qf (Qo ?_))))
   obtain rfl:=Qs hm
   exact ⟨rfl,Qr⟩
  refine Qp (R_G (Qb 3 (Qf ?_)))
  exact Qbd _ _ hm _ (by kernel_rfl)
 refine Q7 ?_
 obtain rfl:=Qs hm
 exact ⟨rfl,Qr⟩
def QbM (x:(ByteArray × (List ByteArray))):Option Bool :=
 match x with
 | (p0,p1) =>
 (
 Xh (p1,p0,0)>>=fun (out:Unit ⊕ Unit) =>
 match out with
 | .inl _ =>
  some true
 | .inr (_) =>
  some false
 )
def QeH:(ByteArray × (List ByteArray))→Bool→Prop:=fun x r=>match x,r with
 | (p0,p1),r0=>∀ H,PC prog env 10 ([(strD p0),(.lst ((List.map strD) p1))].map .dat) H (Qn r0) H
theorem QfD:∀ x r,QbM x=some r→QeH x r:=by
 intro x r0 hm
 unfold QbM at hm
 unfold QeH
 obtain ⟨p0,p1⟩:=x
 intro H
 refine PC_sx (ds:=[(strD p0),(.lst ((List.map strD) p1))]) (fn:=f10) rfl ?_
 refine Qd (R_G (Qb 1 (Qf (Qd (Qd (R_G (Qb 1 (Qf (Qu ?_)))))))))
 obtain ⟨out,hs,hm⟩:=Qi hm
 refine Za ?_
 rcases out with _|_
 ·refine RL_use (Qbd _ _ hs) (by kernel_rfl) ?_
  clear hs
  intro e s hp
  obtain ⟨rfl,d,rfl⟩:=hp
  obtain rfl:=Qs hm
  exact ⟨trivial,Qk⟩
 ·refine RL_use (Qbd _ _ hs) (by kernel_rfl) ?_
  clear hs
  intro e s hp
  obtain ⟨rfl,d,rfl⟩:=hp
  refine Qd (R_G (Qb 1 (Qf (Qo ?_))))
  obtain rfl:=Qs hm
  exact ⟨trivial,Qk⟩
def Z4 (x:((List Qc) × Qc × (List ByteArray) × Int)):Option ((List ByteArray)) :=
 match x with
 | (v1,p0,v202,v203) =>
 if v203 < (v1.length:Int) then
  (idx v1 v203>>=fun v604 =>
  if v604.kind=2 then
   idx v1 v203>>=fun v605 =>
   QbM (v605.name,v202)>>=fun (v606:Bool) =>
   some (!v606)
  else
  some false
  )>>=fun (v603:Bool) =>
  if v603=true then
   idx v1 v203>>=fun v607 =>
   app 16 v202 ([v607.name]:List ByteArray)>>=fun v608 =>
   Z4 (v1,p0,v608,(W (v203+1)))
  else
  Z4 (v1,p0,v202,(W (v203+1)))
 else
 some v202
 partial_fixpoint
def Qcj:((List Qc) × Qc × (List ByteArray) × Int)→(List ByteArray)→Prop:=fun x r=>match x with
 | (v1,p0,v202,v203)=>∀ st,prune 2 ((QB (QJ [1,1,1,0,1,0,0] (QO f9))).bind (env.hint 9).keepAt) st=⟨kp 39 [(3,(.vec 1 ((List.map strD) v202))),(4,(.dat (.lst (Qc.toDs v1)))),(5,(Qe v203))],[(.box [(Qe p0.kind),(Qe p0.fn),(Qe p0.axis),(.dat (strD p0.name)),(La p0.nums),(.dat (.lst (Qc.toDs p0.kids)))]),(.tok 9 v202.length)]⟩ →
  RL prog env (env.hint 9) true (QJ [1,1,1,0,1,0,0] (QO f9)) 2 st (fun e s=>match r with|v602=>e=.exit 0∧∃ d,s=⟨sl d 39 [(3,(.vec 1 ((List.map strD) v602)))],[(.box [(Qe p0.kind),(Qe p0.fn),(Qe p0.axis),(.dat (strD p0.name)),(La p0.nums),(.dat (.lst (Qc.toDs p0.kids)))]),(.tok 9 v602.length)]⟩)
theorem Qad:∀ x r,Z4 x=some r→Qcj x r:=by
 refine Z4.partial_correctness _ (fun Z4 Qad x r hm=>?_)
 unfold Qcj
 obtain ⟨v1,p0,v202,v203⟩:=x
 intro st hst
 refine RL_at hst ?_
 clear hst
 refine Qd (Qd (R_G (Qb 2 ?_)))
 refine QV Qc.toD v1 (es:=Qc.toDs v1) (Qc.toDs_eq _) ?_
 refine Qb 1 (Qf ?_)
 refine Qx hm (rfl) (fun hm=>?_) (fun hm=>?_)
 ·refine Qp (Qd (Qu (Qd ?_)))
  obtain ⟨v603,hs,hm⟩:=Qi hm
  refine Xc (fun d=>⟨sl d 39 [(3,(.vec 1 ((List.map strD) v202))),(4,(.dat (.lst (Qc.toDs v1)))),(5,(Qe v203)),(29,(Qn v603))],[(.box [(Qe p0.kind),(Qe p0.fn),(Qe p0.axis),(.dat (strD p0.name)),(La p0.nums),(.dat (.lst (Qc.toDs p0.kids)))]),(.tok 9 v202.length)]⟩) ?_ (fun d=>?_)
  ·replace hm:=hs
   clear hs
   refine R_G (Qb 2 ?_)
   obtain ⟨v604,hx,hm⟩:=Qi hm
   refine Qbg 6 Qc.toD v1 v203 v604 (es:=Qc.toDs v1) (d:=(Qc.ex v604)) (Qc.toDs_eq _) hx (Qc.toD_eq v604) rfl ?_
   refine Qb 4 ?_
   refine Qz 20 hm (ZW _ _) (fun hm=>?_) (fun hm=>?_)
   ·refine Qb 2 ?_
    obtain ⟨v605,hx,hm⟩:=Qi hm
    refine Qbg 6 Qc.toD v1 v203 v605 (es:=Qc.toDs v1) (d:=(Qc.ex v605)) (Qc.toDs_eq _) hx (Qc.toD_eq v605) rfl ?_
    refine Qb 3 ?_
    obtain ⟨v606,hx,hm⟩:=Qi hm
    have hq:=QfD _ _ hx []
    refine Qq hq ?_
    refine Qb 2 (Qf ?_)
    obtain rfl:=Qs hm
    exact Qr
   refine Qb 9 (Qf ?_)
   obtain rfl:=Qs hm
   exact Qr
  clear hs
  refine Qx hm (QG _) (fun hm=>?_) (fun hm=>?_)
  ·refine R_G (Qb 3 ?_)
   obtain ⟨v607,hx,hm⟩:=Qi hm
   refine Qbg 6 Qc.toD v1 v203 v607 (es:=Qc.toDs v1) (d:=(Qc.ex v607)) (Qc.toDs_eq _) hx (Qc.toD_eq v607) rfl ?_
   refine Qb 3 ?_
   obtain ⟨v608,hx,hm⟩:=Qi hm
   refine QcJ 9 1 16 1 strD v202 ([v607.name]:List ByteArray) v608 (xs:=(List.map strD) v202) (es:=(List.map strD) ([v607.name]:List ByteArray)) (L:=(List.map strD)) (fun _=>rfl) rfl rfl (fun _=>rfl) hx ?_
   refine Qb 1 (Qf (R_G (Qb 3 (Qf ?_))))
   exact Qad _ _ hm _ (by kernel_rfl)
  refine Qp (R_G (Qb 3 (Qf ?_)))
  exact Qad _ _ hm _ (by kernel_rfl)
 refine Q7 ?_
 obtain rfl:=Qs hm
 exact ⟨rfl,Qr⟩
def Qap (x:Qc):Option (List ByteArray) :=
 match x with
 | p0 =>
 Xi p0>>=fun (v1:(List Qc)) =>
 Z4 (v1,p0,([]:List ByteArray),0)>>=fun (v602:(List ByteArray)) =>
 some v602
def QdB:Qc→(List ByteArray)→Prop:=fun x r=>match x,r with
 | p0,r0=>∀ H,PC prog env 9 ([(Qc.ex p0)].map .dat) H (.dat (.lst ((List.map strD) r0))) H
theorem Qe0:∀ x r,Qap x=some r→QdB x r:=by
 intro p0 r0 hm
 unfold Qap at hm
 unfold QdB
 intro H
 refine PC_sx (ds:=[(Qc.ex p0)]) (fn:=f9) rfl ?_
 refine Qd (R_G (Qb 2 (Qf (Qd (R_G (Qb 1 (Qf (Qd (R_G (Qb 1 ?_))))))))))
 obtain ⟨v1,hx,hm⟩:=Qi hm
 have hq:=Qbe _ _ hx []
 refine Qq hq ?_
 refine Qb 1 (Qf (Qd (Qd (R_G (Qb 1 (Qf (Qu ?_)))))))
 obtain ⟨v602,hs,hm⟩:=Qi hm
 refine Za ?_
 refine RL_use (Qad _ _ hs) (by kernel_rfl) ?_
 clear hs
 intro e s hp
 obtain ⟨rfl,d,rfl⟩:=hp
 refine Qd (R_G (Qb 2 (Qf (Qo ?_))))
 obtain rfl:=Qs hm
 exact ⟨trivial,Qk⟩
mutual
def Zi (x:(Qc × ByteArray × Int)):Option (Unit ⊕ Unit) :=
 match x with
 | (p0,p1,v204) =>
 if v204 < (p0.kids.length:Int) then
  idx p0.kids v204>>=fun v604 =>
  Z2 (v604,p1)>>=fun (v605:Bool) =>
  if v605=true then
   some (Sum.inl ())
  else
  Zi (p0,p1,(W (v204+1)))
 else
 some (Sum.inr ())
 partial_fixpoint
def Z2 (x:(Qc × ByteArray)):Option Bool :=
 match x with
 | (p0,p1) =>
 ((if p0.kind=4 then
  some (p0.fn != 6)
 else
 some false
 )>>=fun (v2:Bool) =>
 if v2=true then
  idx p0.kids 0>>=fun v3 =>
  some (decide (v3.name=p1))
 else
 some false
 )>>=fun (v1:Bool) =>
 if v1=true then
  some true
 else
 (
 Zi (p0,p1,0)>>=fun (out:Unit ⊕ Unit) =>
 match out with
 | .inl _ =>
  some true
 | .inr (_) =>
  some false
 )
 partial_fixpoint
end
def XP:(Qc × ByteArray × Int)→(Unit ⊕ Unit)→Prop:=fun x r=>match x with
 | (p0,p1,v204)=>∀ st,prune 1 ((QB (QJ [1,1,0,1,0,0] (QO f19))).bind (env.hint 19).keepAt) st=⟨kp 37 [(1,(.dat (strD p1))),(2,(.ptr 0 0)),(5,(Qe v204))],[(.box [(Qe p0.kind),(Qe p0.fn),(Qe p0.axis),(.dat (strD p0.name)),(La p0.nums),(.dat (.lst (Qc.toDs p0.kids)))])]⟩ →
  RL prog env (env.hint 19) true (QJ [1,1,0,1,0,0] (QO f19)) 1 st (fun e s=>match r with|.inl _=>e=.ret∧∃ d,s=⟨sl d 37 [(4,(Qn true))],[(.box [(Qe p0.kind),(Qe p0.fn),(Qe p0.axis),(.dat (strD p0.name)),(La p0.nums),(.dat (.lst (Qc.toDs p0.kids)))])]⟩|.inr (_)=>e=.exit 0∧∃ d,s=⟨sl d 37 [],[(.box [(Qe p0.kind),(Qe p0.fn),(Qe p0.axis),(.dat (strD p0.name)),(La p0.nums),(.dat (.lst (Qc.toDs p0.kids)))])]⟩)
def J3:(Qc × ByteArray)→Bool→Prop:=fun x r=>match x,r with
 | (p0,p1),r0=>∀ H,PC prog env 19 ([(Qc.ex p0),(strD p1)].map .dat) H (Qn r0) H
theorem g_law15_measures_L1:(∀ x r,Zi x=some r→XP x r)∧(∀ x r,Z2 x=some r→J3 x r):=by
 refine Zi.mutual_partial_correctness XP J3 ?_ ?_
 ·intro Zi Z2 Y3 Qa2 x r hm
  unfold XP
  obtain ⟨p0,p1,v204⟩:=x
  intro st hst
  refine RL_at hst ?_
  clear hst
  refine Qd (Qd (R_G (Qb 3 ?_)))
  refine QV Qc.toD p0.kids (es:=Qc.toDs p0.kids) (Qc.toDs_eq _) ?_
  refine Qb 1 (Qf ?_)
  refine Qx hm (rfl) (fun hm=>?_) (fun hm=>?_)
  ·refine Qp (Qd (Qu (Qd (R_G (Qb 3 ?_)))))
   obtain ⟨v604,hx,hm⟩:=Qi hm
   refine Qbg 6 Qc.toD p0.kids v204 v604 (es:=Qc.toDs p0.kids) (d:=(Qc.ex v604)) (Qc.toDs_eq _) hx (Qc.toD_eq v604) rfl ?_
   refine Qb 2 ?_
   obtain ⟨v605,hx,hm⟩:=Qi hm
   have hq:=Qa2 _ _ hx []
   refine Qq hq ?_
   refine Qf ?_
   refine Qx hm (QG _) (fun hm=>?_) (fun hm=>?_)
   ·refine Qd (R_G (Qb 1 (Qf (Qo ?_))))
    obtain rfl:=Qs hm
    exact ⟨rfl,Qr⟩
   refine Qp (R_G (Qb 3 (Qf ?_)))
   exact Y3 _ _ hm _ (by kernel_rfl)
  refine Q7 ?_
  obtain rfl:=Qs hm
  exact ⟨rfl,Qr⟩
 ·intro Zi Y3 x r0 hm
  unfold J3
  obtain ⟨p0,p1⟩:=x
  intro H
  refine PC_sx (ds:=[(Qc.ex p0),(strD p1)]) (fn:=f19) rfl ?_
  refine Qd (R_G (Qb 2 (Qf (Qd (Qd ?_)))))
  obtain ⟨v1,hs,hm⟩:=Qi hm
  refine Xc (fun d=>⟨sl d 37 [(1,(.dat (strD p1))),(2,(.ptr 0 0)),(22,(Qn v1))],[(.box [(Qe p0.kind),(Qe p0.fn),(Qe p0.axis),(.dat (strD p0.name)),(La p0.nums),(.dat (.lst (Qc.toDs p0.kids)))])]⟩) ?_ (fun d=>?_)
  ·replace hm:=hs
   clear hs
   refine Qcx ?_
   refine Qb 4 ?_
   obtain ⟨v2,hs,hm⟩:=Qi hm
   refine Y1 (j:=8) (fun d=>⟨sl d 37 [(1,(.dat (strD p1))),(2,(.ptr 0 0)),(13,(Qn v2))],[(.box [(Qe p0.kind),(Qe p0.fn),(Qe p0.axis),(.dat (strD p0.name)),(La p0.nums),(.dat (.lst (Qc.toDs p0.kids)))])]⟩) (fun d=>?_) (fun hJ=>?_)
   ·clear hs
    refine Qb 1 ?_
    refine Qz 14 hm (QG _) (fun hm=>?_) (fun hm=>?_)
    ·refine Qb 2 ?_
     obtain ⟨v3,hx,hm⟩:=Qi hm
     refine Qbg 6 Qc.toD p0.kids 0 v3 (es:=Qc.toDs p0.kids) (d:=(Qc.ex v3)) (Qc.toDs_eq _) hx (Qc.toD_eq v3) rfl ?_
     refine Qb 3 ?_
     refine Zq rfl (fun _=>Qbf (a:=v3.name) (b:=p1) rfl (by kernel_rfl) (by kernel_rfl)) ?_
     refine Qb 1 ?_
     refine Qf ⟨by kernel_rfl,?_⟩
     obtain rfl:=Qs hm
     exact Qr
    refine Qb 8 ?_
    refine Qf ⟨by kernel_rfl,?_⟩
    obtain rfl:=Qs hm
    exact Qr
   clear hm
   refine Qz 9 hs (ZW _ _) (fun hm=>?_) (fun hm=>?_)
   ·refine Qb 4 ?_
    obtain rfl:=Qs hm
    exact hJ _ _
   refine Qb 4 ?_
   obtain rfl:=Qs hm
   exact hJ _ _
  clear hs
  refine Qx hm (QG _) (fun hm=>?_) (fun hm=>?_)
  ·refine Qd (R_G (Qb 1 (Qf (Qo ?_))))
   obtain rfl:=Qs hm
   exact ⟨trivial,Qk⟩
  refine Qp (Qd (Qd (R_G (Qb 1 (Qf (Qu ?_))))))
  obtain ⟨out,hs,hm⟩:=Qi hm
  refine Za ?_
  rcases out with _|_
  ·refine RL_use (Y3 _ _ hs) (by kernel_rfl) ?_
   clear hs
   intro e s hp
   obtain ⟨rfl,d,rfl⟩:=hp
   obtain rfl:=Qs hm
   exact ⟨trivial,Qk⟩
  ·refine RL_use (Y3 _ _ hs) (by kernel_rfl) ?_
   clear hs
   intro e s hp
   obtain ⟨rfl,d,rfl⟩:=hp
   refine Qd (R_G (Qb 1 (Qf (Qo ?_))))
   obtain rfl:=Qs hm
   exact ⟨trivial,Qk⟩
theorem Y3:∀ x r,Zi x=some r→XP x r:=g_law15_measures_L1.1
theorem Qa2:∀ x r,Z2 x=some r→J3 x r:=g_law15_measures_L1.2
def Zc (x:((List Qc) × Qc × (List ByteArray) × (List (ByteArray × Int)) × (List Qa) × (List Qa) × Int × (List Int) × Int × (List Int) × Int × Int × (List Int) × (List Qh) × (List Qg) × (List Qg) × Int × (List Int) × Int × (List Int) × Int × Int × (List Int) × (List Qh) × Int × (List Int) × Int × (List Int) × Int × Int × (List Int) × (List Qh) × (List Qg) × Int × Int)):Option (Int) :=
 match x with
 | (v47,p1,v46,v15,v16,v17,v18,v19,v20,v21,v22,v23,v24,v25,v26,v27,v28,v29,v30,v31,v32,v33,v34,v35,v36,v37,v38,v39,v40,v41,v42,v43,v44,v248,v249) =>
 if v249 < (v47.length:Int) then
  idx v47 v249>>=fun v649 =>
  if v649.kind≤2 then
   Zc (v47,p1,v46,v15,v16,v17,v18,v19,v20,v21,v22,v23,v24,v25,v26,v27,v28,v29,v30,v31,v32,v33,v34,v35,v36,v37,v38,v39,v40,v41,v42,v43,v44,(W (v248+1)),(W (v249+1)))
  else
  Zc (v47,p1,v46,v15,v16,v17,v18,v19,v20,v21,v22,v23,v24,v25,v26,v27,v28,v29,v30,v31,v32,v33,v34,v35,v36,v37,v38,v39,v40,v41,v42,v43,v44,v248,(W (v249+1)))
 else
 some v248
 partial_fixpoint
def QaJ:((List Qc) × Qc × (List ByteArray) × (List (ByteArray × Int)) × (List Qa) × (List Qa) × Int × (List Int) × Int × (List Int) × Int × Int × (List Int) × (List Qh) × (List Qg) × (List Qg) × Int × (List Int) × Int × (List Int) × Int × Int × (List Int) × (List Qh) × Int × (List Int) × Int × (List Int) × Int × Int × (List Int) × (List Qh) × (List Qg) × Int × Int)→Int→Prop:=fun x r=>match x with
 | (v47,p1,v46,v15,v16,v17,v18,v19,v20,v21,v22,v23,v24,v25,v26,v27,v28,v29,v30,v31,v32,v33,v34,v35,v36,v37,v38,v39,v40,v41,v42,v43,v44,v248,v249)=>∀ st,prune 10 ((QB (QJ [1,1,1,1,1,1,1,1,1,0,1,0,0] (QO f4))).bind (env.hint 4).keepAt) st=⟨kp 132 [(3,(.iptr [(Qj p1.kind),(Qj p1.fn),(Qj p1.axis),(strD p1.name),(Lb p1.nums),(.lst (Qc.toDs p1.kids))])),(6,(.ptr 9 0)),(8,(.dat (.lst ((List.map strD) v46)))),(9,(.dat (.lst (Qc.toDs v47)))),(10,(Qe v248)),(11,(Qe v249))],[(.map (smE v15)),(.tok 39 v16.length),(.box [(.vec 1 ((List.map Qa.toD) v16)),(.mapv 0)]),(.tok 39 (([]:List Qa).length)),(.box [(.vec 1 ((List.map Qa.toD) v17)),(.mapv 0)]),(.box [(Qe v18),(La v19),(Qe v20),(La v21),(Qe v22),(Qe v23),(La v24),(.dat (.lst (Qh.toDs v25))),(.dat (.lst ((List.map Qg.toD) v26)))]),(.tok 65 v27.length),(.box [(.ptr 4 0),(.vec 6 ((List.map Qg.toD) v27))]),(.box [(Qe v28),(La v29),(Qe v30),(La v31),(Qe v32),(Qe v33),(La v34),(.dat (.lst (Qh.toDs v35)))]),(.box [(Qe v36),(La v37),(Qe v38),(La v39),(Qe v40),(Qe v41),(La v42),(.dat (.lst (Qh.toDs v43))),(.dat (.lst ((List.map Qg.toD) v44)))])]⟩ →
  RL prog env (env.hint 4) true (QJ [1,1,1,1,1,1,1,1,1,0,1,0,0] (QO f4)) 10 st (fun e s=>match r with|v648=>e=.exit 0∧∃ d,s=⟨sl d 132 [(3,(.iptr [(Qj p1.kind),(Qj p1.fn),(Qj p1.axis),(strD p1.name),(Lb p1.nums),(.lst (Qc.toDs p1.kids))])),(6,(.ptr 9 0)),(8,(.dat (.lst ((List.map strD) v46)))),(10,(Qe v648))],[(.map (smE v15)),(.tok 39 v16.length),(.box [(.vec 1 ((List.map Qa.toD) v16)),(.mapv 0)]),(.tok 39 (([]:List Qa).length)),(.box [(.vec 1 ((List.map Qa.toD) v17)),(.mapv 0)]),(.box [(Qe v18),(La v19),(Qe v20),(La v21),(Qe v22),(Qe v23),(La v24),(.dat (.lst (Qh.toDs v25))),(.dat (.lst ((List.map Qg.toD) v26)))]),(.tok 65 v27.length),(.box [(.ptr 4 0),(.vec 6 ((List.map Qg.toD) v27))]),(.box [(Qe v28),(La v29),(Qe v30),(La v31),(Qe v32),(Qe v33),(La v34),(.dat (.lst (Qh.toDs v35)))]),(.box [(Qe v36),(La v37),(Qe v38),(La v39),(Qe v40),(Qe v41),(La v42),(.dat (.lst (Qh.toDs v43))),(.dat (.lst ((List.map Qg.toD) v44)))])]⟩)
theorem Y8:∀ x r,Zc x=some r→QaJ x r:=by
 refine Zc.partial_correctness _ (fun Zc Y8 x r hm=>?_)
 unfold QaJ
 obtain ⟨v47,p1,v46,v15,v16,v17,v18,v19,v20,v21,v22,v23,v24,v25,v26,v27,v28,v29,v30,v31,v32,v33,v34,v35,v36,v37,v38,v39,v40,v41,v42,v43,v44,v248,v249⟩:=x
 intro st hst
 refine RL_at hst ?_
 clear hst
 refine Qd (Qd (R_G (Qb 2 ?_)))
 refine QV Qc.toD v47 (es:=Qc.toDs v47) (Qc.toDs_eq _) ?_
 refine Qb 1 (Qf ?_)
 refine Qx hm (rfl) (fun hm=>?_) (fun hm=>?_)
 ·refine Qp (Qd (Qu (Qd (R_G (Qb 2 ?_)))))
  obtain ⟨v649,hx,hm⟩:=Qi hm
  refine Qbg 6 Qc.toD v47 v249 v649 (es:=Qc.toDs v47) (d:=(Qc.ex v649)) (Qc.toDs_eq _) hx (Qc.toD_eq v649) rfl ?_
  refine Qb 3 (Qf ?_)
  refine Qx hm (rfl) (fun hm=>?_) (fun hm=>?_)
  ·refine R_G (Qb 3 (Qf (R_G (Qb 3 (Qf ?_)))))
   exact Y8 _ _ hm _ (prune_of2 [(.map (smE v15)),(.tok 39 v16.length),(.box [(.vec 1 ((List.map Qa.toD) v16)),(.mapv 0)]),(.tok 39 (([]:List Qa).length)),(.box [(.vec 1 ((List.map Qa.toD) v17)),(.mapv 0)]),(.box [(Qe v18),(La v19),(Qe v20),(La v21),(Qe v22),(Qe v23),(La v24),(.dat (.lst (Qh.toDs v25))),(.dat (.lst ((List.map Qg.toD) v26)))]),(.tok 65 v27.length),(.box [(.ptr 4 0),(.vec 6 ((List.map Qg.toD) v27))]),(.box [(Qe v28),(La v29),(Qe v30),(La v31),(Qe v32),(Qe v33),(La v34),(.dat (.lst (Qh.toDs v35)))]),(.box [(Qe v36),(La v37),(Qe v38),(La v39),(Qe v40),(Qe v41),(La v42),(.dat (.lst (Qh.toDs v43))),(.dat (.lst ((List.map Qg.toD) v44)))])] (fun _=>(pg_cons (purge_sm _ _ _) (pg_cons (by kernel_rfl) (pg_cons (by kernel_rfl) (pg_cons (by kernel_rfl) (pg_cons (by kernel_rfl) (pg_cons (by kernel_rfl) (pg_cons (by kernel_rfl) (pg_cons (by kernel_rfl) (pg_cons (by kernel_rfl) (pg_cons (by kernel_rfl) pg_nil))))))))))) rfl)
  refine Qp (R_G (Qb 3 (Qf ?_)))
  exact Y8 _ _ hm _ (prune_of2 [(.map (smE v15)),(.tok 39 v16.length),(.box [(.vec 1 ((List.map Qa.toD) v16)),(.mapv 0)]),(.tok 39 (([]:List Qa).length)),(.box [(.vec 1 ((List.map Qa.toD) v17)),(.mapv 0)]),(.box [(Qe v18),(La v19),(Qe v20),(La v21),(Qe v22),(Qe v23),(La v24),(.dat (.lst (Qh.toDs v25))),(.dat (.lst ((List.map Qg.toD) v26)))]),(.tok 65 v27.length),(.box [(.ptr 4 0),(.vec 6 ((List.map Qg.toD) v27))]),(.box [(Qe v28),(La v29),(Qe v30),(La v31),(Qe v32),(Qe v33),(La v34),(.dat (.lst (Qh.toDs v35)))]),(.box [(Qe v36),(La v37),(Qe v38),(La v39),(Qe v40),(Qe v41),(La v42),(.dat (.lst (Qh.toDs v43))),(.dat (.lst ((List.map Qg.toD) v44)))])] (fun _=>(pg_cons (purge_sm _ _ _) (pg_cons (by kernel_rfl) (pg_cons (by kernel_rfl) (pg_cons (by kernel_rfl) (pg_cons (by kernel_rfl) (pg_cons (by kernel_rfl) (pg_cons (by kernel_rfl) (pg_cons (by kernel_rfl) (pg_cons (by kernel_rfl) (pg_cons (by kernel_rfl) pg_nil))))))))))) rfl)
 refine Q7 ?_
 obtain rfl:=Qs hm
 exact ⟨rfl,Qr⟩
def Zm (x:((List ByteArray) × Qg × Qc × Int × Int × Int × (List (ByteArray × Int)) × (List Qa) × (List Qa) × Int × (List Int) × Int × (List Int) × Int × Int × (List Int) × (List Qh) × (List Qg) × (List Qg) × Int × (List Int) × Int × (List Int) × Int × Int × (List Int) × (List Qh) × Int × (List Int) × Int × (List Int) × Int × Int × (List Int) × (List Qh) × (List Qg) × Int)):Option (Int) :=
 match x with
 | (v46,v1250,p1,v648,v850,v851,v15,v16,v17,v18,v19,v20,v21,v22,v23,v24,v25,v26,v27,v28,v29,v30,v31,v32,v33,v34,v35,v36,v37,v38,v39,v40,v41,v42,v43,v44,v1451) =>
 (if v1451 < (v46.length:Int) then
  idx v46 v1451>>=fun v1853 =>
  some (decide (v1853≠v1250.name))
 else
 some false
 )>>=fun (v1852:Bool) =>
 if v1852=true then
  Zm (v46,v1250,p1,v648,v850,v851,v15,v16,v17,v18,v19,v20,v21,v22,v23,v24,v25,v26,v27,v28,v29,v30,v31,v32,v33,v34,v35,v36,v37,v38,v39,v40,v41,v42,v43,v44,(W (v1451+1)))
 else
 some v1451
 partial_fixpoint
def QaL:((List ByteArray) × Qg × Qc × Int × Int × Int × (List (ByteArray × Int)) × (List Qa) × (List Qa) × Int × (List Int) × Int × (List Int) × Int × Int × (List Int) × (List Qh) × (List Qg) × (List Qg) × Int × (List Int) × Int × (List Int) × Int × Int × (List Int) × (List Qh) × Int × (List Int) × Int × (List Int) × Int × Int × (List Int) × (List Qh) × (List Qg) × Int)→Int→Prop:=fun x r=>match x with
 | (v46,v1250,p1,v648,v850,v851,v15,v16,v17,v18,v19,v20,v21,v22,v23,v24,v25,v26,v27,v28,v29,v30,v31,v32,v33,v34,v35,v36,v37,v38,v39,v40,v41,v42,v43,v44,v1451)=>∀ st,prune 10 ((QB (QJ [1,1,1,1,1,1,1,1,1,1,1,0,1,0,0,1,0,0,1,1,1,0,0,0] (QO f4))).bind (env.hint 4).keepAt) st=⟨kp 132 [(3,(.iptr [(Qj p1.kind),(Qj p1.fn),(Qj p1.axis),(strD p1.name),(Lb p1.nums),(.lst (Qc.toDs p1.kids))])),(6,(.ptr 9 0)),(8,(.dat (.lst ((List.map strD) v46)))),(10,(Qe v648)),(12,(Qe v850)),(13,(Qe v851)),(14,(.dat (strD v1250.name))),(15,(Qe v1451))],[(.map (smE v15)),(.tok 39 v16.length),(.box [(.vec 1 ((List.map Qa.toD) v16)),(.mapv 0)]),(.tok 39 (([]:List Qa).length)),(.box [(.vec 1 ((List.map Qa.toD) v17)),(.mapv 0)]),(.box [(Qe v18),(La v19),(Qe v20),(La v21),(Qe v22),(Qe v23),(La v24),(.dat (.lst (Qh.toDs v25))),(.dat (.lst ((List.map Qg.toD) v26)))]),(.tok 65 v27.length),(.box [(.ptr 4 0),(.vec 6 ((List.map Qg.toD) v27))]),(.box [(Qe v28),(La v29),(Qe v30),(La v31),(Qe v32),(Qe v33),(La v34),(.dat (.lst (Qh.toDs v35)))]),(.box [(Qe v36),(La v37),(Qe v38),(La v39),(Qe v40),(Qe v41),(La v42),(.dat (.lst (Qh.toDs v43))),(.dat (.lst ((List.map Qg.toD) v44)))])]⟩ →
  RL prog env (env.hint 4) true (QJ [1,1,1,1,1,1,1,1,1,1,1,0,1,0,0,1,0,0,1,1,1,0,0,0] (QO f4)) 10 st (fun e s=>match r with|v1851=>e=.exit 4∧∃ d,s=⟨sl d 132 [(3,(.iptr [(Qj p1.kind),(Qj p1.fn),(Qj p1.axis),(strD p1.name),(Lb p1.nums),(.lst (Qc.toDs p1.kids))])),(6,(.ptr 9 0)),(8,(.dat (.lst ((List.map strD) v46)))),(10,(Qe v648)),(12,(Qe v850)),(13,(Qe v851)),(14,(.dat (strD v1250.name))),(15,(Qe v1851))],[(.map (smE v15)),(.tok 39 v16.length),(.box [(.vec 1 ((List.map Qa.toD) v16)),(.mapv 0)]),(.tok 39 (([]:List Qa).length)),(.box [(.vec 1 ((List.map Qa.toD) v17)),(.mapv 0)]),(.box [(Qe v18),(La v19),(Qe v20),(La v21),(Qe v22),(Qe v23),(La v24),(.dat (.lst (Qh.toDs v25))),(.dat (.lst ((List.map Qg.toD) v26)))]),(.tok 65 v27.length),(.box [(.ptr 4 0),(.vec 6 ((List.map Qg.toD) v27))]),(.box [(Qe v28),(La v29),(Qe v30),(La v31),(Qe v32),(Qe v33),(La v34),(.dat (.lst (Qh.toDs v35)))]),(.box [(Qe v36),(La v37),(Qe v38),(La v39),(Qe v40),(Qe v41),(La v42),(.dat (.lst (Qh.toDs v43))),(.dat (.lst ((List.map Qg.toD) v44)))])]⟩)
theorem Jg:∀ x r,Zm x=some r→QaL x r:=by
 refine Zm.partial_correctness _ (fun Zm Jg x r hm=>?_)
 unfold QaL
 obtain ⟨v46,v1250,p1,v648,v850,v851,v15,v16,v17,v18,v19,v20,v21,v22,v23,v24,v25,v26,v27,v28,v29,v30,v31,v32,v33,v34,v35,v36,v37,v38,v39,v40,v41,v42,v43,v44,v1451⟩:=x
 intro st hst
 refine RL_at hst ?_
 clear hst
 refine Qd (Qd ?_)
 obtain ⟨v1852,hs,hm⟩:=Qi hm
 refine Xc (fun d=>⟨sl d 132 [(3,(.iptr [(Qj p1.kind),(Qj p1.fn),(Qj p1.axis),(strD p1.name),(Lb p1.nums),(.lst (Qc.toDs p1.kids))])),(6,(.ptr 9 0)),(8,(.dat (.lst ((List.map strD) v46)))),(10,(Qe v648)),(12,(Qe v850)),(13,(Qe v851)),(14,(.dat (strD v1250.name))),(15,(Qe v1451)),(95,(Qn v1852))],[(.map (smE v15)),(.tok 39 v16.length),(.box [(.vec 1 ((List.map Qa.toD) v16)),(.mapv 0)]),(.tok 39 (([]:List Qa).length)),(.box [(.vec 1 ((List.map Qa.toD) v17)),(.mapv 0)]),(.box [(Qe v18),(La v19),(Qe v20),(La v21),(Qe v22),(Qe v23),(La v24),(.dat (.lst (Qh.toDs v25))),(.dat (.lst ((List.map Qg.toD) v26)))]),(.tok 65 v27.length),(.box [(.ptr 4 0),(.vec 6 ((List.map Qg.toD) v27))]),(.box [(Qe v28),(La v29),(Qe v30),(La v31),(Qe v32),(Qe v33),(La v34),(.dat (.lst (Qh.toDs v35)))]),(.box [(Qe v36),(La v37),(Qe v38),(La v39),(Qe v40),(Qe v41),(La v42),(.dat (.lst (Qh.toDs v43))),(.dat (.lst ((List.map Qg.toD) v44)))])]⟩) ?_ (fun d=>?_)
 ·replace hm:=hs
  clear hs
  refine R_G (Qb 2 ?_)
  refine QV strD v46 (es:=(List.map strD) v46) rfl ?_
  refine Qb 2 ?_
  refine Qz 88 hm (rfl) (fun hm=>?_) (fun hm=>?_)
  ·refine Qb 2 ?_
   refine Zt 1 strD hm rfl (fun _=>rfl) (fun v1853 hm=>?_)
   refine Qb 2 ?_
   refine Zq rfl (fun _=>QeE (a:=v1853) (b:=v1250.name) rfl (by kernel_rfl) (by kernel_rfl)) ?_
   refine Qb 1 (Qf ?_)
   obtain rfl:=Qs hm
   exact Qr
  refine Qb 7 (Qf ?_)
  obtain rfl:=Qs hm
  exact Qr
 clear hs
 refine Qx hm (QG _) (fun hm=>?_) (fun hm=>?_)
 ·refine Qp (Qu (R_G (Qb 3 (Qf ?_))))
  exact Jg _ _ hm _ (prune_of2 [(.map (smE v15)),(.tok 39 v16.length),(.box [(.vec 1 ((List.map Qa.toD) v16)),(.mapv 0)]),(.tok 39 (([]:List Qa).length)),(.box [(.vec 1 ((List.map Qa.toD) v17)),(.mapv 0)]),(.box [(Qe v18),(La v19),(Qe v20),(La v21),(Qe v22),(Qe v23),(La v24),(.dat (.lst (Qh.toDs v25))),(.dat (.lst ((List.map Qg.toD) v26)))]),(.tok 65 v27.length),(.box [(.ptr 4 0),(.vec 6 ((List.map Qg.toD) v27))]),(.box [(Qe v28),(La v29),(Qe v30),(La v31),(Qe v32),(Qe v33),(La v34),(.dat (.lst (Qh.toDs v35)))]),(.box [(Qe v36),(La v37),(Qe v38),(La v39),(Qe v40),(Qe v41),(La v42),(.dat (.lst (Qh.toDs v43))),(.dat (.lst ((List.map Qg.toD) v44)))])] (fun _=>(pg_cons (purge_sm _ _ _) (pg_cons (by kernel_rfl) (pg_cons (by kernel_rfl) (pg_cons (by kernel_rfl) (pg_cons (by kernel_rfl) (pg_cons (by kernel_rfl) (pg_cons (by kernel_rfl) (pg_cons (by kernel_rfl) (pg_cons (by kernel_rfl) (pg_cons (by kernel_rfl) pg_nil))))))))))) rfl)
 refine Q7 ?_
 obtain rfl:=Qs hm
 exact ⟨rfl,Qr⟩
def Zn (x:(Int × (List Qg) × Qg × Qc × (List ByteArray) × Int × Int × (List (ByteArray × Int)) × (List Qa) × (List Qa) × Int × (List Int) × Int × (List Int) × Int × Int × (List Int) × (List Qh) × (List Qg) × (List Qg) × Int × (List Int) × Int × (List Int) × Int × Int × (List Int) × (List Qh) × Int × (List Int) × Int × (List Int) × Int × Int × (List Int) × (List Qh) × Int)):Option (Unit ⊕ Unit) :=
 match x with
 | (v851,v44,v1250,p1,v46,v648,v1851,v15,v16,v17,v18,v19,v20,v21,v22,v23,v24,v25,v26,v27,v28,v29,v30,v31,v32,v33,v34,v35,v36,v37,v38,v39,v40,v41,v42,v43,v2057) =>
 if v2057 < v851 then
  idx v44 v2057>>=fun v2457 =>
  if v2457.name=v1250.name then
   some (Sum.inl ())
  else
  Zn (v851,v44,v1250,p1,v46,v648,v1851,v15,v16,v17,v18,v19,v20,v21,v22,v23,v24,v25,v26,v27,v28,v29,v30,v31,v32,v33,v34,v35,v36,v37,v38,v39,v40,v41,v42,v43,(W (v2057+1)))
 else
 some (Sum.inr ())
 partial_fixpoint
def QaM:(Int × (List Qg) × Qg × Qc × (List ByteArray) × Int × Int × (List (ByteArray × Int)) × (List Qa) × (List Qa) × Int × (List Int) × Int × (List Int) × Int × Int × (List Int) × (List Qh) × (List Qg) × (List Qg) × Int × (List Int) × Int × (List Int) × Int × Int × (List Int) × (List Qh) × Int × (List Int) × Int × (List Int) × Int × Int × (List Int) × (List Qh) × Int)→(Unit ⊕ Unit)→Prop:=fun x r=>match x with
 | (v851,v44,v1250,p1,v46,v648,v1851,v15,v16,v17,v18,v19,v20,v21,v22,v23,v24,v25,v26,v27,v28,v29,v30,v31,v32,v33,v34,v35,v36,v37,v38,v39,v40,v41,v42,v43,v2057)=>∀ st,prune 10 ((QB (QJ [1,1,1,1,1,1,1,1,1,1,1,0,1,0,0,1,0,0,1,1,1,1,1,0,1,0,0] (QO f4))).bind (env.hint 4).keepAt) st=⟨kp 132 [(3,(.iptr [(Qj p1.kind),(Qj p1.fn),(Qj p1.axis),(strD p1.name),(Lb p1.nums),(.lst (Qc.toDs p1.kids))])),(6,(.ptr 9 0)),(8,(.dat (.lst ((List.map strD) v46)))),(10,(Qe v648)),(13,(Qe v851)),(14,(.dat (strD v1250.name))),(15,(Qe v1851)),(16,(Qe v2057))],[(.map (smE v15)),(.tok 39 v16.length),(.box [(.vec 1 ((List.map Qa.toD) v16)),(.mapv 0)]),(.tok 39 (([]:List Qa).length)),(.box [(.vec 1 ((List.map Qa.toD) v17)),(.mapv 0)]),(.box [(Qe v18),(La v19),(Qe v20),(La v21),(Qe v22),(Qe v23),(La v24),(.dat (.lst (Qh.toDs v25))),(.dat (.lst ((List.map Qg.toD) v26)))]),(.tok 65 v27.length),(.box [(.ptr 4 0),(.vec 6 ((List.map Qg.toD) v27))]),(.box [(Qe v28),(La v29),(Qe v30),(La v31),(Qe v32),(Qe v33),(La v34),(.dat (.lst (Qh.toDs v35)))]),(.box [(Qe v36),(La v37),(Qe v38),(La v39),(Qe v40),(Qe v41),(La v42),(.dat (.lst (Qh.toDs v43))),(.dat (.lst ((List.map Qg.toD) v44)))])]⟩ →
  RL prog env (env.hint 4) true (QJ [1,1,1,1,1,1,1,1,1,1,1,0,1,0,0,1,0,0,1,1,1,1,1,0,1,0,0] (QO f4)) 10 st (fun e s=>match r with|.inl _=>e=.ret∧∃ d,s=⟨sl d 132 [(4,(Qn false))],[(.map (smE v15)),(.tok 39 v16.length),(.box [(.vec 1 ((List.map Qa.toD) v16)),(.mapv 0)]),(.tok 39 (([]:List Qa).length)),(.box [(.vec 1 ((List.map Qa.toD) v17)),(.mapv 0)]),(.box [(Qe v18),(La v19),(Qe v20),(La v21),(Qe v22),(Qe v23),(La v24),(.dat (.lst (Qh.toDs v25))),(.dat (.lst ((List.map Qg.toD) v26)))]),(.tok 65 v27.length),(.box [(.ptr 4 0),(.vec 6 ((List.map Qg.toD) v27))]),(.box [(Qe v28),(La v29),(Qe v30),(La v31),(Qe v32),(Qe v33),(La v34),(.dat (.lst (Qh.toDs v35)))]),(.box [(Qe v36),(La v37),(Qe v38),(La v39),(Qe v40),(Qe v41),(La v42),(.dat (.lst (Qh.toDs v43))),(.dat (.lst ((List.map Qg.toD) v44)))])]⟩|.inr (_)=>e=.exit 6∧∃ d,s=⟨sl d 132 [(3,(.iptr [(Qj p1.kind),(Qj p1.fn),(Qj p1.axis),(strD p1.name),(Lb p1.nums),(.lst (Qc.toDs p1.kids))])),(6,(.ptr 9 0)),(8,(.dat (.lst ((List.map strD) v46)))),(10,(Qe v648)),(13,(Qe v851)),(15,(Qe v1851))],[(.map (smE v15)),(.tok 39 v16.length),(.box [(.vec 1 ((List.map Qa.toD) v16)),(.mapv 0)]),(.tok 39 (([]:List Qa).length)),(.box [(.vec 1 ((List.map Qa.toD) v17)),(.mapv 0)]),(.box [(Qe v18),(La v19),(Qe v20),(La v21),(Qe v22),(Qe v23),(La v24),(.dat (.lst (Qh.toDs v25))),(.dat (.lst ((List.map Qg.toD) v26)))]),(.tok 65 v27.length),(.box [(.ptr 4 0),(.vec 6 ((List.map Qg.toD) v27))]),(.box [(Qe v28),(La v29),(Qe v30),(La v31),(Qe v32),(Qe v33),(La v34),(.dat (.lst (Qh.toDs v35)))]),(.box [(Qe v36),(La v37),(Qe v38),(La v39),(Qe v40),(Qe v41),(La v42),(.dat (.lst (Qh.toDs v43))),(.dat (.lst ((List.map Qg.toD) v44)))])]⟩)
theorem Y9:∀ x r,Zn x=some r→QaM x r:=by
 refine Zn.partial_correctness _ (fun Zn Y9 x r hm=>?_)
 unfold QaM
 obtain ⟨v851,v44,v1250,p1,v46,v648,v1851,v15,v16,v17,v18,v19,v20,v21,v22,v23,v24,v25,v26,v27,v28,v29,v30,v31,v32,v33,v34,v35,v36,v37,v38,v39,v40,v41,v42,v43,v2057⟩:=x
 intro st hst
 refine RL_at hst ?_
 clear hst
 refine Qd (Qd (R_G (Qb 3 (Qf ?_))))
 refine Qx hm (rfl) (fun hm=>?_) (fun hm=>?_)
 ·refine Qp (Qd (Qu (Qd (R_G (Qb 3 ?_)))))
  refine Zt 3 Qg.toD hm rfl (fun _=>rfl) (fun v2457 hm=>?_)
  refine Qb 3 ?_
  refine Zq rfl (fun _=>Qbf (a:=v2457.name) (b:=v1250.name) rfl (by kernel_rfl) (by kernel_rfl)) ?_
  refine Qf ?_
  refine Qx hm (rfl) (fun hm=>?_) (fun hm=>?_)
  ·refine Qd (R_G (Qb 1 (Qf (Qo ?_))))
   obtain rfl:=Qs hm
   exact ⟨rfl,Qr⟩
  refine Qp (R_G (Qb 3 (Qf ?_)))
  exact Y9 _ _ hm _ (prune_of2 [(.map (smE v15)),(.tok 39 v16.length),(.box [(.vec 1 ((List.map Qa.toD) v16)),(.mapv 0)]),(.tok 39 (([]:List Qa).length)),(.box [(.vec 1 ((List.map Qa.toD) v17)),(.mapv 0)]),(.box [(Qe v18),(La v19),(Qe v20),(La v21),(Qe v22),(Qe v23),(La v24),(.dat (.lst (Qh.toDs v25))),(.dat (.lst ((List.map Qg.toD) v26)))]),(.tok 65 v27.length),(.box [(.ptr 4 0),(.vec 6 ((List.map Qg.toD) v27))]),(.box [(Qe v28),(La v29),(Qe v30),(La v31),(Qe v32),(Qe v33),(La v34),(.dat (.lst (Qh.toDs v35)))]),(.box [(Qe v36),(La v37),(Qe v38),(La v39),(Qe v40),(Qe v41),(La v42),(.dat (.lst (Qh.toDs v43))),(.dat (.lst ((List.map Qg.toD) v44)))])] (fun _=>(pg_cons (purge_sm _ _ _) (pg_cons (by kernel_rfl) (pg_cons (by kernel_rfl) (pg_cons (by kernel_rfl) (pg_cons (by kernel_rfl) (pg_cons (by kernel_rfl) (pg_cons (by kernel_rfl) (pg_cons (by kernel_rfl) (pg_cons (by kernel_rfl) (pg_cons (by kernel_rfl) pg_nil))))))))))) rfl)
 refine Q7 ?_
 obtain rfl:=Qs hm
 exact ⟨rfl,Qr⟩
def Zd (x:((List Qg) × (List ByteArray) × Qc × Int × (List (ByteArray × Int)) × (List Qa) × (List Qa) × Int × (List Int) × Int × (List Int) × Int × Int × (List Int) × (List Qh) × (List Qg) × (List Qg) × Int × (List Int) × Int × (List Int) × Int × Int × (List Int) × (List Qh) × Int × (List Int) × Int × (List Int) × Int × Int × (List Int) × (List Qh) × Int × Int)):Option (Unit ⊕ Unit) :=
 match x with
 | (v44,v46,p1,v648,v15,v16,v17,v18,v19,v20,v21,v22,v23,v24,v25,v26,v27,v28,v29,v30,v31,v32,v33,v34,v35,v36,v37,v38,v39,v40,v41,v42,v43,v850,v851) =>
 if v851 < (v44.length:Int) then
  idx v44 v851>>=fun v1250 =>
  if v1250.name=ByteArray.empty then
   Zd (v44,v46,p1,v648,v15,v16,v17,v18,v19,v20,v21,v22,v23,v24,v25,v26,v27,v28,v29,v30,v31,v32,v33,v34,v35,v36,v37,v38,v39,v40,v41,v42,v43,v850,(W (v851+1)))
  else
  Zm (v46,v1250,p1,v648,v850,v851,v15,v16,v17,v18,v19,v20,v21,v22,v23,v24,v25,v26,v27,v28,v29,v30,v31,v32,v33,v34,v35,v36,v37,v38,v39,v40,v41,v42,v43,v44,0)>>=fun (v1851:Int) =>
  ((if v1851≤v850 then
   Z2 ((⟨p1.kind,p1.fn,p1.axis,p1.name,p1.nums,p1.kids⟩:Qc),v1250.name)>>=fun (v1856:Bool) =>
   some (!v1856)
  else
  some false
  )>>=fun (v1855:Bool) =>
  if v1855=true then
   some true
  else
  some (v1851 == (v46.length:Int))
  )>>=fun (v1854:Bool) =>
  if v1854=true then
   some (Sum.inl ())
  else
  (
  Zn (v851,v44,v1250,p1,v46,v648,v1851,v15,v16,v17,v18,v19,v20,v21,v22,v23,v24,v25,v26,v27,v28,v29,v30,v31,v32,v33,v34,v35,v36,v37,v38,v39,v40,v41,v42,v43,0)>>=fun (out:Unit ⊕ Unit) =>
  match out with
  | .inl _ =>
   some (Sum.inl ())
  | .inr (_) =>
   Zd (v44,v46,p1,v648,v15,v16,v17,v18,v19,v20,v21,v22,v23,v24,v25,v26,v27,v28,v29,v30,v31,v32,v33,v34,v35,v36,v37,v38,v39,v40,v41,v42,v43,v1851,(W (v851+1)))
  )
 else
 some (Sum.inr ())
 partial_fixpoint
def QaK:((List Qg) × (List ByteArray) × Qc × Int × (List (ByteArray × Int)) × (List Qa) × (List Qa) × Int × (List Int) × Int × (List Int) × Int × Int × (List Int) × (List Qh) × (List Qg) × (List Qg) × Int × (List Int) × Int × (List Int) × Int × Int × (List Int) × (List Qh) × Int × (List Int) × Int × (List Int) × Int × Int × (List Int) × (List Qh) × Int × Int)→(Unit ⊕ Unit)→Prop:=fun x r=>match x with
 | (v44,v46,p1,v648,v15,v16,v17,v18,v19,v20,v21,v22,v23,v24,v25,v26,v27,v28,v29,v30,v31,v32,v33,v34,v35,v36,v37,v38,v39,v40,v41,v42,v43,v850,v851)=>∀ st,prune 10 ((QB (QJ [1,1,1,1,1,1,1,1,1,1,1,0,1,0,0] (QO f4))).bind (env.hint 4).keepAt) st=⟨kp 132 [(3,(.iptr [(Qj p1.kind),(Qj p1.fn),(Qj p1.axis),(strD p1.name),(Lb p1.nums),(.lst (Qc.toDs p1.kids))])),(6,(.ptr 9 0)),(8,(.dat (.lst ((List.map strD) v46)))),(10,(Qe v648)),(12,(Qe v850)),(13,(Qe v851))],[(.map (smE v15)),(.tok 39 v16.length),(.box [(.vec 1 ((List.map Qa.toD) v16)),(.mapv 0)]),(.tok 39 (([]:List Qa).length)),(.box [(.vec 1 ((List.map Qa.toD) v17)),(.mapv 0)]),(.box [(Qe v18),(La v19),(Qe v20),(La v21),(Qe v22),(Qe v23),(La v24),(.dat (.lst (Qh.toDs v25))),(.dat (.lst ((List.map Qg.toD) v26)))]),(.tok 65 v27.length),(.box [(.ptr 4 0),(.vec 6 ((List.map Qg.toD) v27))]),(.box [(Qe v28),(La v29),(Qe v30),(La v31),(Qe v32),(Qe v33),(La v34),(.dat (.lst (Qh.toDs v35)))]),(.box [(Qe v36),(La v37),(Qe v38),(La v39),(Qe v40),(Qe v41),(La v42),(.dat (.lst (Qh.toDs v43))),(.dat (.lst ((List.map Qg.toD) v44)))])]⟩ →
  RL prog env (env.hint 4) true (QJ [1,1,1,1,1,1,1,1,1,1,1,0,1,0,0] (QO f4)) 10 st (fun e s=>match r with|.inl _=>e=.ret∧∃ d,s=⟨sl d 132 [(4,(Qn false))],[(.map (smE v15)),(.tok 39 v16.length),(.box [(.vec 1 ((List.map Qa.toD) v16)),(.mapv 0)]),(.tok 39 (([]:List Qa).length)),(.box [(.vec 1 ((List.map Qa.toD) v17)),(.mapv 0)]),(.box [(Qe v18),(La v19),(Qe v20),(La v21),(Qe v22),(Qe v23),(La v24),(.dat (.lst (Qh.toDs v25))),(.dat (.lst ((List.map Qg.toD) v26)))]),(.tok 65 v27.length),(.box [(.ptr 4 0),(.vec 6 ((List.map Qg.toD) v27))]),(.box [(Qe v28),(La v29),(Qe v30),(La v31),(Qe v32),(Qe v33),(La v34),(.dat (.lst (Qh.toDs v35)))]),(.box [(Qe v36),(La v37),(Qe v38),(La v39),(Qe v40),(Qe v41),(La v42),(.dat (.lst (Qh.toDs v43))),(.dat (.lst ((List.map Qg.toD) v44)))])]⟩|.inr (_)=>e=.exit 2∧∃ d,s=⟨sl d 132 [(6,(.ptr 9 0)),(10,(Qe v648))],[(.map (smE v15)),(.tok 39 v16.length),(.box [(.vec 1 ((List.map Qa.toD) v16)),(.mapv 0)]),(.tok 39 (([]:List Qa).length)),(.box [(.vec 1 ((List.map Qa.toD) v17)),(.mapv 0)]),(.box [(Qe v18),(La v19),(Qe v20),(La v21),(Qe v22),(Qe v23),(La v24),(.dat (.lst (Qh.toDs v25))),(.dat (.lst ((List.map Qg.toD) v26)))]),(.tok 65 v27.length),(.box [(.ptr 4 0),(.vec 6 ((List.map Qg.toD) v27))]),(.box [(Qe v28),(La v29),(Qe v30),(La v31),(Qe v32),(Qe v33),(La v34),(.dat (.lst (Qh.toDs v35)))]),(.box [(Qe v36),(La v37),(Qe v38),(La v39),(Qe v40),(Qe v41),(La v42),(.dat (.lst (Qh.toDs v43))),(.dat (.lst ((List.map Qg.toD) v44)))])]⟩)
theorem Yx:∀ x r,Zd x=some r→QaK x r:=by
 refine Zd.partial_correctness _ (fun Zd Yx x r hm=>?_)
 unfold QaK
 obtain ⟨v44,v46,p1,v648,v15,v16,v17,v18,v19,v20,v21,v22,v23,v24,v25,v26,v27,v28,v29,v30,v31,v32,v33,v34,v35,v36,v37,v38,v39,v40,v41,v42,v43,v850,v851⟩:=x
 intro st hst
 refine RL_at hst ?_
 clear hst
 refine Qd (Qd (R_G (Qb 3 ?_)))
 refine QV Qg.toD v44 (es:=(List.map Qg.toD) v44) rfl ?_
 refine Qb 1 (Qf ?_)
 refine Qx hm (rfl) (fun hm=>?_) (fun hm=>?_)
 ·refine Qp (Qd (Qu (Qd (R_G (Qb 3 ?_)))))
  refine Zt 3 Qg.toD hm rfl (fun _=>rfl) (fun v1250 hm=>?_)
  refine Qb 3 (Qf (Qd (Qd (R_G (Qb 1 ?_)))))
  refine Zq rfl (fun _=>Qbf (a:=v1250.name) (b:=ByteArray.empty) rfl (by kernel_rfl) (by kernel_rfl)) ?_
  refine Qf ?_
  refine Qx hm (rfl) (fun hm=>?_) (fun hm=>?_)
  ·refine Q7 (R_G (Qb 3 (Qf ?_)))
   exact Yx _ _ hm _ (prune_of2 [(.map (smE v15)),(.tok 39 v16.length),(.box [(.vec 1 ((List.map Qa.toD) v16)),(.mapv 0)]),(.tok 39 (([]:List Qa).length)),(.box [(.vec 1 ((List.map Qa.toD) v17)),(.mapv 0)]),(.box [(Qe v18),(La v19),(Qe v20),(La v21),(Qe v22),(Qe v23),(La v24),(.dat (.lst (Qh.toDs v25))),(.dat (.lst ((List.map Qg.toD) v26)))]),(.tok 65 v27.length),(.box [(.ptr 4 0),(.vec 6 ((List.map Qg.toD) v27))]),(.box [(Qe v28),(La v29),(Qe v30),(La v31),(Qe v32),(Qe v33),(La v34),(.dat (.lst (Qh.toDs v35)))]),(.box [(Qe v36),(La v37),(Qe v38),(La v39),(Qe v40),(Qe v41),(La v42),(.dat (.lst (Qh.toDs v43))),(.dat (.lst ((List.map Qg.toD) v44)))])] (fun _=>(pg_cons (purge_sm _ _ _) (pg_cons (by kernel_rfl) (pg_cons (by kernel_rfl) (pg_cons (by kernel_rfl) (pg_cons (by kernel_rfl) (pg_cons (by kernel_rfl) (pg_cons (by kernel_rfl) (pg_cons (by kernel_rfl) (pg_cons (by kernel_rfl) (pg_cons (by kernel_rfl) pg_nil))))))))))) rfl)
  refine Qp (Qd (R_G (Qb 1 (Qf (Qd (Qu ?_))))))
  obtain ⟨v1851,hs,hm⟩:=Qi hm
  refine Za ?_
  refine RL_use (Jg _ _ hs) (prune_of2 [(.map (smE v15)),(.tok 39 v16.length),(.box [(.vec 1 ((List.map Qa.toD) v16)),(.mapv 0)]),(.tok 39 (([]:List Qa).length)),(.box [(.vec 1 ((List.map Qa.toD) v17)),(.mapv 0)]),(.box [(Qe v18),(La v19),(Qe v20),(La v21),(Qe v22),(Qe v23),(La v24),(.dat (.lst (Qh.toDs v25))),(.dat (.lst ((List.map Qg.toD) v26)))]),(.tok 65 v27.length),(.box [(.ptr 4 0),(.vec 6 ((List.map Qg.toD) v27))]),(.box [(Qe v28),(La v29),(Qe v30),(La v31),(Qe v32),(Qe v33),(La v34),(.dat (.lst (Qh.toDs v35)))]),(.box [(Qe v36),(La v37),(Qe v38),(La v39),(Qe v40),(Qe v41),(La v42),(.dat (.lst (Qh.toDs v43))),(.dat (.lst ((List.map Qg.toD) v44)))])] (fun _=>(pg_cons (purge_sm _ _ _) (pg_cons (by kernel_rfl) (pg_cons (by kernel_rfl) (pg_cons (by kernel_rfl) (pg_cons (by kernel_rfl) (pg_cons (by kernel_rfl) (pg_cons (by kernel_rfl) (pg_cons (by kernel_rfl) (pg_cons (by kernel_rfl) (pg_cons (by kernel_rfl) pg_nil))))))))))) rfl) ?_
  clear hs
  intro e s hp
  obtain ⟨rfl,d,rfl⟩:=hp
  refine Qd (Qd ?_)
  obtain ⟨v1854,hs,hm⟩:=Qi hm
  refine Xc (fun d=>⟨sl d 132 [(3,(.iptr [(Qj p1.kind),(Qj p1.fn),(Qj p1.axis),(strD p1.name),(Lb p1.nums),(.lst (Qc.toDs p1.kids))])),(6,(.ptr 9 0)),(8,(.dat (.lst ((List.map strD) v46)))),(10,(Qe v648)),(13,(Qe v851)),(14,(.dat (strD v1250.name))),(15,(Qe v1851)),(112,(Qn v1854))],[(.map (smE v15)),(.tok 39 v16.length),(.box [(.vec 1 ((List.map Qa.toD) v16)),(.mapv 0)]),(.tok 39 (([]:List Qa).length)),(.box [(.vec 1 ((List.map Qa.toD) v17)),(.mapv 0)]),(.box [(Qe v18),(La v19),(Qe v20),(La v21),(Qe v22),(Qe v23),(La v24),(.dat (.lst (Qh.toDs v25))),(.dat (.lst ((List.map Qg.toD) v26)))]),(.tok 65 v27.length),(.box [(.ptr 4 0),(.vec 6 ((List.map Qg.toD) v27))]),(.box [(Qe v28),(La v29),(Qe v30),(La v31),(Qe v32),(Qe v33),(La v34),(.dat (.lst (Qh.toDs v35)))]),(.box [(Qe v36),(La v37),(Qe v38),(La v39),(Qe v40),(Qe v41),(La v42),(.dat (.lst (Qh.toDs v43))),(.dat (.lst ((List.map Qg.toD) v44)))])]⟩) ?_ (fun d=>?_)
  ·replace hm:=hs
   clear hs
   refine Qcx ?_
   refine Qb 4 ?_
   obtain ⟨v1855,hs,hm⟩:=Qi hm
   refine Y1 (j:=9) (fun d=>⟨sl d 132 [(3,(.iptr [(Qj p1.kind),(Qj p1.fn),(Qj p1.axis),(strD p1.name),(Lb p1.nums),(.lst (Qc.toDs p1.kids))])),(6,(.ptr 9 0)),(8,(.dat (.lst ((List.map strD) v46)))),(10,(Qe v648)),(13,(Qe v851)),(14,(.dat (strD v1250.name))),(15,(Qe v1851)),(106,(Qn v1855))],[(.map (smE v15)),(.tok 39 v16.length),(.box [(.vec 1 ((List.map Qa.toD) v16)),(.mapv 0)]),(.tok 39 (([]:List Qa).length)),(.box [(.vec 1 ((List.map Qa.toD) v17)),(.mapv 0)]),(.box [(Qe v18),(La v19),(Qe v20),(La v21),(Qe v22),(Qe v23),(La v24),(.dat (.lst (Qh.toDs v25))),(.dat (.lst ((List.map Qg.toD) v26)))]),(.tok 65 v27.length),(.box [(.ptr 4 0),(.vec 6 ((List.map Qg.toD) v27))]),(.box [(Qe v28),(La v29),(Qe v30),(La v31),(Qe v32),(Qe v33),(La v34),(.dat (.lst (Qh.toDs v35)))]),(.box [(Qe v36),(La v37),(Qe v38),(La v39),(Qe v40),(Qe v41),(La v42),(.dat (.lst (Qh.toDs v43))),(.dat (.lst ((List.map Qg.toD) v44)))])]⟩) (fun d=>?_) (fun hJ=>?_)
   ·clear hs
    refine Qb 1 ?_
    refine Qz 107 hm (QG _) (fun hm=>?_) (fun hm=>?_)
    ·refine Qb 5 ?_
     refine Qf ⟨by kernel_rfl,?_⟩
     obtain rfl:=Qs hm
     exact Qr
    refine Qb 2 ?_
    refine QV strD v46 (es:=(List.map strD) v46) rfl ?_
    refine Qb 2 ?_
    refine Qf ⟨by kernel_rfl,?_⟩
    obtain rfl:=Qs hm
    exact Qr
   clear hm
   refine Qz 101 hs (rfl) (fun hm=>?_) (fun hm=>?_)
   ·refine Qb 2 ?_
    obtain ⟨v1856,hx,hm⟩:=Qi hm
    have hq:=Qa2 _ _ hx []
    refine Qq hq ?_
    refine Qb 2 ?_
    obtain rfl:=Qs hm
    exact hJ _ _
   refine Qb 5 ?_
   obtain rfl:=Qs hm
   exact hJ _ _
  clear hs
  refine Qx hm (QG _) (fun hm=>?_) (fun hm=>?_)
  ·refine Qd (R_G (Qb 1 (Qf (Qo ?_))))
   obtain rfl:=Qs hm
   exact ⟨rfl,Qr⟩
  refine Qp (Qd (Qd (R_G (Qb 1 (Qf (Qu ?_))))))
  obtain ⟨out,hs,hm⟩:=Qi hm
  refine Za ?_
  rcases out with _|_
  ·refine RL_use (Y9 _ _ hs) (prune_of2 [(.map (smE v15)),(.tok 39 v16.length),(.box [(.vec 1 ((List.map Qa.toD) v16)),(.mapv 0)]),(.tok 39 (([]:List Qa).length)),(.box [(.vec 1 ((List.map Qa.toD) v17)),(.mapv 0)]),(.box [(Qe v18),(La v19),(Qe v20),(La v21),(Qe v22),(Qe v23),(La v24),(.dat (.lst (Qh.toDs v25))),(.dat (.lst ((List.map Qg.toD) v26)))]),(.tok 65 v27.length),(.box [(.ptr 4 0),(.vec 6 ((List.map Qg.toD) v27))]),(.box [(Qe v28),(La v29),(Qe v30),(La v31),(Qe v32),(Qe v33),(La v34),(.dat (.lst (Qh.toDs v35)))]),(.box [(Qe v36),(La v37),(Qe v38),(La v39),(Qe v40),(Qe v41),(La v42),(.dat (.lst (Qh.toDs v43))),(.dat (.lst ((List.map Qg.toD) v44)))])] (fun _=>(pg_cons (purge_sm _ _ _) (pg_cons (by kernel_rfl) (pg_cons (by kernel_rfl) (pg_cons (by kernel_rfl) (pg_cons (by kernel_rfl) (pg_cons (by kernel_rfl) (pg_cons (by kernel_rfl) (pg_cons (by kernel_rfl) (pg_cons (by kernel_rfl) (pg_cons (by kernel_rfl) pg_nil))))))))))) rfl) ?_
   clear hs
   intro e s hp
   obtain ⟨rfl,d,rfl⟩:=hp
   obtain rfl:=Qs hm
   exact ⟨rfl,Qr⟩
  ·refine RL_use (Y9 _ _ hs) (prune_of2 [(.map (smE v15)),(.tok 39 v16.length),(.box [(.vec 1 ((List.map Qa.toD) v16)),(.mapv 0)]),(.tok 39 (([]:List Qa).length)),(.box [(.vec 1 ((List.map Qa.toD) v17)),(.mapv 0)]),(.box [(Qe v18),(La v19),(Qe v20),(La v21),(Qe v22),(Qe v23),(La v24),(.dat (.lst (Qh.toDs v25))),(.dat (.lst ((List.map Qg.toD) v26)))]),(.tok 65 v27.length),(.box [(.ptr 4 0),(.vec 6 ((List.map Qg.toD) v27))]),(.box [(Qe v28),(La v29),(Qe v30),(La v31),(Qe v32),(Qe v33),(La v34),(.dat (.lst (Qh.toDs v35)))]),(.box [(Qe v36),(La v37),(Qe v38),(La v39),(Qe v40),(Qe v41),(La v42),(.dat (.lst (Qh.toDs v43))),(.dat (.lst ((List.map Qg.toD) v44)))])] (fun _=>(pg_cons (purge_sm _ _ _) (pg_cons (by kernel_rfl) (pg_cons (by kernel_rfl) (pg_cons (by kernel_rfl) (pg_cons (by kernel_rfl) (pg_cons (by kernel_rfl) (pg_cons (by kernel_rfl) (pg_cons (by kernel_rfl) (pg_cons (by kernel_rfl) (pg_cons (by kernel_rfl) pg_nil))))))))))) rfl) ?_
   clear hs
   intro e s hp
   obtain ⟨rfl,d,rfl⟩:=hp
   refine R_G (Qb 2 (Qf (R_G (Qb 3 (Qf ?_)))))
   exact Yx _ _ hm _ (prune_of2 [(.map (smE v15)),(.tok 39 v16.length),(.box [(.vec 1 ((List.map Qa.toD) v16)),(.mapv 0)]),(.tok 39 (([]:List Qa).length)),(.box [(.vec 1 ((List.map Qa.toD) v17)),(.mapv 0)]),(.box [(Qe v18),(La v19),(Qe v20),(La v21),(Qe v22),(Qe v23),(La v24),(.dat (.lst (Qh.toDs v25))),(.dat (.lst ((List.map Qg.toD) v26)))]),(.tok 65 v27.length),(.box [(.ptr 4 0),(.vec 6 ((List.map Qg.toD) v27))]),(.box [(Qe v28),(La v29),(Qe v30),(La v31),(Qe v32),(Qe v33),(La v34),(.dat (.lst (Qh.toDs v35)))]),(.box [(Qe v36),(La v37),(Qe v38),(La v39),(Qe v40),(Qe v41),(La v42),(.dat (.lst (Qh.toDs v43))),(.dat (.lst ((List.map Qg.toD) v44)))])] (fun _=>(pg_cons (purge_sm _ _ _) (pg_cons (by kernel_rfl) (pg_cons (by kernel_rfl) (pg_cons (by kernel_rfl) (pg_cons (by kernel_rfl) (pg_cons (by kernel_rfl) (pg_cons (by kernel_rfl) (pg_cons (by kernel_rfl) (pg_cons (by kernel_rfl) (pg_cons (by kernel_rfl) pg_nil))))))))))) rfl)
 refine Q7 ?_
 obtain rfl:=Qs hm
 exact ⟨rfl,Qr⟩
def Y2 (x:((List Qa) × Qc)):Option Bool :=
 match x with
 | (p0,p1) =>
 (Qa9 ()>>=fun (v2:Bool) =>
 (if v2=false then
  some true
 else
 Qbo (p0,300)>>=fun (v4:Bool) =>
 some (!v4)
 )>>=fun (v3:Bool) =>
 (if v3=true then
  some true
 else
 Qas p0>>=fun (v6:Bool) =>
 some (!v6)
 )>>=fun (v5:Bool) =>
 if v5=true then
  some true
 else
 Qar ((⟨p1.kind,p1.fn,p1.axis,p1.name,p1.nums,p1.kids⟩:Qc),60)>>=fun (v7:Bool) =>
 some (!v7)
 )>>=fun (v1:Bool) =>
 if v1=true then
  Qa9 ()>>=fun (v8:Bool) =>
  some v8
 else
 (
 Xq p0>>=fun (out:((List (ByteArray × Int)) × (List Qa) × ByteArray × (List Int) × (List Int) × (List Qa)) ⊕ ((List (ByteArray × Int)) × (List Qa) × (List Qa))) =>
 match out with
 | .inl (v9,v10,v11,v12,v13,v14) =>
  some false
 | .inr ((v15,v16,v17)) =>
  JE (p1.kind,p1.fn,p1.axis,p1.name,p1.nums,p1.kids,v15,v16,v17)>>=fun ((v18,v19,v20,v21,v22,v23,v24,v25,v26,v27,v28,v29,v30,v31,v32,v33,v34,v35,v36,v37,v38,v39,v40,v41,v42,v43,v44,v45):(Int × (List Int) × Int × (List Int) × Int × Int × (List Int) × (List Qh) × (List Qg) × (List Qg) × Int × (List Int) × Int × (List Int) × Int × Int × (List Int) × (List Qh) × Int × (List Int) × Int × (List Int) × Int × Int × (List Int) × (List Qh) × (List Qg) × Int)) =>
  if v45≠0 then
   some ((v44.length:Int) == 0)
  else
  Qap (⟨p1.kind,p1.fn,p1.axis,p1.name,p1.nums,p1.kids⟩:Qc)>>=fun (v46:(List ByteArray)) =>
  Xi (⟨p1.kind,p1.fn,p1.axis,p1.name,p1.nums,p1.kids⟩:Qc)>>=fun (v47:(List Qc)) =>
  Zc (v47,p1,v46,v15,v16,v17,v18,v19,v20,v21,v22,v23,v24,v25,v26,v27,v28,v29,v30,v31,v32,v33,v34,v35,v36,v37,v38,v39,v40,v41,v42,v43,v44,0,0)>>=fun (v648:Int) =>
  (
  Zd (v44,v46,p1,v648,v15,v16,v17,v18,v19,v20,v21,v22,v23,v24,v25,v26,v27,v28,v29,v30,v31,v32,v33,v34,v35,v36,v37,v38,v39,v40,v41,v42,v43,(-1),0)>>=fun (out:Unit ⊕ Unit) =>
  match out with
  | .inl _ =>
   some false
  | .inr (_) =>
   some (decide ((v44.length:Int)≤v648))
  )
 )
def Qbw:((List Qa) × Qc)→Bool→Prop:=fun x r=>match x,r with
 | (p0,p1),r0=>∀ H,PC prog env 4 ([(.lst ((List.map Qa.toD) p0)),(Qc.ex p1)].map .dat) H (Qn r0) H
theorem w_law15_ElabSources:∀ x r,Y2 x=some r→Qbw x r:=by
 intro x r0 hm
 unfold Y2 at hm
 unfold Qbw
 obtain ⟨p0,p1⟩:=x
 intro H
 refine PC_sx (ds:=[(.lst ((List.map Qa.toD) p0)),(Qc.ex p1)]) (fn:=f4) rfl ?_
 refine Qd (R_G (Qb 2 (Qf (Qd (Qd ?_)))))
 obtain ⟨v1,hs,hm⟩:=Qi hm
 refine Xc (fun d=>⟨sl d 132 [(0,(.dat (.lst ((List.map Qa.toD) p0)))),(3,(.iptr [(Qj p1.kind),(Qj p1.fn),(Qj p1.axis),(strD p1.name),(Lb p1.nums),(.lst (Qc.toDs p1.kids))])),(33,(Qn v1))],[]⟩) ?_ (fun d=>?_)
 ·replace hm:=hs
  clear hs
  refine Qcx ?_
  obtain ⟨v2,hx,hm⟩:=Qi hm
  have hq:=QdP _ _ hx []
  refine Qq hq ?_
  refine Qb 2 ?_
  obtain ⟨v3,hs,hm⟩:=Qi hm
  refine Y1 (j:=7) (fun d=>⟨sl d 132 [(0,(.dat (.lst ((List.map Qa.toD) p0)))),(3,(.iptr [(Qj p1.kind),(Qj p1.fn),(Qj p1.axis),(strD p1.name),(Lb p1.nums),(.lst (Qc.toDs p1.kids))])),(23,(Qn v3))],[]⟩) (fun d=>?_) (fun hJ=>?_)
  ·clear hs
   refine Qb 1 ?_
   obtain ⟨v5,hs,hm⟩:=Qi hm
   refine Y1 (j:=12) (fun d=>⟨sl d 132 [(0,(.dat (.lst ((List.map Qa.toD) p0)))),(3,(.iptr [(Qj p1.kind),(Qj p1.fn),(Qj p1.axis),(strD p1.name),(Lb p1.nums),(.lst (Qc.toDs p1.kids))])),(28,(Qn v5))],[]⟩) (fun d=>?_) (fun hJ=>?_)
   ·clear hs
    refine Qb 1 ?_
    refine Qz 29 hm (QG _) (fun hm=>?_) (fun hm=>?_)
    ·refine Qb 4 ?_
     refine Qf ⟨by kernel_rfl,?_⟩
     obtain rfl:=Qs hm
     exact Qr
    refine Qb 1 ?_
    obtain ⟨v7,hx,hm⟩:=Qi hm
    have hq:=Qe2 _ _ hx []
    refine Qq hq ?_
    refine Qb 2 ?_
    refine Qf ⟨by kernel_rfl,?_⟩
    obtain rfl:=Qs hm
    exact Qr
   clear hm
   refine Qz 24 hs (QG _) (fun hm=>?_) (fun hm=>?_)
   ·refine Qb 4 ?_
    obtain rfl:=Qs hm
    exact hJ _ _
   refine Qb 1 ?_
   obtain ⟨v6,hx,hm⟩:=Qi hm
   have hq:=Qe3 _ _ hx []
   refine Qq hq ?_
   refine Qb 2 ?_
   obtain rfl:=Qs hm
   exact hJ _ _
  clear hm
  refine Qz 19 hs (XH _) (fun hm=>?_) (fun hm=>?_)
  ·refine Qb 4 ?_
   obtain rfl:=Qs hm
   exact hJ _ _
  refine Qb 1 ?_
  obtain ⟨v4,hx,hm⟩:=Qi hm
  have hq:=Qfs _ _ hx []
  refine Qq hq ?_
  refine Qb 2 ?_
  obtain rfl:=Qs hm
  exact hJ _ _
 clear hs
 refine Qx hm (QG _) (fun hm=>?_) (fun hm=>?_)
 ·refine Qd (R_G ?_)
  obtain ⟨v8,hx,hm⟩:=Qi hm
  have hq:=QdP _ _ hx []
  refine Qq hq ?_
  refine Qb 1 (Qf (Qo ?_))
  obtain rfl:=Qs hm
  exact ⟨trivial,Qk⟩
 refine Qp (Qd (R_G (Qb 1 ?_)))
 obtain ⟨out,hx,hm⟩:=Qi hm
 rcases out with ⟨v9,v10,v11,v12,v13,v14⟩|⟨v15,v16,v17⟩
 ·have hq:=QbP _ _ hx
  dsimp only [Jb] at hq
  refine QX hq ?_
  refine Qb 1 (Qf (Qd (Qd (R_G (Qb 2 (Qf ?_))))))
  refine QaA (by kernel_rfl) ?_
  refine Qd (R_G (Qb 1 (Qf (Qo ?_))))
  obtain rfl:=Qs hm
  exact ⟨trivial,Qk⟩
 ·have hq:=QbP _ _ hx
  dsimp only [Jb] at hq
  refine QX hq ?_
  refine Qb 1 (Qf (Qd (Qd (R_G (Qb 2 (Qf ?_))))))
  refine YN (by kernel_rfl) ?_
  refine Qp (Qd (R_G (Qb 2 ?_)))
  obtain ⟨⟨v18,v19,v20,v21,v22,v23,v24,v25,v26,v27,v28,v29,v30,v31,v32,v33,v34,v35,v36,v37,v38,v39,v40,v41,v42,v43,v44,v45⟩,hx,hm⟩:=Qi hm
  have hq:=Qeb _ _ hx
  dsimp only [QaI] at hq
  refine QX hq ?_
  refine Qb 6 (Qf (Qd (Qd (R_G (Qb 2 (Qf ?_))))))
  refine Qx hm (ne_dec _ _) (fun hm=>?_) (fun hm=>?_)
  ·refine Qd (R_G (Qb 2 ?_))
   refine QV Qg.toD v44 (es:=(List.map Qg.toD) v44) rfl ?_
   refine Qb 2 (Qf (Qo ?_))
   obtain rfl:=Qs hm
   exact ⟨trivial,Qk⟩
  refine Qp (Qd (R_G (Qb 1 ?_)))
  obtain ⟨v46,hx,hm⟩:=Qi hm
  have hq:=Qe0 _ _ hx []
  refine Qq hq ?_
  refine Qb 1 (Qf (Qd (R_G (Qb 1 ?_))))
  obtain ⟨v47,hx,hm⟩:=Qi hm
  have hq:=Qbe _ _ hx []
  refine Qq hq ?_
  refine Qb 1 (Qf (Qd (R_G (Qb 1 (Qf (Qd (Qd (R_G (Qb 1 (Qf (Qu ?_)))))))))))
  obtain ⟨v648,hs,hm⟩:=Qi hm
  refine Za ?_
  refine RL_use (Y8 _ _ hs) (prune_of2 [(.map (smE v15)),(.tok 39 v16.length),(.box [(.vec 1 ((List.map Qa.toD) v16)),(.mapv 0)]),(.tok 39 (([]:List Qa).length)),(.box [(.vec 1 ((List.map Qa.toD) v17)),(.mapv 0)]),(.box [(Qe v18),(La v19),(Qe v20),(La v21),(Qe v22),(Qe v23),(La v24),(.dat (.lst (Qh.toDs v25))),(.dat (.lst ((List.map Qg.toD) v26)))]),(.tok 65 v27.length),(.box [(.ptr 4 0),(.vec 6 ((List.map Qg.toD) v27))]),(.box [(Qe v28),(La v29),(Qe v30),(La v31),(Qe v32),(Qe v33),(La v34),(.dat (.lst (Qh.toDs v35)))]),(.box [(Qe v36),(La v37),(Qe v38),(La v39),(Qe v40),(Qe v41),(La v42),(.dat (.lst (Qh.toDs v43))),(.dat (.lst ((List.map Qg.toD) v44)))])] (fun _=>(pg_cons (purge_sm _ _ _) (pg_cons (by kernel_rfl) (pg_cons (by kernel_rfl) (pg_cons (by kernel_rfl) (pg_cons (by kernel_rfl) (pg_cons (by kernel_rfl) (pg_cons (by kernel_rfl) (pg_cons (by kernel_rfl) (pg_cons (by kernel_rfl) (pg_cons (by kernel_rfl) pg_nil))))))))))) rfl) ?_
  clear hs
  intro e s hp
  obtain ⟨rfl,d,rfl⟩:=hp
  refine Qd (R_G (Qb 1 (Qf (Qd (Qd (R_G (Qb 1 (Qf (Qu ?_)))))))))
  obtain ⟨out,hs,hm⟩:=Qi hm
  refine Za ?_
  rcases out with _|_
  ·refine RL_use (Yx _ _ hs) (prune_of2 [(.map (smE v15)),(.tok 39 v16.length),(.box [(.vec 1 ((List.map Qa.toD) v16)),(.mapv 0)]),(.tok 39 (([]:List Qa).length)),(.box [(.vec 1 ((List.map Qa.toD) v17)),(.mapv 0)]),(.box [(Qe v18),(La v19),(Qe v20),(La v21),(Qe v22),(Qe v23),(La v24),(.dat (.lst (Qh.toDs v25))),(.dat (.lst ((List.map Qg.toD) v26)))]),(.tok 65 v27.length),(.box [(.ptr 4 0),(.vec 6 ((List.map Qg.toD) v27))]),(.box [(Qe v28),(La v29),(Qe v30),(La v31),(Qe v32),(Qe v33),(La v34),(.dat (.lst (Qh.toDs v35)))]),(.box [(Qe v36),(La v37),(Qe v38),(La v39),(Qe v40),(Qe v41),(La v42),(.dat (.lst (Qh.toDs v43))),(.dat (.lst ((List.map Qg.toD) v44)))])] (fun _=>(pg_cons (purge_sm _ _ _) (pg_cons (by kernel_rfl) (pg_cons (by kernel_rfl) (pg_cons (by kernel_rfl) (pg_cons (by kernel_rfl) (pg_cons (by kernel_rfl) (pg_cons (by kernel_rfl) (pg_cons (by kernel_rfl) (pg_cons (by kernel_rfl) (pg_cons (by kernel_rfl) pg_nil))))))))))) rfl) ?_
   clear hs
   intro e s hp
   obtain ⟨rfl,d,rfl⟩:=hp
   obtain rfl:=Qs hm
   exact ⟨trivial,Qk⟩
  ·refine RL_use (Yx _ _ hs) (prune_of2 [(.map (smE v15)),(.tok 39 v16.length),(.box [(.vec 1 ((List.map Qa.toD) v16)),(.mapv 0)]),(.tok 39 (([]:List Qa).length)),(.box [(.vec 1 ((List.map Qa.toD) v17)),(.mapv 0)]),(.box [(Qe v18),(La v19),(Qe v20),(La v21),(Qe v22),(Qe v23),(La v24),(.dat (.lst (Qh.toDs v25))),(.dat (.lst ((List.map Qg.toD) v26)))]),(.tok 65 v27.length),(.box [(.ptr 4 0),(.vec 6 ((List.map Qg.toD) v27))]),(.box [(Qe v28),(La v29),(Qe v30),(La v31),(Qe v32),(Qe v33),(La v34),(.dat (.lst (Qh.toDs v35)))]),(.box [(Qe v36),(La v37),(Qe v38),(La v39),(Qe v40),(Qe v41),(La v42),(.dat (.lst (Qh.toDs v43))),(.dat (.lst ((List.map Qg.toD) v44)))])] (fun _=>(pg_cons (purge_sm _ _ _) (pg_cons (by kernel_rfl) (pg_cons (by kernel_rfl) (pg_cons (by kernel_rfl) (pg_cons (by kernel_rfl) (pg_cons (by kernel_rfl) (pg_cons (by kernel_rfl) (pg_cons (by kernel_rfl) (pg_cons (by kernel_rfl) (pg_cons (by kernel_rfl) pg_nil))))))))))) rfl) ?_
   clear hs
   intro e s hp
   obtain ⟨rfl,d,rfl⟩:=hp
   refine Qd (R_G (Qb 2 ?_))
   refine QV Qg.toD v44 (es:=(List.map Qg.toD) v44) rfl ?_
   refine Qb 3 (Qf (Qo ?_))
   obtain rfl:=Qs hm
   exact ⟨trivial,Qk⟩
set_option linter.unusedSimpArgs false
def prodI (l:List Int):Int:=l.foldl (· * ·) 1
def negB (l:List Int):Bool:=l.any fun d=>decide (d < 0)
def bigB (l:List Int):Bool:=l.any fun d=>decide (d > 65536)
def prodR (l:List Int):Int × Int:=if negB l then (0,6) else if bigB l then (0,7) else if prodI l > 65536 then (0,7) else (prodI l,0)
def checkR (l:List Int):Int:=if negB l then 6 else if l.length > 16∨bigB l=true∨prodI l > 65536 then 7 else 0
def cellsR (l:List Int):Int:=if checkR l=0 then prodI l else 0
theorem foldl_mul:∀ (l:List Int) (x:Int),l.foldl (· * ·) x=x * l.foldl (· * ·) 1
 | [],x=>by simp
 | d::l,x=>by rw [List.foldl_cons,foldl_mul l (x * d),List.foldl_cons,foldl_mul l (1 * d),Int.one_mul,Int.mul_assoc]
theorem prodI_cons (d:Int) (l:List Int):prodI (d::l)=d * prodI l:=by rw [prodI,List.foldl_cons,foldl_mul,Int.one_mul]; rfl
theorem prodI_nil:prodI []=1:=rfl
theorem prodI_append (a b:List Int):prodI (a++b)=prodI a * prodI b:=by rw [prodI,prodI,prodI,List.foldl_append,foldl_mul]
theorem prodI_pos:∀ {l:List Int},(∀ d∈l,1≤d)→1≤prodI l
 | [],_=>by simp [prodI]
 | d::l,h=>by
  have h1:=prodI_pos (l:=l) (fun x hx=>h x (List.mem_cons_of_mem _ hx))
  have h2:=h d (List.mem_cons_self ..)
  rw [prodI_cons]
  have:=Int.mul_le_mul h2 h1 (by omega) (by omega)
  omega
theorem prodI_zero {l:List Int} (h:(0:Int)∈l):prodI l=0:=by
 obtain ⟨s,t,rfl⟩:=List.append_of_mem h
 rw [prodI_append,prodI_cons]; simp
theorem negB_cons (d:Int) (l:List Int):negB (d::l)=(decide (d < 0) || negB l):=rfl
theorem bigB_cons (d:Int) (l:List Int):bigB (d::l)=(decide (d > 65536) || bigB l):=rfl

theorem Prod_L1:∀ (s p:List Int) (z:Bool),Sm (p++s).length→Zr (p++s,z,(p.length:Int))=some (if negB s then .inl () else .inr (z || s.any (· == 0)))
 | [],p,z,hs=>by
  rw [Zr]; simp only [YX,if_false]; simp [negB]
 | x::s,p,z,hs=>by
  rw [Zr]
  have ih:=fun z=>Prod_L1 s (p++[x]) z (by rw [← QS]; exact hs)
  rw [← QS] at ih
  simp only [Yg,if_true,Zo,Ql,mid_W hs,ih,negB_cons]
  by_cases hn:x < 0
  ·simp [hn]
  ·cases z <;> by_cases hz:x=0 <;> simp [hn,hz]
theorem Prod_L2:∀ (s p:List Int) (z:Bool),Sm (p++s).length→Zy (p++s,z,(p.length:Int))=some (if bigB s then .inl () else .inr ())
 | [],p,z,hs=>by
  rw [Zy]; simp only [YX,if_false]; simp [bigB]
 | x::s,p,z,hs=>by
  rw [Zy]
  have ih:=Prod_L2 s (p++[x]) z (by rw [← QS]; exact hs)
  rw [← QS] at ih
  simp only [Yg,if_true,Zo,Ql,mid_W hs,ih,bigB_cons]
  by_cases hn:x > 65536 <;> simp [hn]
theorem Prod_L3:∀ (s p:List Int) (m:Int),Sm (p++s).length→(∀ d∈s,1≤d∧d≤65536)→1≤m→m≤65536→Zz (p++s,m,(p.length:Int))=some (if m * prodI s > 65536 then .inl () else .inr (m * prodI s))
 | [],p,m,hs,hd,h1,h2=>by
  rw [Zz]; simp only [YX,if_false,prodI_nil,Int.mul_one]
  rw [if_neg (by omega)]
 | x::s,p,m,hs,hd,h1,h2=>by
  rw [Zz]
  have hx:=hd x (List.mem_cons_self ..)
  have b1:=Int.mul_le_mul h2 hx.2 (by omega) (by omega)
  have b2:=Int.mul_le_mul h1 hx.1 (by omega) (by omega)
  have hw:W (m * x)=m * x:=W_ok (by omega) (by omega)
  have hds:∀ d∈s,1≤d∧d≤65536:=fun d h=>hd d (List.mem_cons_of_mem _ h)
  simp only [Yg,if_true,Zo,Ql,mid_W hs,hw,prodI_cons]
  rw [← Int.mul_assoc]
  by_cases hn:m * x > 65536
  ·have hp:=prodI_pos (l:=s) (fun d h=>(hds d h).1)
   have:m * x * 1≤m * x * prodI s:=Int.mul_le_mul_of_nonneg_left hp (by omega)
   rw [if_pos hn,if_pos (by omega)]
  ·have ih:=Prod_L3 s (p++[x]) (m * x) (by rw [← QS]; exact hs) hds (by omega) (by omega)
   rw [← QS] at ih
   rw [if_neg hn,ih]
theorem neg_all {l:List Int} (h:negB l=false):∀ d∈l,0≤d:=fun d hd=>by
 have:=List.any_eq_false.1 h d hd
 simp at this; omega
theorem big_all {l:List Int} (h:bigB l=false):∀ d∈l,d≤65536:=fun d hd=>by
 have:=List.any_eq_false.1 h d hd
 simp at this; omega
theorem Product_ok (l:List Int) (hs:Sm l.length):Xz l=some (prodR l):=by
 have e1:Zr (l,false,0)=_:=Prod_L1 l [] false hs
 have e2:∀ z,Zy (l,z,0)=_:=fun z=>Prod_L2 l [] z hs
 simp only [Xz,e1,Ql,prodR]
 by_cases hn:negB l=true
 ·simp [hn]
 ·have hn':negB l=false:=by simpa using hn
  simp only [hn',Bool.false_eq_true,if_false,Bool.false_or,e2,Ql]
  by_cases hb:bigB l=true
  ·simp [hb]
  ·have hb':bigB l=false:=by simpa using hb
   simp only [hb',Bool.false_eq_true,if_false]
   by_cases hz:(l.any (· == 0))=true
   ·have:prodI l=0:=prodI_zero (by simpa using hz)
    simp [hz,this]
   ·have hz':l.any (· == 0)=false:=(Bool.not_eq_true _).mp hz
    have e3:Zz (l,1,0)=_:=Prod_L3 l [] 1 hs (fun d hd=>by
     have h1:=neg_all hn' d hd
     have h2:=big_all hb' d hd
     have h3:d≠0:=fun e=>by have:=List.any_eq_false.1 hz' d hd; simp [e] at this
     omega) (by omega) (by omega)
    simp only [hz',Bool.false_eq_true,if_false,e3,Ql,Int.one_mul]
    by_cases hp:prodI l > 65536 <;> simp [hp]
theorem Check_L1:∀ (s p:List Int),Sm (p++s).length→Z3 (p++s,(p.length:Int))=some (if negB s then .inl () else .inr ())
 | [],p,hs=>by
  rw [Z3]; simp only [YX,if_false]; simp [negB]
 | x::s,p,hs=>by
  rw [Z3]
  have ih:=Check_L1 s (p++[x]) (by rw [← QS]; exact hs)
  rw [← QS] at ih
  simp only [Yg,if_true,Zo,Ql,mid_W hs,ih,negB_cons]
  by_cases hn:x < 0 <;> simp [hn]
theorem Check_ok (l:List Int) (hs:Sm l.length):Jo l=some (checkR l):=by
 have e1:Z3 (l,0)=_:=Check_L1 l [] hs
 simp only [Jo,e1,Ql,checkR,Product_ok l hs]
 by_cases hn:negB l=true
 ·simp [hn]
 ·simp only [hn,if_false,prodR,Bool.false_eq_true]
  by_cases hl:l.length > 16
  ·have:(l.length:Int) > 16:=by omega
   simp [hl,this,Ql]
  ·have:¬ (l.length:Int) > 16:=by omega
   by_cases hb:bigB l=true
   ·simp [hl,this,hb,Ql]
   ·by_cases hp:prodI l > 65536 <;> simp [hl,this,hb,hp,Ql]
def remL (l:List Int) (k:Nat):List Int:=l.take k++l.drop (k+1)
def insL (l:List Int) (k:Nat) (v:Int):List Int:=l.take k++v::l.drop k
def repL (l:List Int) (k:Nat) (v:Int):List Int:=l.take k++v::l.drop (k+1)
theorem checkR_zero {l:List Int}:checkR l=0↔(∀ d∈l,0≤d∧d≤65536)∧l.length≤16∧prodI l≤65536:=by
 unfold checkR
 constructor
 ·intro h
  cases hn:negB l
  ·rw [hn,if_neg (by decide)] at h
   split at h
   ·cases h
   ·rename_i h2
    have hb:bigB l=false:=by
     cases hb:bigB l
     ·rfl
     ·exact absurd (Or.inr (Or.inl hb)) h2
    exact ⟨fun d hd=>⟨neg_all hn d hd,big_all hb d hd⟩,by have:=fun h=>h2 (Or.inl h); omega,by have:=fun h=>h2 (Or.inr (Or.inr h)); omega⟩
  ·rw [hn] at h; cases h
 ·rintro ⟨h1,h2,h3⟩
  have hn:negB l=false:=List.any_eq_false.2 fun d hd=>by have:=h1 d hd; simp; omega
  have hb:bigB l=false:=List.any_eq_false.2 fun d hd=>by have:=h1 d hd; simp; omega
  rw [hn,hb,if_neg (by decide),if_neg]
  rintro (h|h|h)
  ·omega
  ·cases h
  ·omega
theorem prod_rep (l:List Int) (i:Nat) (x:Int):prodI (repL l i x)=x * prodI (remL l i):=by
 rw [repL,remL,prodI_append,prodI_cons,prodI_append,Int.mul_left_comm]
theorem rep_self {l:List Int} {i:Nat} (hi:i < l.length):repL l i l[i]=l:=by
 rw [repL,← List.drop_eq_getElem_cons hi,List.take_append_drop]
theorem rep_mem {l:List Int} {i:Nat} {x d:Int}:d∈repL l i x↔d=x∨d∈remL l i:=by
 simp only [repL,remL,List.mem_append,List.mem_cons]
 constructor
 ·rintro (h|h|h)
  ·exact .inr (.inl h)
  ·exact .inl h
  ·exact .inr (.inr h)
 ·rintro (h|h|h)
  ·exact .inr (.inl h)
  ·exact .inl h
  ·exact .inr (.inr h)
theorem rep_len {l:List Int} {i:Nat} {x:Int} (hi:i < l.length):(repL l i x).length=l.length:=by simp [repL]; omega
theorem rem_mem {l:List Int} {i:Nat} {d:Int} (h:d∈remL l i):d∈l:=by
 simp only [remL,List.mem_append] at h
 rcases h with h|h
 ·exact List.mem_of_mem_take h
 ·exact List.mem_of_mem_drop h
theorem prodI_nonneg:∀ {l:List Int},(∀ d∈l,0≤d)→0≤prodI l
 | [],_=>by simp [prodI]
 | d::l,h=>by
  rw [prodI_cons]
  exact Int.mul_nonneg (h d (List.mem_cons_self ..)) (prodI_nonneg fun x hx=>h x (List.mem_cons_of_mem _ hx))
theorem part_right {l:List Int} {i:Nat} {x y:Int} (hi:i < l.length) (h:checkR (repL l i y)=0) (h0:0≤x) (hx:x≤y):checkR (repL l i x)=0:=by
 obtain ⟨h1,h2,h3⟩:=checkR_zero.1 h
 have hr:∀ d∈remL l i,0≤d∧d≤65536:=fun d hd=>h1 d (rep_mem.2 (.inr hd))
 have hy:=h1 y (rep_mem.2 (.inl rfl))
 refine checkR_zero.2 ⟨fun d hd=>?_,?_,?_⟩
 ·rcases rep_mem.1 hd with rfl|hd
  ·omega
  ·exact hr d hd
 ·rw [rep_len hi] at h2 ⊢; exact h2
 ·rw [prod_rep] at h3 ⊢
  have:=Int.mul_le_mul_of_nonneg_right hx (prodI_nonneg fun d hd=>(hr d hd).1)
  omega
theorem rep_other {a b:List Int} {i:Nat} (ha:i < a.length) (hb:i < b.length) (hrem:remL a i=remL b i) (x:Int):repL a i x=repL b i x:=by
 have e1:a.take i=b.take i:=by
  have:=congrArg (List.take i) hrem
  simpa [remL,List.take_append_of_le_length,Nat.le_of_lt ha,Nat.le_of_lt hb,List.length_take,List.take_take] using this
 have e2:a.drop (i+1)=b.drop (i+1):=by
  have h3:a.take i++a.drop (i+1)=b.take i++b.drop (i+1):=hrem
  rw [e1] at h3
  exact List.append_cancel_left h3
 rw [repL,repL,e1,e2]
def Dims (X:List Int):Prop:=∀ d∈X,0≤d∧d≤65536
theorem getD_in {X:List Int} {k:Nat} (h:Dims X) (hk:k < X.length):0≤X.getD k 0∧X.getD k 0≤65536:=by
 rw [List.getD_eq_getElem?_getD,List.getElem?_eq_getElem hk]; exact h _ (List.getElem_mem hk)
theorem idx_getD {X:List Int} {k:Nat} (hk:k < X.length):idx X (k:Int)=some (X.getD k 0):=by
 rw [idx_ok hk,List.getD_eq_getElem?_getD,List.getElem?_eq_getElem hk]; rfl
inductive Below:List Int→List Int→Prop
 | nil:Below [] []
 | cons {x y:Int} {s t:List Int} (h0:0≤x) (h1:x≤y) (h:Below s t):Below (x::s) (y::t)
theorem Below.len {s t:List Int} (h:Below s t):s.length=t.length:=by
 induction h with
 | nil=>rfl
 | cons _ _ _ ih=>simp [ih]
theorem Below.prod {s t:List Int} (h:Below s t):0≤prodI s∧prodI s≤prodI t:=by
 induction h with
 | nil=>simp [prodI]
 | cons h0 h1 _ ih =>
  rw [prodI_cons,prodI_cons]
  exact ⟨Int.mul_nonneg h0 ih.1,Int.mul_le_mul h1 ih.2 ih.1 (by omega)⟩
theorem Below.dims {s t:List Int} (h:Below s t) (ht:Dims t):Dims s:=by
 induction h with
 | nil=>intro d hd; cases hd
 | @cons x y s t h0 h1 _ ih =>
  intro d hd
  rcases List.mem_cons.1 hd with rfl|hd
  ·have:=ht y (List.mem_cons_self ..); omega
  ·exact ih (fun z hz=>ht z (List.mem_cons_of_mem _ hz)) d hd
theorem Below.right {s t:List Int} (h:Below s t) (ht:checkR t=0):checkR s=0:=by
 obtain ⟨h1,h2,h3⟩:=checkR_zero.1 ht
 have:=h.prod
 exact checkR_zero.2 ⟨h.dims h1,by rw [h.len]; exact h2,by omega⟩
theorem prodI_ones:∀ n:Nat,prodI (List.replicate n 1)=1
 | 0=>rfl
 | n+1=>by rw [List.replicate_succ,prodI_cons,prodI_ones n]; rfl
theorem check_ones {n:Nat} (h:n≤16):checkR (List.replicate n 1)=0 :=
 checkR_zero.2 ⟨fun d hd=>by rw [List.eq_of_mem_replicate hd]; omega,by simpa using h,by rw [prodI_ones]; omega⟩
theorem Cont1_L1:∀ (s p:List Int),Sm (p++s).length→∃ r,QH (p++s,(p.length:Int))=some r∧(negB s=true→∃ j:Nat,r=.inl (j:Int))∧(negB s=false→r=.inr ())
 | [],p,hs=>by
  rw [QH]; simp only [YX,if_false]; exact ⟨_,rfl,fun h=>(by cases h),fun _=>rfl⟩
 | x::s,p,hs=>by
  rw [QH]
  obtain ⟨r,h1,h2,h3⟩:=Cont1_L1 s (p++[x]) (by rw [← QS]; exact hs)
  rw [← QS] at h1
  simp only [Yg,if_true,Zo,Ql,mid_W hs,QaX,negB_cons]
  by_cases hn:x < 0
  ·simp only [hn,decide_true,if_true]; exact ⟨_,rfl,fun _=>⟨_,rfl⟩,fun h=>by simp at h⟩
  ·simp only [hn,decide_false,Bool.false_eq_true,if_false,Bool.false_or]; exact ⟨r,h1,h2,h3⟩
theorem Cont1_ok (l:List Int) (hs:Sm l.length):Q0 l=some (negB l):=by
 obtain ⟨r,h1,h2,h3⟩:=Cont1_L1 l [] hs
 have e:QH (l,0)=some r:=h1
 simp only [Q0,Zk,e,Ql]
 cases hn:negB l
 ·rw [h3 hn]; rfl
 ·obtain ⟨j,rfl⟩:=h2 hn; simp [Ql]
theorem Cont2_L1:∀ (s p:List Int),Sm (p++s).length→∃ r,QI (p++s,(p.length:Int))=some r∧(bigB s=true→∃ j:Nat,r=.inl (j:Int))∧(bigB s=false→r=.inr ())
 | [],p,hs=>by
  rw [QI]; simp only [YX,if_false]; exact ⟨_,rfl,fun h=>(by cases h),fun _=>rfl⟩
 | x::s,p,hs=>by
  rw [QI]
  obtain ⟨r,h1,h2,h3⟩:=Cont2_L1 s (p++[x]) (by rw [← QS]; exact hs)
  rw [← QS] at h1
  simp only [Yg,if_true,Zo,Ql,mid_W hs,QaY,bigB_cons]
  by_cases hn:x > 65536
  ·simp only [hn,decide_true,if_true]; exact ⟨_,rfl,fun _=>⟨_,rfl⟩,fun h=>by simp at h⟩
  ·simp only [hn,decide_false,Bool.false_eq_true,if_false,Bool.false_or]; exact ⟨r,h1,h2,h3⟩
theorem Cont2_ok (l:List Int) (hs:Sm l.length):Q1 l=some (bigB l):=by
 obtain ⟨r,h1,h2,h3⟩:=Cont2_L1 l [] hs
 have e:QI (l,0)=some r:=h1
 simp only [Q1,Zl,e,Ql]
 cases hn:bigB l
 ·rw [h3 hn]; rfl
 ·obtain ⟨j,rfl⟩:=h2 hn; simp [Ql]
def errR (l:List Int):Int:=if negB l then 6 else if bigB l then 7 else 0
theorem sizecheck_ok (l:List Int) (hs:Sm l.length):Je l=some (errR l):=by
 simp only [Je,Cont1_ok l hs,Cont2_ok l hs,Ql,errR]
 by_cases h1:negB l=true
 ·simp [h1]
 ·by_cases h2:bigB l=true <;> simp [h1,h2]
theorem Index_L1 (v:Int):∀ (s p:List Int),Sm (p++s).length→∃ r,Q6 (p++s,v,(p.length:Int))=some r∧(s.any (v == ·)=true→∃ j:Nat,r=.inl (j:Int))∧(s.any (v == ·)=false→r=.inr ())
 | [],p,hs=>by
  rw [Q6]; simp only [YX,if_false]; exact ⟨_,rfl,fun h=>(by cases h),fun _=>rfl⟩
 | x::s,p,hs=>by
  rw [Q6]
  obtain ⟨r,h1,h2,h3⟩:=Index_L1 v s (p++[x]) (by rw [← QS]; exact hs)
  rw [← QS] at h1
  simp only [Yg,if_true,Zo,Ql,mid_W hs]
  by_cases hn:v=x
  ·rw [if_pos hn]; exact ⟨_,rfl,fun _=>⟨_,rfl⟩,fun h=>by simp [hn] at h⟩
  ·rw [if_neg hn]; exact ⟨r,h1,fun h=>h2 (by simpa [hn] using h),fun h=>h3 (by simpa [hn] using h)⟩
theorem Contains_ok (l:List Int) (v:Int) (hs:Sm l.length):Ya (l,v)=some (l.any (v == ·)):=by
 obtain ⟨r,h1,h2,h3⟩:=Index_L1 v l [] hs
 have e:Q6 (l,v,0)=some r:=h1
 simp only [Ya,Y7,e,Ql]
 cases hn:l.any (v == ·)
 ·rw [h3 hn]; rfl
 ·obtain ⟨j,rfl⟩:=h2 hn; simp [Ql]
theorem Mul_ok {a b:Int} (ha:1≤a∧a≤65536) (hb:1≤b∧b≤65536):QbN (a,b,65536)=some (if a * b > 65536 then (0,false) else (a * b,true)):=by
 have m1:=Int.mul_le_mul ha.2 hb.2 (by omega) (by omega)
 have m2:=Int.mul_le_mul ha.1 hb.1 (by omega) (by omega)
 have hq0:(65536:Int).tdiv b=65536 / b:=Int.tdiv_eq_ediv_of_nonneg (by omega)
 have hq1:(65536:Int) / b≤65536:=Int.ediv_le_self _ (by omega)
 have hq2:0≤(65536:Int) / b:=Int.ediv_nonneg (by omega) (by omega)
 have hq:quoM 65536 b=some (65536 / b):=by
  rw [quoM,if_neg (by omega),hq0,W_ok (by omega) (by omega)]
 have hlt:(a > 65536 / b)=(a * b > 65536):=by
  have:=Int.ediv_lt_iff_lt_mul (a:=65536) (b:=a) (c:=b) (by omega)
  simp only [gt_iff_lt,eq_iff_iff]
  exact this
 simp only [QbN,show ¬ a < 0 by omega,show ¬ b < 0 by omega,show ¬ a > 65536 by omega,show ¬ b > 65536 by omega,show b > 0 by omega,if_false,if_true,hq,Ql,hlt,decide_false,Bool.false_eq_true]
 by_cases h:a * b > 65536
 ·simp [h]
 ·simp only [h,decide_false,Ql,Bool.false_eq_true,if_false]; rw [W_ok (by omega) (by omega)]
theorem foldP_L1:∀ (s p:List Int) (m:Int),Sm (p++s).length→(∀ d∈s,1≤d∧d≤65536)→1≤m→m≤65536 →
  ∃ r,QP (p++s,m,(p.length:Int))=some r∧(m * prodI s > 65536→∃ v,r=.inl v)∧(¬ m * prodI s > 65536→r=.inr (m * prodI s))
 | [],p,m,hs,hd,h1,h2=>by
  rw [QP]; simp only [YX,if_false,prodI_nil,Int.mul_one]
  exact ⟨_,rfl,fun h=>(by omega),fun _=>rfl⟩
 | x::s,p,m,hs,hd,h1,h2=>by
  rw [QP]
  have hx:=hd x (List.mem_cons_self ..)
  have hds:∀ d∈s,1≤d∧d≤65536:=fun d h=>hd d (List.mem_cons_of_mem _ h)
  have b2:=Int.mul_le_mul h1 hx.1 (by omega) (by omega)
  simp only [Yg,if_true,Zo,Ql,mid_W hs,Qaa,Mul_ok ⟨h1,h2⟩ hx,prodI_cons]
  rw [← Int.mul_assoc]
  by_cases hn:m * x > 65536
  ·have hp:=prodI_pos (l:=s) (fun d h=>(hds d h).1)
   have:m * x * 1≤m * x * prodI s:=Int.mul_le_mul_of_nonneg_left hp (by omega)
   simp only [hn,if_true,Ql]
   exact ⟨_,rfl,fun _=>⟨_,rfl⟩,fun h=>absurd h (by omega)⟩
  ·obtain ⟨r,e1,e2,e3⟩:=foldP_L1 s (p++[x]) (m * x) (by rw [← QS]; exact hs) hds (by omega) (by omega)
   rw [← QS] at e1
   simp only [hn,if_false,Ql,Bool.true_eq_false]
   exact ⟨r,e1,e2,e3⟩
theorem sProduct_ok (l:List Int) (hs:Sm l.length):X2 l=some (prodR l):=by
 simp only [X2,sizecheck_ok l hs,Ql,Z5,prodR,errR]
 by_cases hn:negB l=true
 ·simp [hn,Ql]
 ·have hn':negB l=false:=(Bool.not_eq_true _).mp hn
  by_cases hb:bigB l=true
  ·simp [hn,hb,Ql]
  ·have hb':bigB l=false:=(Bool.not_eq_true _).mp hb
   simp only [hn',hb',Bool.false_eq_true,if_false,if_true,Contains_ok l 0 hs,Ql]
   by_cases hz:l.any ((0:Int) == ·)=true
   ·have h0:(0:Int)∈l:=by
     obtain ⟨x,hx,he⟩:=List.any_eq_true.1 hz
     have:(0:Int)=x:=by simpa using he
     rw [this]; exact hx
    have:=prodI_zero h0
    simp [hz,this,Ql]
   ·have hall:∀ d∈l,1≤d∧d≤65536:=fun d hd=>by
     have h1:=neg_all hn' d hd
     have h2:=big_all hb' d hd
     have h3:d≠0:=fun e=>hz (List.any_eq_true.2 ⟨d,hd,by simp [e]⟩)
     omega
    obtain ⟨r,e1,e2,e3⟩:=foldP_L1 l [] 1 hs hall (by omega) (by omega)
    have e4:QP (l,1,0)=some r:=e1
    rw [Int.one_mul] at e2 e3
    simp only [hz,if_false,Ql,Z6,e4,ne_eq,not_true]
    by_cases hp:prodI l > 65536
    ·obtain ⟨v,rfl⟩:=e2 hp; simp [hp,Ql]
    ·rw [e3 hp]; simp [hp,Ql]
theorem shapeCheck_ok (l:List Int) (hs:Sm l.length):Zg l=some (checkR l):=by
 simp only [Zg,sProduct_ok l hs,Ql,prodR,checkR]
 by_cases hn:negB l=true
 ·simp [hn,Ql]
 ·by_cases hl:l.length > 16
  ·have h16:(l.length:Int) > 16:=by omega
   by_cases hb:bigB l=true
   ·simp [hn,hb,hl,h16,Ql]
   ·by_cases hp:prodI l > 65536 <;> simp [hn,hb,hp,hl,h16,Ql]
  ·have h16:¬ (l.length:Int) > 16:=by omega
   by_cases hb:bigB l=true
   ·simp [hn,hb,hl,h16,Ql]
   ·by_cases hp:prodI l > 65536 <;> simp [hn,hb,hp,hl,h16,Ql]
theorem Sm_le {n:Nat} (h:n≤1000):Sm n:=Sm_of (show n≤1000 from h)
theorem Clone_ok (l:List Int) (hl:l.length≤1000):Qy l=some l:=by
 rw [Qy,app_ok (by simp [room]; omega)]; rfl
theorem app1 {l:List Int} {v:Int} (hl:l.length≤100000):app 8 l [v]=some (l++[v]):=app_ok (by simp [room]; omega)
def zeroRule:Qm:=⟨[],[],[],[],0,0,[]⟩
theorem failed_ok (e:Int):Zj e=some (zeroRule,e):=rfl
def absI (v:Int):Int:=if v < 0 then -v else v
def bigM (v:Int):Bool:=decide (v > 65536) || decide (v < -65536)
theorem Mag_ok (v:Int):Xk v=some (if bigM v then (0,7) else (absI v,0)):=by
 simp only [Xk,bigM]
 by_cases h1:v > 65536
 ·simp [h1,Ql]
 ·by_cases h2:v < -65536
  ·simp [h1,h2,Ql]
  ·have w:W (0 - v)=0 - v:=W_ok (by omega) (by omega)
   have e:(if v < 0 - v then 0 - v else v)=absI v:=by unfold absI; split <;> split <;> omega
   simp only [h1,h2,if_false,decide_false,Ql,Bool.false_eq_true,Bool.or_false,w,e]
def seenL (a:List Int) (n:Nat):List Int:=if a=[] then List.replicate n 1 else a
theorem seen_ok (a:List Int) (n:Nat):JZ (a,(n:Int))=some (if a=[]∧n > 16 then ([],7) else (seenL a n,0)):=by
 simp only [JZ,Qb2,YV]
 cases a with
 | cons x a=>rw [if_pos (by simp)]; simp [seenL]
 | nil =>
  rw [if_neg (by simp)]
  by_cases h:n > 16
  ·rw [if_pos (show (n:Int) > 16 by omega)]; simp [h]
  ·rw [if_neg (show ¬ (n:Int) > 16 by omega),if_pos ⟨by simp,by omega,by omega⟩]
   simp [h,Ql,seenL]
theorem seen_check {a:List Int} {n:Nat} (h:checkR a=0) (hn:¬ (a=[]∧n > 16)):checkR (seenL a n)=0:=by
 unfold seenL
 split
 ·rename_i he; exact check_ones (Nat.le_of_not_lt fun hc=>hn ⟨he,hc⟩)
 ·exact h
def stI (v d:Int):Int:=if v < 0 then d - absI v else 0
theorem zip_mid {f:Int→Int→Int} {p q:List Int} {x y:Int} (h:p.length=q.length):List.zipWith f (p++[x]) (q++[y])=List.zipWith f p q++[f x y]:=by
 rw [List.zipWith_append h]; rfl
theorem take_L1 (sc:Bool):∀ (s t p q:List Int),s.length=t.length→p.length=q.length→(p++s).length≤1000→Dims t →
  ∃ o,Ye (⟨p++s,sc⟩,q++t,p.map absI,List.zipWith stI p q,(p.length:Int))=some o ∧
   (s.any bigM=true→∃ m n,o=.inl ([],[],[],[],0,0,[],7,m,n))∧(s.any bigM=false→o=.inr ((p++s).map absI,List.zipWith stI (p++s) (q++t)))
 | [],[],p,q,_,h2,h3,h4=>by
  rw [Ye]; simp only [YX,if_false]
  exact ⟨_,rfl,(fun h=>by simp at h),(fun _=>by simp)⟩
 | x::s,y::t,p,q,h1,h2,h3,h4=>by
  have hy:=h4 y (List.mem_cons_self ..)
  have hlp:(p.map absI).length≤100000:=by simp at h3 ⊢; omega
  have hlq:(List.zipWith stI p q).length≤100000:=by simp at h3 ⊢; omega
  have hi:idx (q++y::t) (p.length:Int)=some y:=by rw [h2]; exact Zo
  rw [Ye]
  simp only [Yg,if_true,Zo,hi,Ql,Mag_ok]
  cases hb:bigM x with
  | true =>
   simp only [if_true,ne_eq,failed_ok,Ql,zeroRule]
   rw [if_pos (by decide)]
   exact ⟨_,rfl,fun _=>⟨_,_,rfl⟩,fun h=>by simp [hb] at h⟩
  | false =>
   obtain ⟨o,e,ho⟩:=take_L1 sc s t (p++[x]) (q++[y]) (by simpa using h1) (by simp [h2]) (by rw [← QS]; exact h3) (fun d hd=>h4 d (List.mem_cons_of_mem _ hd))
   rw [← QS,← QS,zip_mid h2,List.map_append] at e
   rw [← QS,← QS] at ho
   have hx:-65536≤x∧x≤65536:=by simp [bigM] at hb; omega
   have ha:0≤absI x∧absI x≤65536:=by unfold absI; split <;> omega
   simp only [Bool.false_eq_true,if_false,app1 hlp,app1 hlq,mid_W (Sm_le h3),Ql]
   rw [if_neg (by decide)]
   have hbs:(x::s).any bigM=s.any bigM:=by simp [hb]
   rw [hbs]
   by_cases hn:x < 0
   ·have w:W (y - absI x)=stI x y:=by rw [W_ok (by omega) (by omega)]; simp [stI,hn]
    rw [if_pos hn,w]
    exact ⟨o,e,ho⟩
   ·have w:stI x y=0:=by simp [stI,hn]
    rw [if_neg hn]
    rw [w] at e
    exact ⟨o,e,ho⟩
 | [],_::_,_,_,h,_,_,_=>by cases h
 | _::_,[],_,_,h,_,_,_=>by cases h
def takeE (l a:List Int):Int:=if a=[]∧l.length > 16 then 7 else if l.length≠(seenL a l.length).length then 5 else if l.any bigM then 7 else checkR (l.map absI)
def takeR (l a:List Int):Qm × Int:=if takeE l a=0 then (⟨[],seenL a l.length,l.map absI,List.zipWith stI l (seenL a l.length),-1,0,[]⟩,0) else (zeroRule,takeE l a)
theorem Take_ok (l:List Int) (sc:Bool) (a:List Int) (hl:l.length≤1000) (ha:checkR a=0):Qbq (⟨l,sc⟩,a)=some (takeR l a):=by
 simp only [Qbq,seen_ok,Ql,takeR,takeE]
 by_cases h1:a=[]∧l.length > 16
 ·rw [if_pos h1]; simp [h1,failed_ok,Ql]
 ·rw [if_neg h1]
  have hc:=seen_check ha h1
  simp only [ne_eq,not_true,if_false]
  generalize seenL a l.length=r at hc ⊢
  obtain ⟨r1,r2,r3⟩:=checkR_zero.1 hc
  by_cases h2:l.length=r.length
  ·have h2':¬ ¬ (l.length:Int)=(r.length:Int):=by omega
   rw [if_neg h2']
   obtain ⟨o,e,ho1,ho2⟩:=take_L1 sc l r [] [] h2 rfl (by simp; omega) r1
   have e':Ye (⟨l,sc⟩,r,[],[],0)=some o:=e
   rw [e']
   simp only [Ql,h2,not_true,if_false,h1]
   cases hb:l.any bigM with
   | true=>obtain ⟨m,n,rfl⟩:=ho1 hb; simp [zeroRule]
   | false =>
    rw [ho2 hb]
    have hm:(l.map absI).length≤1000:=by simp; omega
    have hr:r.length≤1000:=by omega
    simp only [List.nil_append,XR,Ql,JI,shapeCheck_ok _ (Sm_le hm),Clone_ok _ hm,Clone_ok _ hr,Xu,Bool.false_eq_true,if_false]
    by_cases h4:checkR (l.map absI)=0
    ·simp [h4,show ¬ 16 < r.length by omega]
    ·simp [h4,zeroRule,show ¬ 16 < r.length by omega]
  ·have h2':(l.length:Int)≠(r.length:Int):=by omega
   rw [if_pos h2']; simp [h1,h2,failed_ok,Ql]
def dropD (d v:Int):Int:=d - (if absI v > d then d else absI v)
def dropS (d v:Int):Int:=if v < 0 then 0 else (if absI v > d then d else absI v)
theorem dropped_ok {d:Int} (hd:0≤d∧d≤65536) (v:Int):JY (d,v)=some (dropD d v,dropS d v):=by
 simp only [JY,Mag_ok,Ql]
 have hr:∀ k:Int,0≤k→k≤d→W (d - k)=d - k:=fun k h1 h2=>W_ok (by omega) (by omega)
 have ha:0≤absI v:=by unfold absI; split <;> omega
 cases hb:bigM v with
 | true =>
  have h1:absI v > d:=by simp [bigM] at hb; unfold absI; split <;> omega
  have w:W 0=0:=by have:=hr d hd.1 (by omega); simpa using this
  by_cases hn:v < 0 <;> simp [Ql,h1,hn,dropD,dropS,w]
 | false =>
  by_cases h1:absI v > d
  ·have w:W 0=0:=by have:=hr d hd.1 (by omega); simpa using this
   by_cases hn:v < 0 <;> simp [Ql,h1,hn,dropD,dropS,w]
  ·have w:=hr (absI v) ha (by omega)
   by_cases hn:v < 0 <;> simp [Ql,h1,hn,dropD,dropS,w]
theorem set_at {α:Type} {p s:List α} {x y:α} {n:Nat} (h:n=p.length):(p++x::s).set n y=p++y::s:=by subst h; simp
theorem drop_L1 (sc:Bool) (v7 v8:List Int):∀ (s p q t:List Int),s.length≤t.length→p.length=q.length→(q++t).length≤1000→v7.length=(q++t).length→v8.length=(q++t).length→Dims t →
  Yt (⟨p++s,sc⟩,q++t,v7,v8,List.zipWith dropD q p++t,List.zipWith dropS q p++List.replicate t.length 0,(p.length:Int))
   = some (List.zipWith dropD q p++(List.zipWith dropD t s++t.drop s.length),List.zipWith dropS q p++(List.zipWith dropS t s++List.replicate (t.length - s.length) 0))
 | [],p,q,t,_,h2,h3,h4,h5,h6=>by
  rw [Yt]; simp only [YX,if_false]; simp
 | x::s,p,q,y::t,h1,h2,h3,h4,h5,h6=>by
  have hy:=h6 y (List.mem_cons_self ..)
  have hz:(List.zipWith dropD q p).length=p.length:=by simp; omega
  have hz2:(List.zipWith dropS q p).length=p.length:=by simp; omega
  have hi:idx (q++y::t) (p.length:Int)=some y:=by rw [h2]; exact Zo
  have g1:(List.zipWith dropD q p++y::t).length=v7.length:=by rw [h4]; simp; omega
  have g2:(List.zipWith dropS q p++List.replicate (y::t).length 0).length=v8.length:=by rw [h5]; simp; omega
  have j1:p.length < (List.zipWith dropD q p++y::t).length:=by simp; omega
  have j2:p.length < (List.zipWith dropS q p++List.replicate (y::t).length 0).length:=by simp; omega
  have s1:(List.zipWith dropD q p++y::t).set p.length (dropD y x)=List.zipWith dropD (q++[y]) (p++[x])++t:=by
   rw [zip_mid h2.symm,set_at hz.symm]; simp
  have s2:(List.zipWith dropS q p++List.replicate (y::t).length 0).set p.length (dropS y x)=List.zipWith dropS (q++[y]) (p++[x])++List.replicate t.length 0:=by
   rw [zip_mid h2.symm,List.length_cons,List.replicate_succ,set_at hz2.symm]; simp
  have ih:=drop_L1 sc v7 v8 s (p++[x]) (q++[y]) t (by simpa using h1) (by simp [h2]) (by rw [← QS]; exact h3) (by rw [← QS]; exact h4) (by rw [← QS]; exact h5) (fun d hd=>h6 d (List.mem_cons_of_mem _ hd))
  rw [← QS,← QS] at ih
  have hw:W ((p.length:Int)+1)=((p++[x]).length:Int):=by simp at h1 h3; rw [W_ok (by omega) (by omega)]; simp
  have m1:setM (List.zipWith dropD q p++y::t) (p.length:Int) (dropD y x)=some (List.zipWith dropD (q++[y]) (p++[x])++t):=by
   rw [setM,if_pos ⟨by omega,by simpa using j1⟩,Int.toNat_natCast,s1]
  have m2:setM (List.zipWith dropS q p++List.replicate (y::t).length 0) (p.length:Int) (dropS y x)=some (List.zipWith dropS (q++[y]) (p++[x])++List.replicate t.length 0):=by
   rw [setM,if_pos ⟨by omega,by simpa using j2⟩,Int.toNat_natCast,s2]
  have k1:YI ((List.zipWith dropD q p++y::t).length=v7.length)=some ():=if_pos g1
  have k2:YI ((List.zipWith dropS q p++List.replicate (y::t).length 0).length=v8.length)=some ():=if_pos g2
  rw [Yt]
  simp only [Yg,if_true,Zo,hi,Ql,dropped_ok hy,k1,k2,idx_ok j1,idx_ok j2,m1,m2,hw,ih]
  rw [zip_mid h2.symm,zip_mid h2.symm]
  simp
 | _::_,_,_,[],h,_,_,_,_,_=>by simp at h
def dropE (l a:List Int):Int:=if a=[]∧l.length > 16 then 7 else if l.length > (seenL a l.length).length then 5 else 0
def dropL (l r:List Int):List Int:=List.zipWith dropD r l++r.drop l.length
def dropF (l r:List Int):List Int:=List.zipWith dropS r l++List.replicate (r.length - l.length) 0
def dropR (l a:List Int):Qm × Int:=if dropE l a=0 then (⟨[],seenL a l.length,dropL l (seenL a l.length),dropF l (seenL a l.length),-1,0,[]⟩,0) else (zeroRule,dropE l a)
theorem dropD_in {d:Int} (hd:0≤d) (v:Int):0≤dropD d v∧dropD d v≤d:=by
 have ha:0≤absI v:=by unfold absI; split <;> omega
 unfold dropD; split <;> omega
theorem below_drop:∀ (l r:List Int),l.length≤r.length→Dims r→Below (dropL l r) r
 | [],r,_,h=>by
  have:dropL [] r=r:=by simp [dropL]
  rw [this]
  induction r with
  | nil=>exact .nil
  | cons y r ih=>exact .cons (h y (List.mem_cons_self ..)).1 (Int.le_refl _) (ih (by simp) (fun d hd=>h d (List.mem_cons_of_mem _ hd)) (by simp [dropL]))
 | x::l,y::r,h1,h=>by
  have e:dropL (x::l) (y::r)=dropD y x::dropL l r:=by simp [dropL]
  have hy:=h y (List.mem_cons_self ..)
  have hd:=dropD_in hy.1 x
  rw [e]
  exact .cons hd.1 hd.2 (below_drop l r (by simpa using h1) fun d hd=>h d (List.mem_cons_of_mem _ hd))
 | _::_,[],h,_=>by simp at h
theorem Drop_ok (l:List Int) (sc:Bool) (a:List Int) (hl:l.length≤1000) (ha:checkR a=0):QaF (⟨l,sc⟩,a)=some (dropR l a):=by
 by_cases h1:a=[]∧l.length > 16
 ·simp only [QaF,seen_ok,Ql,dropR,dropE]
  rw [if_pos h1]; simp [h1,failed_ok,Ql]
 ·have hs:JZ (a,(l.length:Int))=some (seenL a l.length,0):=by rw [seen_ok,if_neg h1]
  have hc:=seen_check ha h1
  unfold dropR dropE
  generalize seenL a l.length=r at hs hc ⊢
  simp only [QaF,hs,Ql,ne_eq,not_true,if_false]
  obtain ⟨r1,r2,r3⟩:=checkR_zero.1 hc
  by_cases h2:l.length > r.length
  ·rw [if_pos (show (l.length:Int) > (r.length:Int) by omega)]; simp [h1,h2,failed_ok,Ql]
  ·have hr:r.length≤1000:=by omega
   have hm:makeM 8 (r.length:Int) 0=some (List.replicate r.length (0:Int)):=by
    rw [makeM,if_pos ⟨by omega,by simp [room]; omega,by omega⟩]; simp
   have e:=drop_L1 sc r (List.replicate r.length 0) l [] [] r (by omega) rfl (by simpa using hr) rfl (by simp) r1
   have e':Yt (⟨l,sc⟩,r,r,List.replicate r.length 0,r,List.replicate r.length 0,0)=some (dropL l r,dropF l r):=e
   have hb:=below_drop l r (by omega) r1
   have hd:(dropL l r).length≤1000:=by rw [hb.len]; omega
   have hf:(dropF l r).length=r.length:=by simp [dropF]; omega
   rw [if_neg (show ¬ (l.length:Int) > (r.length:Int) by omega)]
   simp only [Clone_ok _ hr,hm,Ql,e',XS,JK,YI,hb.len,if_true,shapeCheck_ok _ (Sm_le hd),hb.right hc,ne_eq,not_true,if_false,Clone_ok _ hd,Xv,hf,List.length_replicate,h1,h2]
theorem gEqual_L1:∀ (s t p q:List Int),s.length=t.length→p.length=q.length→Sm (p++s).length→Q3 (p++s,q++t,(p.length:Int))=some (if s=t then .inr () else .inl ())
 | [],[],p,q,_,_,hs=>by
  rw [Q3]; simp only [YX,if_false,if_true]
 | x::s,y::t,p,q,h1,h2,hs=>by
  rw [Q3]
  have ih:=gEqual_L1 s t (p++[x]) (q++[y]) (by simpa using h1) (by simp [h2]) (by rw [← QS]; exact hs)
  rw [← QS,← QS] at ih
  simp only [Yg,if_true,Zo,Ql,mid_W hs,ih]
  rw [h2,Zo]
  by_cases he:x=y <;> simp [he,Ql]
 | [],_::_,_,_,h,_,_=>by cases h
 | _::_,[],_,_,h,_,_=>by cases h
theorem gEqual_ok (a b:List Int) (hs:Sm a.length):Z7 (a,b)=some (decide (a=b)):=by
 simp only [Z7]
 by_cases h:a.length=b.length
 ·have e:=gEqual_L1 a b [] [] h rfl hs
  have e2:¬ ((a.length:Int)≠(b.length:Int)):=by omega
  simp only [e2,if_false]
  have e3:Q3 (a,b,0)=_:=e
  rw [e3]
  by_cases hab:a=b
  ·subst hab; simp
  ·rw [if_neg hab,decide_eq_false hab]; rfl
 ·have e2:((a.length:Int)≠(b.length:Int)):=by omega
  have e3:a≠b:=fun e=>h (by rw [e])
  rw [if_pos e2,decide_eq_false e3]
theorem sEqual_ok (a b:List Int) (hs:Sm a.length):Xj (a,b)=some (decide (a=b)):=by
 simp only [Xj,gEqual_ok a b hs,Ql]
theorem sEqual_ok' (a b:List Int) (hs:Sm b.length):Xj (a,b)=some (decide (a=b)):=by
 by_cases h:a.length=b.length
 ·exact sEqual_ok a b (by rw [h]; exact hs)
 ·have e2:((a.length:Int)≠(b.length:Int)):=by omega
  have e3:a≠b:=fun e=>h (by rw [e])
  simp only [Xj,Z7]
  rw [if_pos e2,decide_eq_false e3]; rfl
theorem Sum2_ok {a b:Int} (ha:0≤a∧a≤65536) (hb:0≤b∧b≤65536):QbO [a,b]=some (if a+b > 65536 then (0,7) else (a+b,0)):=by
 have hs:Sm [a,b].length:=by unfold Sm; simp
 have he:errR [a,b]=0:=by
  have h1:negB [a,b]=false:=by simp [negB]; omega
  have h2:bigB [a,b]=false:=by simp [bigB]; omega
  simp [errR,h1,h2]
 have w0:W (0+a)=a:=by rw [W_ok (by omega) (by omega)]; omega
 have w1:W (a+b)=a+b:=W_ok (by omega) (by omega)
 have i0:idx [a,b] 0=some a:=rfl
 have i1:idx [a,b] 1=some b:=rfl
 have c0:W (0+1)=1:=W_ok (by omega) (by omega)
 have c1:W (1+1)=2:=W_ok (by omega) (by omega)
 have hf:QU ([a,b],0,0)=some (if a+b > 65536 then .inl (a+b) else .inr (a+b)):=by
  rw [QU]
  simp only [List.length_cons,List.length_nil,i0,Ql,QaW,w0,show a≤65536 from ha.2,decide_true,Bool.true_eq_false,if_false,c0]
  rw [if_pos (by omega),QU]
  simp only [List.length_cons,List.length_nil,i1,Ql,QaW,w1,c1]
  rw [if_pos (by omega)]
  by_cases h:a+b > 65536
  ·have h':¬ a+b≤65536:=by omega
   simp [h,h']
  ·have h':a+b≤65536:=by omega
   simp only [h',decide_true,Bool.true_eq_false,if_false]
   rw [QU]
   simp [h]
 simp only [QbO,Yu,sizecheck_ok _ hs,he,Ql,Yv,hf]
 by_cases h:a+b > 65536 <;> simp [h,Ql]
theorem sub_lo {l:List Int} {k:Nat} (h:k≤l.length):sub l 0 (k:Int)=some (l.take k):=by
 rw [sub,if_pos ⟨by omega,by omega,by omega⟩]; simp
theorem sub_hi {l:List Int} {k:Nat} (h:k≤l.length):sub l (k:Int) (l.length:Int)=some (l.drop k):=by
 rw [sub,if_pos ⟨by omega,by omega,by omega⟩]; simp
theorem Concat_ok (ls:List (List Int)) (h1:ls.length≤1000) (h2:ls.flatten.length≤1000000):ZV ls=some ls.flatten:=if_pos ⟨h1,h2⟩
theorem W_nat {k:Nat} (h:k≤1000000):W ((k:Int)+1)=((k+1:Nat):Int):=W_succ (by omega)
theorem Insert_ok (l:List Int) (k:Nat) (v:Int) (hk:k≤l.length) (hl:l.length≤1000):J0 (l,(k:Int),v)=some (insL l k v,0):=by
 have c:=Concat_ok [l.take k,[v],l.drop k] (by simp) (by simp; omega)
 have a1:¬ ((k:Int) < 0):=by omega
 have a2:¬ ((k:Int) > (l.length:Int)):=by omega
 have a3:¬ ((k:Int) > (k:Int)):=by omega
 simp only [J0,QaG,YG,Ql,sub_lo hk,sub_hi hk,Yy,c,a1,a2,a3,if_false,decide_false,Bool.false_eq_true]
 simp [insL]
theorem Replace_ok (l:List Int) (k:Nat) (v:Int) (hk:k < l.length) (hl:l.length≤1000):Y0 (l,(k:Int),v)=some (repL l k v,0):=by
 have c:=Concat_ok [l.take k,[v],l.drop (k+1)] (by simp) (by simp; omega)
 have a0:¬ ((k:Int)≥(l.length:Int)):=by omega
 have a1:¬ ((k:Int) < 0):=by omega
 have a2:¬ (((k+1:Nat):Int) > (l.length:Int)):=by omega
 have a3:¬ ((k:Int) > ((k+1:Nat):Int)):=by omega
 simp only [Y0,QaG,W_nat (show k≤1000000 by omega),YH,Ql,sub_lo (show k≤l.length by omega),sub_hi (show k+1≤l.length by omega),Yy,c,a0,a1,a2,a3,if_false,decide_false,Bool.false_eq_true]
 simp [repL]
theorem Remove_ok (l:List Int) (k:Nat) (hk:k < l.length) (hl:l.length≤1000):YL (l,(k:Int))=some (remL l k,0):=by
 have c:=Concat_ok [l.take k,[],l.drop (k+1)] (by simp) (by simp; omega)
 have a0:¬ ((k:Int)≥(l.length:Int)):=by omega
 have a1:¬ ((k:Int) < 0):=by omega
 have a2:¬ (((k+1:Nat):Int) > (l.length:Int)):=by omega
 have a3:¬ ((k:Int) > ((k+1:Nat):Int)):=by omega
 simp only [YL,W_nat (show k≤1000000 by omega),YF,Ql,sub_lo (show k≤l.length by omega),sub_hi (show k+1≤l.length by omega),J8,c,a0,a1,a2,a3,if_false,decide_false,Bool.false_eq_true]
 simp [remL]
theorem insL_len (p:List Int) (k:Nat) (v:Int):(insL p k v).length=p.length+1:=by simp [insL]; omega
theorem remL_len {l:List Int} {k:Nat} (hk:k < l.length):(remL l k).length+1=l.length:=by simp [remL]; omega
def sumAt (X Y:List Int) (k:Nat):Int:=X.getD k 0+Y.getD k 0
def tailE (X Y:List Int) (k:Nat):Int:=if remL X k≠remL Y k then 5 else if checkR (repL X k (sumAt X Y k))≠0 then 7 else 0
theorem big_rep {X:List Int} {k:Nat} {n:Int} (hX:Dims X) (h0:0≤n) (hn:n > 65536):checkR (repL X k n)≠0:=fun h=>by
 have:=(checkR_zero.1 h).1 n (rep_mem.2 (.inl rfl)); omega
theorem check_rep {X:List Int} {k:Nat} {n:Int} (hX:Dims X) (h0:0≤n) (h:checkR (repL X k n)≠0):checkR (repL X k n)=7:=by
 have hn:negB (repL X k n)=false:=List.any_eq_false.2 fun d hd=>by
  have:0≤d:=by
   rcases rep_mem.1 hd with rfl|h
   ·exact h0
   ·exact (hX d (rem_mem h)).1
  simp; omega
 unfold checkR at h ⊢
 rw [hn] at h ⊢
 simp only [Bool.false_eq_true,if_false] at h ⊢
 split
 ·rfl
 ·rename_i h2; rw [if_neg h2] at h; exact absurd rfl h
theorem cat_tail {p0:Int} {a b X Y:List Int} {k R:Nat} (hR:(max (max (a.length:Int) (b.length:Int)) 1)=(R:Int)) (hk:k < R) (hR16:R≤16) (hax:(if p0=-1 then some (W ((R:Int) - 1)) else some p0)=some (k:Int))
  (hX:ZZ (a,b,(R:Int),(k:Int))=some (X,0)) (hY:ZZ (b,a,(R:Int),(k:Int))=some (Y,0)) (lX:X.length=R) (lY:Y.length=R) (dX:Dims X) (dY:Dims Y) :
  Yz (p0,a,b)=some (if tailE X Y k=0 then ⟨X,Y,repL X k (sumAt X Y k),[],k,0,[]⟩ else zeroRule,tailE X Y k):=by
 have hkX:k < X.length:=by omega
 have hkY:k < Y.length:=by omega
 have gX:=getD_in dX hkX
 have gY:=getD_in dY hkY
 have eX:YL (X,(k:Int))=_:=Remove_ok X k hkX (by omega)
 have eY:YL (Y,(k:Int))=_:=Remove_ok Y k hkY (by omega)
 have rX:=remL_len hkX
 have e0:∀ n:Int,Y0 (X,(k:Int),n)=some (repL X k n,0):=fun n=>Replace_ok X k n hkX (by omega)
 simp only [Yz,hR,hax,Ql,hX,hY]
 rw [if_neg (show ¬ ((k:Int)≥(R:Int)) by omega)]
 simp only [ne_eq,not_true,if_false,Ql,bne_self_eq_false,Bool.false_eq_true,Qbb,eX,eY,sEqual_ok _ _ (Sm_le (show (remL X k).length≤1000 by omega)),idx_getD hkX,idx_getD hkY,Sum2_ok gX gY,e0]
 unfold tailE
 by_cases h1:remL X k=remL Y k
 ·rw [decide_eq_true h1]
  simp only [Bool.true_eq_false,if_false,h1,not_true,ne_eq]
  by_cases h2:X.getD k 0+Y.getD k 0 > 65536
  ·have h3:checkR (repL X k (sumAt X Y k))≠0:=big_rep dX (by unfold sumAt; omega) h2
   simp only [h2,if_true,Ql,h3,not_false_eq_true,failed_ok]
   rfl
  ·simp only [h2,if_false,Ql,not_true,YE,JH,Clone_ok Y (show Y.length≤1000 by omega),XD,YR]
   have e5:(repL X k (X.getD k 0+Y.getD k 0)).length≤1000:=by rw [rep_len hkX]; omega
   rw [shapeCheck_ok _ (Sm_le e5),Clone_ok _ e5]
   have e6:X.getD k 0+Y.getD k 0=sumAt X Y k:=rfl
   rw [e6]
   by_cases h4:checkR (repL X k (sumAt X Y k))=0
   ·simp [h4,Ql]
   ·have h7:=check_rep dX (by unfold sumAt; omega) h4
    simp [h7,Ql,zeroRule]
 ·rw [decide_eq_false h1]
  simp [h1,Ql,failed_ok]
theorem ins_mem {l:List Int} {i:Nat} {x d:Int} (h:d∈insL l i x):d=x∨d∈l:=by
 simp only [insL,List.mem_append,List.mem_cons] at h
 rcases h with h|h|h
 ·exact .inr (List.mem_of_mem_take h)
 ·exact .inl h
 ·exact .inr (List.mem_of_mem_drop h)
def widR (a b:List Int) (R k:Nat):List Int:=if a.length=R then a else if a.length+1=R then insL a k 1 else repL b k 1
theorem widR_dims {a b:List Int} {R k:Nat} (ha:Dims a) (hb:Dims b):Dims (widR a b R k):=by
 intro d hd
 unfold widR at hd
 split at hd
 ·exact ha d hd
 ·split at hd
  ·rcases ins_mem hd with rfl|h
   ·omega
   ·exact ha d h
  ·rcases rep_mem.1 hd with rfl|h
   ·omega
   ·exact hb d (rem_mem h)
theorem widR_len {a b:List Int} {R k:Nat} (hk:k < R) (h:a.length=R∨a.length+1=R∨b.length=R):(widR a b R k).length=R:=by
 unfold widR
 split
 ·assumption
 ·split
  ·rw [insL_len]; assumption
  ·rw [rep_len (by omega)]; omega
theorem wid_ok {a b:List Int} {R k:Nat} (hk:k < R) (hR:R≤16) (h:a.length=R∨a.length+1=R∨(a.length=0∧b.length=R)):ZZ (a,b,(R:Int),(k:Int))=some (widR a b R k,0):=by
 have wR:W ((R:Int) - 1)=(R:Int) - 1:=W_ok (by omega) (by omega)
 simp only [ZZ,wR,widR]
 by_cases h1:a.length=R
 ·rw [if_pos (by omega),if_pos h1,Clone_ok a (by omega)]; rfl
 ·rw [if_neg (by omega),if_neg h1]
  by_cases h2:a.length+1=R
  ·rw [if_pos (by omega),if_pos h2,Insert_ok a k 1 (by omega) (by omega)]; rfl
  ·rw [if_neg (by omega),if_neg h2,if_pos (by omega),Replace_ok b k 1 (by omega) (by omega)]; rfl
theorem wid_bad {a b:List Int} {R k:Nat} (hR:R≤16) (h1:a.length≠R) (h2:a.length+1≠R) (h3:a.length≠0):ZZ (a,b,(R:Int),(k:Int))=some ([],4):=by
 by_cases hz:R=0
 ·subst hz
  have wR:W (((0:Nat):Int) - 1)=-1:=W_ok (by omega) (by omega)
  simp only [ZZ,wR]
  rw [if_neg (by omega),if_neg (by omega),if_neg (by omega)]
 ·have wR:W ((R:Int) - 1)=(R:Int) - 1:=W_ok (by omega) (by omega)
  simp only [ZZ,wR]
  rw [if_neg (by omega),if_neg (by omega),if_neg (by omega)]

def catR (p0:Int) (a b:List Int):Qm × Int :=
 let R:=max (max a.length b.length) 1
 let k:=(if p0=-1 then (R:Int) - 1 else p0).toNat
 if p0≥(R:Int) then (zeroRule,4)
 else if (a.length≠R∧a.length+1≠R∧a.length≠0)∨(b.length≠R∧b.length+1≠R∧b.length≠0) then (zeroRule,4)
 else if tailE (widR a b R k) (widR b a R k) k=0 then (⟨widR a b R k,widR b a R k,repL (widR a b R k) k (sumAt (widR a b R k) (widR b a R k) k),[],k,0,[]⟩,0)
 else (zeroRule,tailE (widR a b R k) (widR b a R k) k)
theorem Cat_ok {p0:Int} {a b:List Int} (hp:-1≤p0) (la:a.length≤16) (lb:b.length≤16) (da:Dims a) (db:Dims b):Yz (p0,a,b)=some (catR p0 a b):=by
 unfold catR
 obtain ⟨R,hRdef⟩:∃ R,R=max (max a.length b.length) 1:=⟨_,rfl⟩
 have hR:(max (max (a.length:Int) (b.length:Int)) 1)=(R:Int):=by omega
 have hR16:R≤16:=by omega
 have wR:W ((R:Int) - 1)=(R:Int) - 1:=W_ok (by omega) (by omega)
 simp only [← hRdef]
 by_cases hbig:p0≥(R:Int)
 ·rw [if_pos hbig]
  simp only [Yz,hR,show ¬ p0=-1 by omega,if_false,Ql,hbig,if_true,failed_ok]
 obtain ⟨k,hk⟩:∃ k:Nat,(k:Int)=if p0=-1 then (R:Int) - 1 else p0:=by
  by_cases h:p0=-1
  ·exact ⟨R - 1,by rw [if_pos h]; omega⟩
  ·exact ⟨p0.toNat,by rw [if_neg h]; omega⟩
 have hkR:k < R:=by by_cases h:p0=-1 <;> simp [h] at hk <;> omega
 have hax1:(if p0=-1 then some (W ((R:Int) - 1)) else some p0)=some (k:Int):=by
  rw [wR,hk]; by_cases h:p0=-1 <;> simp [h]
 rw [if_neg hbig,← hk,Int.toNat_natCast]
 by_cases hbad:(a.length≠R∧a.length+1≠R∧a.length≠0)∨(b.length≠R∧b.length+1≠R∧b.length≠0)
 ·rw [if_pos hbad]
  simp only [Yz,hR,hax1,Ql]
  rw [if_neg (show ¬ ((k:Int)≥(R:Int)) by omega)]
  rcases hbad with ⟨h1,h2,h3⟩|⟨h1,h2,h3⟩
  ·have hb:b.length=R:=by omega
   rw [wid_bad hR16 h1 h2 h3,wid_ok hkR hR16 (.inl hb)]; rfl
  ·have ha:a.length=R:=by omega
   rw [wid_bad hR16 h1 h2 h3,wid_ok hkR hR16 (.inl ha)]; rfl
 ·have hA:a.length=R∨a.length+1=R∨(a.length=0∧b.length=R):=by omega
  have hB:b.length=R∨b.length+1=R∨(b.length=0∧a.length=R):=by omega
  rw [if_neg hbad,cat_tail hR hkR hR16 hax1 (wid_ok hkR hR16 hA) (wid_ok hkR hR16 hB) (widR_len hkR (by omega)) (widR_len hkR (by omega)) (widR_dims da db) (widR_dims db da)]
  split <;> rename_i h
  ·rw [h]
  ·rfl
theorem guardT {h:Decidable True}:@YI True h=some ():=if_pos trivial
theorem Clone64_ok (l:List Int) (hl:l.length≤1000):Z0 l=some l:=by
 rw [Z0,app_ok (by simp [room]; omega)]; rfl
theorem room_ok (n:Nat) (h:n≤1000):YI (0≤(n:Int)∧(n:Int) * (8:Int)≤(room:Int)∧(n:Int)≤9223372036854775807)=some ():=if_pos ⟨by omega,by simp [room]; omega,by omega⟩
def setOf (l:List Int):List Int:=l.foldl insK []
theorem setOf_snoc (l:List Int) (x:Int):setOf (l++[x])=insK (setOf l) x:=by simp [setOf]
theorem mem_insK {l:List Int} {x y:Int}:y∈insK l x↔y∈l∨y=x:=by
 unfold insK
 split
 ·rename_i h
  constructor
  ·exact .inl
  ·rintro (h'|rfl)
   ·exact h'
   ·exact h
 ·simp
theorem insK_nodup {l:List Int} {x:Int} (h:l.Nodup):(insK l x).Nodup:=by
 unfold insK
 split
 ·exact h
 ·rename_i hx
  rw [List.nodup_append]
  exact ⟨h,by simp,fun a ha b hb=>by rw [List.mem_singleton] at hb; subst hb; exact fun e=>hx (e ▸ ha)⟩
theorem snocInd {α:Type} {P:List α→Prop} (h0:P []) (h1:∀ l x,P l→P (l++[x])) (l:List α):P l:=by
 have:∀ m:List α,P m.reverse:=fun m=>by
  induction m with
  | nil=>exact h0
  | cons x m ih=>rw [List.reverse_cons]; exact h1 _ _ ih
 have:=this l.reverse
 rwa [List.reverse_reverse] at this
theorem mem_setOf (l:List Int):∀ y,y∈setOf l↔y∈l:=by
 induction l using snocInd with
 | h0=>intro y; simp [setOf]
 | h1 l x ih=>intro y; rw [setOf_snoc,mem_insK,ih]; simp
theorem setOf_nodup (l:List Int):(setOf l).Nodup:=by
 induction l using snocInd with
 | h0=>simp [setOf]
 | h1 l x ih=>rw [setOf_snoc]; exact insK_nodup ih
def inR (n:Nat) (v:Int):Bool:=decide (0≤v) && decide (v < (n:Int))
theorem conv_L1 (q1:List Int) (q2:Bool) (n:Nat):∀ (s p:List Int),(p++s).length≤1000→∃ o,QN (p++s,q1,q2,(n:Int),setOf p,p,(p.length:Int))=some o ∧
  (s.all (inR n)=true→o=.inr (setOf (p++s),p++s))∧(s.all (inR n)=false→∃ a m,o=.inl (a,6,m))
 | [],p,hs=>by
  rw [QN]; simp only [YX,if_false]
  exact ⟨_,rfl,(fun _=>by simp),(fun h=>by simp at h)⟩
 | x::s,p,hs=>by
  rw [QN]
  have hlp:p.length≤100000:=by simp at hs; omega
  simp only [Yg,if_true,Zo,Ql,Yw,mid_W (Sm_le hs)]
  by_cases h1:x < 0
  ·simp only [h1,if_true,Ql,ne_eq]
   rw [if_pos (by decide)]
   exact ⟨_,rfl,(fun h=>by simp [inR,show ¬ 0≤x by omega] at h),(fun _=>⟨_,_,rfl⟩)⟩
  ·by_cases h2:x≥(n:Int)
   ·simp only [h1,if_false,Ql,h2,decide_true,if_true,ne_eq]
    rw [if_pos (by decide)]
    exact ⟨_,rfl,(fun h=>by simp [inR,show ¬ x < (n:Int) by omega] at h),(fun _=>⟨_,_,rfl⟩)⟩
   ·obtain ⟨o,e,ho⟩:=conv_L1 q1 q2 n s (p++[x]) (by rw [← QS]; exact hs)
    rw [← QS,setOf_snoc] at e
    rw [← QS] at ho
    have hx:inR n x=true:=by simp [inR]; omega
    have ha:(x::s).all (inR n)=s.all (inR n):=by simp [hx]
    rw [ha]
    simp only [h1,if_false,Ql,h2,decide_false,Bool.false_eq_true,ne_eq,not_true,app1 hlp,e]
    exact ⟨o,rfl,ho⟩
def maxF (l:List Int) (m:Int):Int:=l.foldl (fun a x=>if a < x then x else a) m
def maxL (l:List Int):Int:=match l with|[]=>0|x::s=>maxF s x
theorem max_L1:∀ (s p:List Int) (m:Int),(p++s).length≤1000→Q9 (p++s,m,(p.length:Int))=some (maxF s m)
 | [],p,m,hs=>by
  rw [Q9]; simp only [YX,if_false]; rfl
 | x::s,p,m,hs=>by
  rw [Q9]
  have ih:=max_L1 s (p++[x]) (if m < x then x else m) (by rw [← QS]; exact hs)
  rw [← QS] at ih
  simp only [Yg,if_true,Zo,Ql,mid_W (Sm_le hs),ih]; rfl
theorem Max_ok {l:List Int} (hl:l.length≤1000) (h0:l≠[]):Yl l=some (maxL l):=by
 cases l with
 | nil=>exact absurd rfl h0
 | cons x s =>
  have e:Q9 (x::s,x,1)=some (maxF s x):=max_L1 s [x] x hl
  have hi:idx (x::s) 0=some x:=rfl
  simp only [Yl,hi,Ql,e]
  rw [if_neg (by simp; omega)]; rfl
theorem maxF_ge:∀ (l:List Int) (m:Int),m≤maxF l m∧(∀ x∈l,x≤maxF l m)∧(maxF l m=m∨maxF l m∈l)
 | [],m=>⟨Int.le_refl _,by simp,.inl rfl⟩
 | y::l,m=>by
  obtain ⟨h1,h2,h3⟩:=maxF_ge l (if m < y then y else m)
  have e:maxF (y::l) m=maxF l (if m < y then y else m):=rfl
  rw [e]
  have hm:m≤(if m < y then y else m)∧y≤(if m < y then y else m)∧((if m < y then y else m)=m∨(if m < y then y else m)=y):=by split <;> omega
  refine ⟨by omega,fun x hx=>?_,?_⟩
  ·rcases List.mem_cons.1 hx with rfl|hx
   ·omega
   ·exact h2 x hx
  ·rcases h3 with h3|h3
   ·rcases hm.2.2 with h|h
    ·left; omega
    ·right; rw [h3,h]; exact List.mem_cons_self ..
   ·right; exact List.mem_cons_of_mem _ h3
theorem maxL_ge {l:List Int} (h0:l≠[]):(∀ x∈l,x≤maxL l)∧maxL l∈l:=by
 cases l with
 | nil=>exact absurd rfl h0
 | cons y l =>
  obtain ⟨h1,h2,h3⟩:=maxF_ge l y
  refine ⟨fun x hx=>?_,?_⟩
  ·rcases List.mem_cons.1 hx with rfl|hx
   ·exact h1
   ·exact h2 x hx
  ·show maxF l y∈y::l
   rcases h3 with h3|h3
   ·rw [h3]; exact List.mem_cons_self ..
   ·exact List.mem_cons_of_mem _ h3
def permE (v:List Int) (n:Nat):Int:=if v.length≠n then 5 else if v.all (inR n)=false then 6 else if n > 0∧((setOf v).length:Int)≠maxL v+1 then 6 else 0
theorem Permutation_ok (v:List Int) (sc:Bool) (n:Nat) (hv:v.length≤1000):Xr (⟨v,sc⟩,(n:Int))=some (if permE v n=0 then (v,0) else ([],permE v n)):=by
 simp only [Xr,X3,permE]
 by_cases h1:v.length=n
 ·subst h1
  obtain ⟨o,e,h2,h3⟩:=conv_L1 v sc v.length v [] (by simp; omega)
  have e':QN (v,v,sc,(v.length:Int),[],[],0)=some o:=e
  simp only [if_false,Clone64_ok v (by omega),Ql,ne_eq,not_true,ZQ,room_ok _ (show v.length≤1000 by omega),e']
  cases ha:v.all (inR v.length) with
  | false =>
   obtain ⟨a,m,rfl⟩:=h3 ha
   simp [Ql]
  | true =>
   rw [h2 ha]
   simp only [List.nil_append,Bool.true_eq_false,if_false,Ql]
   by_cases h4:v.length > 0
   ·have hn:v≠[]:=by intro h; subst h; simp at h4
    have hm:0≤maxL v∧maxL v < v.length:=by
     have:=List.all_eq_true.1 ha _ (maxL_ge hn).2
     simpa [inR] using this
    have w:W (maxL v+1)=maxL v+1:=W_ok (by omega) (by omega)
    simp only [show (v.length:Int) > 0 by omega,if_true,Max_ok (show v.length≤1000 by omega) hn,Ql,w,h4,true_and]
    by_cases h5:((setOf v).length:Int)=maxL v+1 <;> simp [h5]
   ·simp only [h4,Ql,show ¬ (v.length:Int) > 0 by omega,if_false,false_and,if_true]; rfl
 ·have h1':(v.length:Int)≠(n:Int):=by omega
  simp only [h1',if_true,Ql,ne_eq,not_false_eq_true,h1]
  simp
def padTo (l:List Int) (j:Nat):List Int:=l++List.replicate (j+1 - l.length) 65536
def minI (a b:Int):Int:=if b < a then b else a
def stepP (l:List Int) (j:Nat) (x:Int):List Int:=(padTo l j).set j (minI ((padTo l j).getD j 0) x)
def permF:List Int→List Int→List Int→List Int
 | l,j::p,x::a=>permF (stepP l j.toNat x) p a
 | l,_,_=>l
def permL (p a:List Int):List Int:=permF [] p a
theorem padTo_len (l:List Int) (j:Nat):(padTo l j).length=max l.length (j+1):=by simp [padTo]; omega
theorem stepP_len (l:List Int) (j:Nat) (x:Int):(stepP l j x).length=max l.length (j+1):=by simp [stepP,padTo_len]
theorem pad_L2 (j:Nat) (hj:j < 100) (p1:List Int) (v204:Int) (p0:List Int):∀ (m:Nat) (l:List Int) (g:Nat),m=j+1 - l.length→l.length≤1000→∃ g',ZY ((j:Int),p1,v204,p0,g,l,l.length)=some (g',padTo l j,(padTo l j).length)
 | 0,l,g,hm,hl=>by
  have h:¬ (l.length:Int)≤(j:Int):=by omega
  rw [ZY]
  simp only [h,if_false]
  refine ⟨g,?_⟩
  have:padTo l j=l:=by unfold padTo; rw [← hm]; simp
  rw [this]
 | m+1,l,g,hm,hl=>by
  have h:(l.length:Int)≤(j:Int):=by omega
  obtain ⟨g',e⟩:=pad_L2 j hj p1 v204 p0 m (l++[65536]) (gb g ([65536]:List Int).isEmpty) (by simp; omega) (by simp; omega)
  rw [ZY]
  have hg:YI (l.length=l.length)=some ():=if_pos rfl
  simp only [h,if_true,hg,Ql,app1 (show l.length≤100000 by omega),e]
  have hp:padTo (l++[65536]) j=padTo l j:=by
   unfold padTo
   rw [List.append_assoc,List.length_append,List.length_singleton,show j+1 - l.length=(j+1 - (l.length+1))+1 by omega,List.replicate_succ]; rfl
  rw [hp]
  exact ⟨g',rfl⟩
theorem perm_L1:∀ (s t p q l:List Int) (g:Nat),s.length=t.length→p.length=q.length→(p++s).length≤100→(∀ x∈s,0≤x∧x < 100)→l.length≤100 →
  ∃ g',ZA (p++s,q++t,g,l,l.length,(p.length:Int))=some (g',permF l s t,(permF l s t).length)
 | [],[],p,q,l,g,_,h2,h3,h4,h5=>by
  rw [ZA]; simp only [YX,if_false]
  exact ⟨g,rfl⟩
 | j::s,x::t,p,q,l,g,h1,h2,h3,h4,h5=>by
  have hj:=h4 j (List.mem_cons_self ..)
  obtain ⟨k,rfl⟩:=Int.eq_ofNat_of_zero_le hj.1
  obtain ⟨g1,e1⟩:=pad_L2 k (by omega) (q++x::t) (p.length:Int) (p++(k:Int)::s) (k+1 - l.length) l g rfl (by omega)
  obtain ⟨g2,e2⟩:=perm_L1 s t (p++[(k:Int)]) (q++[x]) (stepP l k x) g1 (by simpa using h1) (by simp [h2]) (by rw [← QS]; exact h3) (fun y hy=>h4 y (List.mem_cons_of_mem _ hy)) (by rw [stepP_len]; omega)
  rw [← QS,← QS] at e2
  have hk:k < (padTo l k).length:=by rw [padTo_len]; omega
  have hi:idx (q++x::t) (p.length:Int)=some x:=by rw [h2]; exact Zo
  have hs:setM (padTo l k) (k:Int) (minI ((padTo l k).getD k 0) x)=some (stepP l k x):=by
   rw [setM,if_pos ⟨by omega,by simpa using hk⟩,Int.toNat_natCast]; rfl
  have hg:YI ((padTo l k).length=(padTo l k).length)=some ():=if_pos rfl
  have hlen:(padTo l k).length=(stepP l k x).length:=by rw [padTo_len,stepP_len]
  rw [ZA]
  have hmin:(if x < (padTo l k).getD k 0 then x else (padTo l k).getD k 0)=minI ((padTo l k).getD k 0) x:=rfl
  simp only [Yg,if_true,Zo,hi,Ql,e1,hg,idx_getD hk,hmin,hs,mid_W (Sm_le (show (p++(k:Int)::s).length≤1000 by omega))]
  rw [hlen,e2]
  exact ⟨g2,rfl⟩
 | [],_::_,_,_,_,_,h,_,_,_,_=>by cases h
 | _::_,[],_,_,_,_,h,_,_,_,_=>by cases h
theorem permF_len:∀ (s t l:List Int),(∀ x∈s,0≤x∧x < 100)→l.length≤100→(permF l s t).length≤100
 | [],_,l,_,h=>by unfold permF; exact h
 | _::_,[],l,_,h=>by unfold permF; exact h
 | j::s,x::t,l,hs,h=>by
  have hj:=hs j (List.mem_cons_self ..)
  rw [permF]
  exact permF_len s t _ (fun y hy=>hs y (List.mem_cons_of_mem _ hy)) (by rw [stepP_len]; omega)
def transE (v a:List Int):Int:=if permE v a.length=0 then checkR (permL v a) else permE v a.length
def transR (v a:List Int):Qm × Int:=if transE v a=0 then (⟨[],a,permL v a,[],-1,0,v⟩,0) else (zeroRule,transE v a)
theorem permE_zero {v:List Int} {n:Nat} (h:permE v n=0):v.length=n∧(∀ x∈v,0≤x∧x < (n:Int))∧(n > 0→((setOf v).length:Int)=maxL v+1):=by
 unfold permE at h
 by_cases h1:v.length=n
 ·rw [if_neg (by omega)] at h
  cases ha:v.all (inR n) with
  | false=>rw [if_pos ha] at h; cases h
  | true =>
   rw [if_neg (by rw [ha]; decide)] at h
   refine ⟨h1,fun x hx=>by have:=List.all_eq_true.1 ha x hx; simpa [inR] using this,fun hn=>?_⟩
   by_cases h5:((setOf v).length:Int)=maxL v+1
   ·exact h5
   ·rw [if_pos ⟨hn,h5⟩] at h; cases h
 ·rw [if_pos h1] at h; cases h
theorem permuted_ok (v a:List Int) (ha:a.length≤16) (hl:v.length=a.length) (hv:∀ x∈v,0≤x∧x < (a.length:Int)):XA (v,a)=some (if checkR (permL v a)=0 then (⟨[],a,permL v a,[],-1,0,v⟩,0) else (zeroRule,checkR (permL v a))):=by
 have hv':∀ x∈v,0≤x∧x < 100:=fun x hx=>by have:=hv x hx; omega
 obtain ⟨g,e⟩:=perm_L1 v a [] [] [] 0 hl rfl (by simp; omega) hv' (by simp)
 have e':ZA (v,a,0,[],([]:List Int).length,0)=some (g,permL v a,(permL v a).length):=e
 have hL:(permL v a).length≤100:=permF_len v a [] hv' (by simp)
 have hg:YI ((permL v a).length=(permL v a).length)=some ():=if_pos rfl
 simp only [XA,e',Ql,JF,hg,shapeCheck_ok _ (Sm_le (show (permL v a).length≤1000 by omega)),Clone_ok a (by omega),Clone_ok _ (show (permL v a).length≤1000 by omega),YU]
 by_cases h:checkR (permL v a)=0
 ·simp [h,guardT]
 ·simp [h,zeroRule,guardT]
theorem Transpose_ok (v:List Int) (sc:Bool) (a:List Int) (hv:v.length≤1000) (ha:a.length≤16):X1 (⟨v,sc⟩,a)=some (transR v a):=by
 simp only [X1,Permutation_ok v sc a.length hv,Ql,transR,transE]
 by_cases h:permE v a.length=0
 ·obtain ⟨h1,h2,h3⟩:=permE_zero h
  simp only [h,if_true,ne_eq,not_true,if_false,permuted_ok v a ha h1 h2,Ql]
 ·simp [h,failed_ok,Ql]
theorem dimN_L1:∀ (s p:List Int),Sm (p++s).length→∃ r,QD (p++s,(p.length:Int))=some r∧(negB s=true→∃ j:Nat,r=.inl (j:Int))∧(negB s=false→r=.inr ())
 | [],p,hs=>by
  rw [QD]; simp only [YX,if_false]; exact ⟨_,rfl,fun h=>(by cases h),fun _=>rfl⟩
 | x::s,p,hs=>by
  rw [QD]
  obtain ⟨r,h1,h2,h3⟩:=dimN_L1 s (p++[x]) (by rw [← QS]; exact hs)
  rw [← QS] at h1
  simp only [Yg,if_true,Zo,Ql,mid_W hs,XT,negB_cons]
  by_cases hn:x < 0
  ·simp only [hn,decide_true,if_true]; exact ⟨_,rfl,fun _=>⟨_,rfl⟩,fun h=>by simp at h⟩
  ·simp only [hn,decide_false,Bool.false_eq_true,if_false,Bool.false_or]; exact ⟨r,h1,h2,h3⟩
theorem dimN_ok (l:List Int) (hs:Sm l.length):QR l=some (negB l):=by
 obtain ⟨r,h1,h2,h3⟩:=dimN_L1 l [] hs
 have e:QD (l,0)=some r:=h1
 simp only [QR,Q5,e,Ql]
 cases hn:negB l
 ·rw [h3 hn]; rfl
 ·obtain ⟨j,rfl⟩:=h2 hn; simp [Ql]
theorem dimC_L1 (sc:Bool):∀ (s p:List Int),(p++s).length≤1000→negB s=false→∃ o,QM (p++s,sc,p,(p.length:Int))=some o ∧
  (bigB s=true→∃ m,o=.inl (7,m))∧(bigB s=false→o=.inr (p++s))
 | [],p,hs,_=>by
  rw [QM]; simp only [YX,if_false]
  exact ⟨_,rfl,(fun h=>by simp [bigB] at h),(fun _=>by simp)⟩
 | x::s,p,hs,hn=>by
  rw [QM]
  have hlp:p.length≤100000:=by simp at hs; omega
  rw [negB_cons,Bool.or_eq_false_iff] at hn
  have hx:¬ x < 0:=by simpa using hn.1
  simp only [Yg,if_true,Zo,Ql,mid_W (Sm_le hs),J9,hx,if_false,bigB_cons]
  by_cases hb:x > 65536
  ·simp only [hb,if_true,Ql,ne_eq]
   rw [if_pos (by decide)]
   exact ⟨_,rfl,(fun _=>⟨_,rfl⟩),(fun h=>by simp at h)⟩
  ·obtain ⟨o,e,ho⟩:=dimC_L1 sc s (p++[x]) (by rw [← QS]; exact hs) hn.2
   rw [← QS] at e ho
   simp only [hb,if_false,Ql,ne_eq,not_true,app1 hlp,e,decide_false,Bool.false_or]
   exact ⟨o,rfl,ho⟩
theorem Dimensions_ok (l:List Int) (sc:Bool) (hl:l.length≤1000):XF ⟨l,sc⟩=some (if checkR l=0 then (l,0) else ([],checkR l)):=by
 simp only [XF,dimN_ok l (Sm_le hl),Ql]
 cases hn:negB l with
 | true =>
  have hc:checkR l=6:=by rw [checkR,hn]; rfl
  simp [hc]
 | false =>
  obtain ⟨o,e,h1,h2⟩:=dimC_L1 sc l [] hl hn
  have e':QM (l,sc,[],0)=some o:=e
  simp only [Bool.false_eq_true,if_false,ZP,room_ok _ hl,Ql,e']
  cases hb:bigB l with
  | true =>
   obtain ⟨m,rfl⟩:=h1 hb
   have hc:checkR l=7:=by rw [checkR,hn,hb]; simp
   simp [hc,Ql]
  | false =>
   rw [h2 hb]
   simp only [List.nil_append,Ql,shapeCheck_ok l (Sm_le hl)]
   by_cases hc:checkR l=0 <;> simp [hc]
def reshR (l a:List Int):Qm × Int:=if checkR l=0 then (⟨[],a,l,[],-1,0,[]⟩,0) else (zeroRule,checkR l)
theorem Reshape_ok (l:List Int) (sc:Bool) (a:List Int) (hl:l.length≤1000) (ha:a.length≤1000):JU (⟨l,sc⟩,a)=some (reshR l a):=by
 simp only [JU,Dimensions_ok l sc hl,Ql,reshR]
 by_cases h:checkR l=0
 ·simp [h,JJ,shapeCheck_ok l (Sm_le hl),Clone_ok l hl,Clone_ok a ha,Ql]
 ·simp [h,failed_ok,Ql]
theorem Cells_ok (l:List Int) (hs:Sm l.length):Qan l=some (cellsR l):=by
 simp only [Qan,Check_ok l hs,Ql,Product_ok l hs,cellsR]
 by_cases hc:checkR l=0
 ·have:(prodR l).1=prodI l:=by
   unfold checkR at hc
   unfold prodR
   by_cases hn:negB l=true
   ·simp [hn] at hc
   ·by_cases hb:bigB l=true
    ·simp [hn,hb] at hc
    ·by_cases hp:prodI l > 65536
     ·simp [hn,hb,hp] at hc
     ·simp [hn,hb,hp]
  simp [hc,this]
 ·simp [hc]
theorem check_nil:checkR []=0:=rfl
def okR (r:Qm):Prop:=checkR r.left=0∧checkR r.right=0∧checkR r.shape=0
theorem okR_zero:okR zeroRule:=⟨check_nil,check_nil,check_nil⟩
theorem okR_take {l a:List Int} (ha:checkR a=0):okR (takeR l a).1:=by
 unfold takeR
 split
 ·rename_i h
  unfold takeE at h
  by_cases h1:a=[]∧l.length > 16
  ·rw [if_pos h1] at h; cases h
  ·rw [if_neg h1] at h
   split at h
   ·cases h
   ·split at h
    ·cases h
    ·exact ⟨check_nil,seen_check ha h1,h⟩
 ·exact okR_zero
theorem okR_drop {l a:List Int} (ha:checkR a=0):okR (dropR l a).1:=by
 unfold dropR
 split
 ·rename_i h
  unfold dropE at h
  by_cases h1:a=[]∧l.length > 16
  ·rw [if_pos h1] at h; cases h
  ·rw [if_neg h1] at h
   have hc:=seen_check ha h1
   split at h
   ·cases h
   ·exact ⟨check_nil,hc,(below_drop l _ (by omega) (checkR_zero.1 hc).1).right hc⟩
 ·exact okR_zero
theorem okR_trans {v a:List Int} (ha:checkR a=0):okR (transR v a).1:=by
 unfold transR
 split
 ·rename_i h
  unfold transE at h
  split at h
  ·exact ⟨check_nil,ha,h⟩
  ·rename_i h2; exact absurd h h2
 ·exact okR_zero
theorem okR_resh {v a:List Int} (ha:checkR a=0):okR (reshR v a).1:=by
 unfold reshR
 split
 ·rename_i h; exact ⟨check_nil,ha,h⟩
 ·exact okR_zero
theorem getD_el {X:List Int} {k:Nat} (h:k < X.length):X.getD k 0=X[k]:=by simp [List.getD_eq_getElem?_getD,h]
theorem okR_cat {p0:Int} {a b:List Int} (hp:-1≤p0) (ha:checkR a=0) (hb:checkR b=0):okR (catR p0 a b).1:=by
 obtain ⟨da,la,_⟩:=checkR_zero.1 ha
 obtain ⟨db,lb,_⟩:=checkR_zero.1 hb
 unfold catR
 obtain ⟨R,hR⟩:∃ R,R=max (max a.length b.length) 1:=⟨_,rfl⟩
 simp only [← hR]
 split
 ·exact okR_zero
 ·rename_i hk
  obtain ⟨k,ek⟩:∃ k,k=(if p0=-1 then (R:Int) - 1 else p0).toNat:=⟨_,rfl⟩
  have hkR:k < R:=by rw [ek]; split <;> omega
  rw [← ek]
  split
  ·exact okR_zero
  ·rename_i hbad
   split
   ·rename_i ht
    have lX:(widR a b R k).length=R:=widR_len hkR (by omega)
    have lY:(widR b a R k).length=R:=widR_len hkR (by omega)
    have dX:Dims (widR a b R k):=widR_dims da db
    have dY:Dims (widR b a R k):=widR_dims db da
    generalize widR a b R k=X at *
    generalize widR b a R k=Y at *
    unfold tailE at ht
    by_cases c1:remL X k=remL Y k
    ·rw [if_neg (fun h=>h c1)] at ht
     by_cases c2:checkR (repL X k (sumAt X Y k))=0
     ·have gX:=getD_in dX (show k < X.length by omega)
      have gY:=getD_in dY (show k < Y.length by omega)
      have kX:k < X.length:=by omega
      have kY:k < Y.length:=by omega
      refine ⟨?_,?_,c2⟩
      ·have:=part_right (x:=X.getD k 0) (by omega) c2 gX.1 (by unfold sumAt; omega)
       rw [getD_el kX,rep_self kX] at this; exact this
      ·have:=part_right (x:=Y.getD k 0) (by omega) c2 gY.1 (by unfold sumAt; omega)
       rw [rep_other kX kY c1,getD_el kY,rep_self kY] at this; exact this
     ·rw [if_pos c2] at ht; cases ht
    ·rw [if_pos c1] at ht; cases ht
   ·exact okR_zero
theorem stepP_get (l:List Int) (j:Nat) (x:Int) (i:Nat):(stepP l j x).getD i 65536=if i=j then minI (l.getD j 65536) x else l.getD i 65536:=by
 have hp:∀ i,(padTo l j).getD i 65536=l.getD i 65536:=fun i=>by
  unfold padTo
  simp only [List.getD_eq_getElem?_getD]
  by_cases h:i < l.length
  ·rw [List.getElem?_append_left h]
  ·rw [List.getElem?_append_right (by omega),List.getElem?_eq_none (l:=l) (by omega)]
   by_cases h2:i - l.length < j+1 - l.length
   ·rw [List.getElem?_replicate]; simp [h2]
   ·rw [List.getElem?_eq_none (by simp; omega)]
 have hk:j < (padTo l j).length:=by rw [padTo_len]; omega
 have h0:(padTo l j).getD j 0=l.getD j 65536:=by
  rw [← hp j]; simp [List.getD_eq_getElem?_getD,hk]
 unfold stepP
 rw [h0,List.getD_eq_getElem?_getD,List.getElem?_set]
 by_cases h:i=j
 ·subst h; simp [hk]
 ·rw [if_neg (fun e=>h e.symm),if_neg h,← List.getD_eq_getElem?_getD,hp]
def rng (n:Nat):List Int:=(List.range n).map fun (k:Nat)=>(k:Int)
theorem rng_nodup (n:Nat):(rng n).Nodup:=List.Pairwise.map _ (fun a b h e=>h (by omega)) List.nodup_range
theorem mem_rng {n:Nat} {x:Int}:x∈rng n↔0≤x∧x < (n:Int):=by
 unfold rng
 rw [List.mem_map]
 constructor
 ·rintro ⟨k,hk,rfl⟩; have:=List.mem_range.1 hk; omega
 ·intro h; exact ⟨x.toNat,List.mem_range.2 (by omega),by omega⟩
theorem perm_rng {v:List Int} (h1:v.Nodup) (h2:∀ x∈v,0≤x∧x < (v.length:Int)):v.Perm (rng v.length):=by
 refine (List.perm_ext_iff_of_nodup h1 (rng_nodup _)).2 fun x=>⟨fun h=>mem_rng.2 (h2 x h),fun h=>?_⟩
 rcases Classical.em (x∈v) with hx|hx
 ·exact hx
 ·have hle:=List.Nodup.length_le_of_subset (l₁:=x::v) (l₂:=rng v.length) (List.nodup_cons.2 ⟨hx,h1⟩) (fun y hy=>by
   rcases List.mem_cons.1 hy with rfl|hy
   ·exact h
   ·exact mem_rng.2 (h2 y hy))
  simp [rng] at hle
  omega
theorem ite_som {c:Prop} [Decidable c] {α:Type} (a b:α):(if c then some a else some b)=some (if c then a else b):=by split <;> rfl
theorem set_count {v:List Int} {M:Nat} (h0:∀ x∈v,0≤x∧x≤(M:Int)):((setOf v).length=M+1)↔∀ j:Nat,j≤M→(j:Int)∈v:=by
 have hn:=setOf_nodup v
 have hsub:∀ x∈setOf v,x∈rng (M+1):=fun x hx=>mem_rng.2 (by have:=h0 x ((mem_setOf v x).1 hx); omega)
 constructor
 ·intro h j hj
  have hp:=perm_rng (v:=setOf v) hn (fun x hx=>by have:=h0 x ((mem_setOf v x).1 hx); omega)
  exact (mem_setOf v _).1 (hp.mem_iff.2 (mem_rng.2 (by omega)))
 ·intro h
  have h1:=List.Nodup.length_le_of_subset hn hsub
  have h2:=List.Nodup.length_le_of_subset (rng_nodup (M+1)) (l₂:=setOf v) (fun x hx=>by
   have hx:=mem_rng.1 hx
   have:=h x.toNat (by omega)
   rw [show ((x.toNat:Nat):Int)=x by omega] at this
   exact (mem_setOf v x).2 this)
  simp [rng] at h1 h2
  omega
theorem maxF_neg:∀ (l:List Int),l≠[]→(∀ x∈l,0≤x)→maxF l (-1)=maxL l
 | x::s,_,h=>by
  have hx:=h x (List.mem_cons_self ..)
  show maxF s (if (-1:Int) < x then x else -1)=maxF s x
  rw [if_pos (by omega)]
theorem permE_onto {v:List Int} {n:Nat} (h1:v.length=n) (h2:∀ x∈v,0≤x∧x < (n:Int)):(n > 0∧((setOf v).length:Int)≠maxL v+1)↔¬ (∀ j:Nat,0≤j→(j:Int)≤maxF v (-1)→(j:Int)∈v):=by
 by_cases h0:v=[]
 ·subst h0
  constructor
  ·rintro ⟨h,_⟩; simp at h1; omega
  ·intro h; exact absurd (fun j _ hj=>by simp [maxF] at hj; omega) h
 ·have hm:=maxF_neg v h0 fun x hx=>(h2 x hx).1
  obtain ⟨g1,g2⟩:=maxL_ge h0
  have hM:=h2 _ g2
  obtain ⟨M,hMe⟩:=Int.eq_ofNat_of_zero_le hM.1
  have hn:n > 0:=by have:=List.length_pos_iff.2 h0; omega
  have hc:=set_count (v:=v) (M:=M) fun x hx=>⟨(h2 x hx).1,by rw [← hMe]; exact g1 x hx⟩
  rw [hm,hMe]
  constructor
  ·rintro ⟨_,hne⟩ g
   exact hne (by have:=hc.2 (fun j hj=>g j (Nat.zero_le _) (by omega)); omega)
  ·intro h
   refine ⟨hn,fun e=>h fun j _ hj=>hc.1 (by omega) j (by omega)⟩
def gmin (i:Int):Int→List Int→List Int→Int
 | acc,j::v,x::a=>gmin i (if j=i then minI acc x else acc) v a
 | acc,_,_=>acc
theorem permF_at (i:Nat):∀ (v a l:List Int),(∀ x∈v,0≤x)→(permF l v a).getD i 65536=gmin i (l.getD i 65536) v a
 | [],_,l,_=>by unfold permF gmin; rfl
 | _::_,[],l,_=>by unfold permF gmin; rfl
 | j::v,x::a,l,h=>by
  have hj:=h j (List.mem_cons_self ..)
  rw [permF,permF_at i v a _ (fun y hy=>h y (List.mem_cons_of_mem _ hy)),stepP_get,gmin]
  congr 1
  by_cases e:i=j.toNat
  ·rw [if_pos e,if_pos (show j=(i:Int) by omega),e]
  ·rw [if_neg e,if_neg (show ¬ j=(i:Int) by omega)]
theorem gmin_le_acc (i:Int):∀ (v a:List Int) (acc:Int),gmin i acc v a≤acc
 | [],_,acc=>by unfold gmin; exact Int.le_refl _
 | _::_,[],acc=>by unfold gmin; exact Int.le_refl _
 | j::v,x::a,acc=>by
  have ih:=gmin_le_acc i v a (if j=i then minI acc x else acc)
  rw [gmin]
  refine Int.le_trans ih ?_
  unfold minI
  split
  ·split <;> omega
  ·exact Int.le_refl _
theorem gmin_nonneg (i:Int):∀ (v a:List Int) (acc:Int),(∀ x∈a,0≤x)→0≤acc→0≤gmin i acc v a
 | [],_,acc,_,h=>by unfold gmin; exact h
 | _::_,[],acc,_,h=>by unfold gmin; exact h
 | j::v,x::a,acc,ha,h=>by
  have hx:=ha x (List.mem_cons_self ..)
  rw [gmin]
  refine gmin_nonneg i v a _ (fun y hy=>ha y (List.mem_cons_of_mem _ hy)) ?_
  unfold minI
  split
  ·split <;> omega
  ·exact h
theorem permF_length:∀ (v a l:List Int) (m:Int),v.length=a.length→(∀ x∈v,0≤x)→(l.length:Int)=m+1→((permF l v a).length:Int)=maxF v m+1
 | [],_,l,m,_,_,h=>by unfold permF; exact h
 | _::_,[],_,_,h,_,_=>by cases h
 | j::v,x::a,l,m,h,h0,hl=>by
  have hj:=h0 j (List.mem_cons_self ..)
  rw [permF]
  refine permF_length v a _ (if m < j then j else m) (by simpa using h) (fun y hy=>h0 y (List.mem_cons_of_mem _ hy)) ?_
  rw [stepP_len]
  split <;> omega
theorem perm_onto {v a:List Int} (hp:permE v a.length=0):v.length=a.length∧(∀ x∈v,0≤x∧x < (a.length:Int))∧(∀ j:Nat,(j:Int)∈v↔j < (permL v a).length):=by
 obtain ⟨h1,h2,h3⟩:=permE_zero hp
 have hl:=permF_length v a [] (-1) h1 (fun x hx=>(h2 x hx).1) (by simp)
 have hon:=permE_onto h1 h2
 have hall:∀ j:Nat,0≤j→(j:Int)≤maxF v (-1)→(j:Int)∈v:=by
  rcases Classical.em (∀ j:Nat,0≤j→(j:Int)≤maxF v (-1)→(j:Int)∈v) with h|h
  ·exact h
  ·obtain ⟨g1,g2⟩:=hon.2 h
   exact absurd (h3 g1) g2
 refine ⟨h1,h2,fun j=>⟨fun hj=>?_,fun hj=>hall j (Nat.zero_le _) ?_⟩⟩
 ·have:=(maxF_ge v (-1)).2.1 _ hj
  show j < (permF [] v a).length
  omega
 ·have:j < (permF [] v a).length:=hj
  omega
theorem permL_at {v a:List Int} (hp:permE v a.length=0) {j:Nat} (hj:j < (permL v a).length):(permL v a)[j]=gmin j 65536 v a:=by
 have h:=permF_at j v a [] (fun x hx=>((perm_onto hp).2.1 x hx).1)
 have e:(permL v a).getD j 65536=(permL v a)[j]:=by rw [List.getD_eq_getElem?_getD,List.getElem?_eq_getElem hj]; rfl
 rw [← e]
 exact h
theorem permL_len {v a:List Int} (hp:permE v a.length=0):(permL v a).length≤a.length:=by
 obtain ⟨h1,h2,h3⟩:=perm_onto hp
 refine Nat.le_of_not_lt fun h=>?_
 have:=h2 _ ((h3 a.length).2 h)
 omega
def pf (c:Int→Bool):List Int→List Int→Int
 | j::v,x::a=>(if c j then x else 1) * pf c v a
 | _,_=>1
theorem pf_pos (c:Int→Bool):∀ (v a:List Int),(∀ x∈a,1≤x)→1≤pf c v a
 | [],_,_=>by unfold pf; omega
 | _::_,[],_=>by unfold pf; omega
 | j::v,x::a,h=>by
  have ih:=pf_pos c v a (fun y hy=>h y (List.mem_cons_of_mem _ hy))
  have hx:=h x (List.mem_cons_self ..)
  have h1:(1:Int)≤(if c j then x else 1):=by split <;> omega
  rw [pf]
  have:=Int.mul_le_mul h1 ih (by omega) (by omega)
  omega
theorem pf_le (c:Int→Bool):∀ (v a:List Int),(∀ x∈a,1≤x)→pf c v a≤prodI a
 | [],a,h=>by unfold pf; exact prodI_pos h
 | _::_,[],_=>by unfold pf; rw [prodI_nil]; omega
 | j::v,x::a,h=>by
  have h':∀ y∈a,1≤y:=fun y hy=>h y (List.mem_cons_of_mem _ hy)
  have ih:=pf_le c v a h'
  have hx:=h x (List.mem_cons_self ..)
  have h1:(if c j then x else 1)≤x:=by split <;> omega
  rw [pf,prodI_cons]
  exact Int.mul_le_mul h1 ih (by have:=pf_pos c v a h'; omega) (by omega)
theorem pf_split (m:Nat):∀ (v a:List Int),pf (fun y=>decide (y < ((m+1:Nat):Int))) v a=pf (fun y=>decide (y < (m:Int))) v a * pf (fun y=>decide (y=(m:Int))) v a
 | [],_=>by simp [pf]
 | _::_,[]=>by simp [pf]
 | j::v,x::a=>by
  rw [pf,pf,pf,pf_split m v a]
  rcases Int.lt_trichotomy j (m:Int) with h|h|h
  ·simp only [show j < ((m+1:Nat):Int) by omega,h,show ¬ j=(m:Int) by omega,decide_true,decide_false,if_true,Bool.false_eq_true,if_false,Int.one_mul,Int.mul_assoc]
  ·simp only [show j < ((m+1:Nat):Int) by omega,h,show ¬ (m:Int) < (m:Int) by omega,decide_true,decide_false,if_true,Bool.false_eq_true,if_false,Int.one_mul,show (m:Int) < ((m+1:Nat):Int) by omega]
   exact Int.mul_left_comm _ _ _
  ·simp only [show ¬ j < ((m+1:Nat):Int) by omega,show ¬ j < (m:Int) by omega,show ¬ j=(m:Int) by omega,decide_false,Bool.false_eq_true,if_false,Int.one_mul]
theorem gmin_pf (m:Int):∀ (v a:List Int) (acc:Int),v.length=a.length→(∀ x∈a,1≤x)→m∈v→gmin m acc v a≤pf (fun y=>decide (y=m)) v a
 | [],_,_,_,_,h=>by cases h
 | _::_,[],_,h,_,_=>by cases h
 | j::v,x::a,acc,hl,ha,h=>by
  have ha':∀ y∈a,1≤y:=fun y hy=>ha y (List.mem_cons_of_mem _ hy)
  have hx:=ha x (List.mem_cons_self ..)
  have hp:=pf_pos (fun y=>decide (y=m)) v a ha'
  rw [gmin,pf]
  by_cases e:j=m
  ·simp only [e,decide_true,if_true]
   have h1:=gmin_le_acc m v a (minI acc x)
   have h2:minI acc x≤x:=by unfold minI; split <;> omega
   have h3:=Int.mul_le_mul (Int.le_refl x) hp (by omega) (by omega)
   rw [Int.mul_one] at h3
   omega
  ·have hm:m∈v:=by
    rcases List.mem_cons.1 h with h|h
    ·exact absurd h.symm e
    ·exact h
   simp only [e,decide_false,Bool.false_eq_true,if_false,Int.one_mul]
   exact gmin_pf m v a acc (by simpa using hl) ha' hm
theorem gmin_zero (m:Int):∀ (v a:List Int) (acc:Int) (k:Nat) (hk:k < a.length) (hv:k < v.length),v[k]=m→gmin m acc v a≤a[k]
 | [],_,_,k,_,hv,_=>by simp at hv
 | _::_,[],_,k,hk,_,_=>by simp at hk
 | j::v,x::a,acc,0,hk,hv,e=>by
  have e:j=m:=e
  rw [gmin,if_pos e]
  have h1:=gmin_le_acc m v a (minI acc x)
  have h2:minI acc x≤x:=by unfold minI; split <;> omega
  show gmin m (minI acc x) v a≤x
  omega
 | j::v,x::a,acc,k+1,hk,hv,e=>by
  rw [gmin]
  exact gmin_zero m v a _ k (by simpa using hk) (by simpa using hv) (by simpa using e)
theorem perm_prod {v a:List Int} (hp:permE v a.length=0) (h1:∀ x∈a,1≤x):∀ m:Nat,m≤(permL v a).length→prodI ((permL v a).take m)≤pf (fun y=>decide (y < (m:Int))) v a
 | 0,_=>by rw [List.take_zero,prodI_nil]; exact pf_pos _ v a h1
 | m+1,hm=>by
  obtain ⟨o1,o2,o3⟩:=perm_onto hp
  have hlt:m < (permL v a).length:=by omega
  have ih:=perm_prod hp h1 m (by omega)
  have hg:=gmin_pf (m:Int) v a 65536 o1 h1 ((o3 m).2 hlt)
  have g0:=gmin_nonneg (m:Int) v a 65536 (fun x hx=>by have:=h1 x hx; omega) (by omega)
  have p0:=pf_pos (fun y=>decide (y < (m:Int))) v a h1
  rw [List.take_succ_eq_append_getElem hlt,prodI_append,prodI_cons,prodI_nil,Int.mul_one,permL_at hp hlt,pf_split]
  exact Int.mul_le_mul ih hg g0 (by omega)
theorem perm_check {v a:List Int} (hp:permE v a.length=0) (ha:checkR a=0):checkR (permL v a)=0:=by
 obtain ⟨c1,c2,c3⟩:=checkR_zero.1 ha
 obtain ⟨o1,o2,o3⟩:=perm_onto hp
 have hl:=permL_len hp
 refine checkR_zero.2 ⟨fun d hd=>?_,by omega,?_⟩
 ·obtain ⟨j,hj,rfl⟩:=List.getElem_of_mem hd
  rw [permL_at hp hj]
  exact ⟨gmin_nonneg _ v a _ (fun x hx=>(c1 x hx).1) (by omega),gmin_le_acc _ v a _⟩
 ·by_cases h0:(0:Int)∈a
  ·obtain ⟨k,hk,e⟩:=List.getElem_of_mem h0
   have hkv:k < v.length:=by omega
   have hj:=o2 _ (List.getElem_mem hkv)
   obtain ⟨j,hje⟩:=Int.eq_ofNat_of_zero_le hj.1
   have hlt:j < (permL v a).length:=(o3 j).1 (by rw [← hje]; exact List.getElem_mem hkv)
   have hz:=gmin_zero (j:Int) v a 65536 k hk hkv hje
   have hn:=gmin_nonneg (j:Int) v a 65536 (fun x hx=>(c1 x hx).1) (by omega)
   have hm:(0:Int)∈permL v a:=by
    have:(permL v a)[j]=0:=by rw [permL_at hp hlt]; omega
    rw [← this]; exact List.getElem_mem hlt
   rw [prodI_zero hm]; omega
  ·have h1:∀ x∈a,1≤x:=fun x hx=>by
    have:=c1 x hx
    have hne:x≠0:=fun e=>h0 (e ▸ hx)
    omega
   have hq:=perm_prod hp h1 (permL v a).length (Nat.le_refl _)
   rw [List.take_length] at hq
   have:=pf_le (fun y=>decide (y < ((permL v a).length:Int))) v a h1
   omega
def revR (ax:Int) (a:List Int):Qm × Int :=
 if ax=-1 then (⟨[],a,a,[],(a.length:Int) - 1,0,[]⟩,0) else if ax≥(a.length:Int) then (zeroRule,4) else (⟨[],a,a,[],ax,0,[]⟩,0)
theorem axisOf_ok (ax:Int) (a:List Int) (hl:a.length≤16):Jp (ax,a)=some (if ax=-1 then ((a.length:Int) - 1,0) else if ax≥(a.length:Int) then (0,4) else (ax,0)):=by
 unfold Jp
 have w:W ((a.length:Int) - 1)=(a.length:Int) - 1:=W_ok (by omega) (by omega)
 simp only [w]
 split
 ·rfl
 ·split <;> rfl
theorem Reverse_ok (ax:Int) {a:List Int} (ha:checkR a=0):JV (ax,a)=some (revR ax a):=by
 have hl:=(checkR_zero.1 ha).2.1
 have hm:∀ x,XE (a,x,0)=some (.inr (a,a)):=fun x=>by
  unfold XE
  simp only [shapeCheck_ok a (Sm_le (by omega)),Ql,ha,ne_eq,not_true_eq_false,if_false,Clone_ok a (by omega)]
  rfl
 unfold JV revR
 simp only [axisOf_ok ax a hl,Ql]
 by_cases h1:ax=-1
 ·subst h1
  simp only [if_true,ne_eq,not_true_eq_false,if_false,YE,Ql,hm]
 by_cases h2:ax≥(a.length:Int)
 ·simp only [h1,h2,if_true,if_false,ne_eq,failed_ok,Ql]; rfl
 ·simp only [h1,h2,if_false,ne_eq,not_true_eq_false,YE,Ql,hm]
theorem revR_axis {ax:Int} (hax:-1≤ax) {a:List Int}:-1≤(revR ax a).1.axis∧((revR ax a).2=0→(revR ax a).1.axis < (a.length:Int)):=by
 unfold revR
 split
 ·exact ⟨by show -1≤(a.length:Int) - 1; omega,fun _=>by show (a.length:Int) - 1 < _; omega⟩
 ·split
  ·exact ⟨by show -1≤(0:Int); omega,fun h=>by cases h⟩
  ·exact ⟨hax,fun _=>by show ax < _; omega⟩
theorem okR_rev {ax:Int} {a:List Int} (ha:checkR a=0):okR (revR ax a).1:=by
 unfold revR
 split
 ·exact ⟨check_nil,ha,ha⟩
 ·split
  ·exact okR_zero
  ·exact ⟨check_nil,ha,ha⟩
theorem tmod_emod (x d:Int):x.tmod d % d=x % d:=by
 have h:=Int.mul_tdiv_add_tmod x d
 generalize x.tmod d=r at h
 rw [← h,Int.add_comm,Int.add_mul_emod_self_left]
def modI (x d:Int):Int:=if d≤0 then 0 else x % d
theorem sMod_ok (x d:Int) (hd:d≤65536):Qa1 (x,d)=some (modI x d):=by
 unfold Qa1 modI
 by_cases h:d≤0
 ·simp only [h,if_true]
 ·have hp:0 < d:=by omega
  simp only [h,if_false,remM,if_neg (show ¬ d=0 by omega),Ql]
  have h1:=Int.tmod_lt_of_pos x hp
  have h2:-d < x.tmod d:=by
   have:=Int.lt_tmod_of_pos x hp
   omega
  have e:x.tmod d % d=x % d:=tmod_emod x d
  by_cases h3:x.tmod d < 0
  ·rw [if_pos h3,W_ok (by omega) (by omega),← e,← Int.add_emod_right,Int.emod_eq_of_lt (by omega) (by omega)]
  ·rw [if_neg h3,← e,Int.emod_eq_of_lt (by omega) h1]
def rotR (v:List Int) (ax:Int) (a:List Int):Qm × Int :=
 if v.length≠1 then (zeroRule,5) else if (revR ax a).2≠0 then (zeroRule,(revR ax a).2) else
 (⟨[],a,a,[],(revR ax a).1.axis,if (revR ax a).1.axis < 0 then 0 else modI (v.getD 0 0) (a.getD (revR ax a).1.axis.toNat 0),[]⟩,0)
theorem Rotate_ok (v:List Int) (sc:Bool) {ax:Int} (hax:-1≤ax) {a:List Int} (hv:v.length≤1000) (ha:checkR a=0):Qat (⟨v,sc⟩,ax,a)=some (rotR v ax a):=by
 obtain ⟨hd,hl,_⟩:=checkR_zero.1 ha
 have hm1:YT (a,v,sc)=some (.inr (a,a)):=by
  unfold YT
  simp only [shapeCheck_ok a (Sm_le (by omega)),Ql,ha,ne_eq,not_true_eq_false,if_false,Clone_ok a (by omega)]
 have hm2:∀ x y,YS (a,v,sc,x,y)=some (.inr (a,a)):=fun x y=>by
  unfold YS
  simp only [shapeCheck_ok a (Sm_le (by omega)),Ql,ha,ne_eq,not_true_eq_false,if_false,Clone_ok a (by omega)]
  rfl
 unfold Qat rotR QcA X3
 dsimp only
 by_cases h1:v.length=1
 case neg =>
  have h1':(v.length:Int)≠1:=by omega
  simp only [h1',h1,ne_eq,not_false_eq_true,if_true,Ql,show ¬ (5:Int)=0 from by decide,failed_ok]
 obtain ⟨x,rfl⟩:∃ x,v=[x]:=List.length_eq_one_iff.1 h1
 have e1:(([x]:List Int).length:Int)=1:=rfl
 have e2:idx [x] 0=some x:=rfl
 have ea:=revR_axis hax (a:=a)
 simp only [e1,ne_eq,not_true_eq_false,if_false,Clone64_ok [x] (by simp),Ql,e2,axisOf_ok ax a hl,List.length_singleton]
 have key:∀ k:Int,-1≤k→k < (a.length:Int)→(if k < 0 then
   (YT (a,[x],sc)>>=fun out=>match out with
    | .inl v9=>some ((⟨[],[],[],[],0,0,[]⟩:Qm),v9)
    | .inr (v10,v11)=>some ((⟨[],v10,v11,[],-1,0,[]⟩:Qm),0))
   else idx a k>>=fun v12=>Qa1 (x,v12)>>=fun v13=>YE (k,v13)>>=fun p=>match p with
    | (v14,v15)=>YS (a,[x],sc,v14,v15)>>=fun out=>match out with
     | .inl v16=>some ((⟨[],[],[],[],0,0,[]⟩:Qm),v16)
     | .inr (v17,v18)=>some ((⟨[],v17,v18,[],v14,v15,[]⟩:Qm),0)) =
   some (⟨[],a,a,[],k,if k < 0 then 0 else modI ([x].getD 0 0) (a.getD k.toNat 0),[]⟩,0):=fun k k1 k2=>by
  by_cases hk:k < 0
  ·have:k=-1:=by omega
   subst this
   simp only [hk,if_true,hm1,Ql]
  ·obtain ⟨j,rfl⟩:=Int.eq_ofNat_of_zero_le (show 0≤k by omega)
   have hj:j < a.length:=by omega
   have hdj:=hd a[j] (List.getElem_mem hj)
   simp only [hk,if_false,idx_ok hj,Ql,sMod_ok x a[j] hdj.2,YE,hm2,Int.toNat_natCast,getD_el hj]
   rfl
 unfold revR at ea ⊢
 by_cases h2:ax=-1
 ·simp only [h2,if_true] at ea ⊢
  simp only [ne_eq,not_true_eq_false,if_false]
  exact key _ ea.1 (ea.2 trivial)
 by_cases h3:ax≥(a.length:Int)
 ·simp only [h2,h3,if_true,if_false,ne_eq,failed_ok,Ql]; rfl
 ·simp only [h2,h3,if_false] at ea ⊢
  simp only [ne_eq,not_true_eq_false,if_false]
  exact key _ ea.1 (ea.2 trivial)
theorem okR_rot {v:List Int} {ax:Int} {a:List Int} (ha:checkR a=0):okR (rotR v ax a).1:=by
 unfold rotR
 split
 ·exact okR_zero
 ·split
  ·exact okR_zero
  ·exact ⟨check_nil,ha,ha⟩
def ravR (a:List Int):Qm:=⟨[],a,[cellsR a],[],-1,0,[]⟩
theorem cells_check {a:List Int} (ha:checkR a=0):checkR [cellsR a]=0:=by
 obtain ⟨h1,h2,h3⟩:=checkR_zero.1 ha
 have hc:cellsR a=prodI a:=if_pos ha
 have h0:0≤prodI a:=prodI_nonneg fun x hx=>(h1 x hx).1
 rw [hc]
 refine checkR_zero.2 ⟨fun x hx=>?_,by simp,?_⟩
 ·simp only [List.mem_singleton] at hx; subst hx; exact ⟨h0,h3⟩
 ·show prodI [prodI a]≤_; simp [prodI] at h3 ⊢; exact h3
theorem shapeCells_ok (l:List Int) (hs:Sm l.length):Jq l=some (cellsR l):=by
 unfold Jq cellsR
 simp only [shapeCheck_ok l hs,Ql]
 by_cases h:checkR l=0
 ·simp only [h,ne_eq,not_true_eq_false,if_false,if_true,sProduct_ok l hs,Ql]
  obtain ⟨h1,h2,h3⟩:=checkR_zero.1 h
  have hn:negB l=false:=by
   cases e:negB l with
   | false=>rfl
   | true=>unfold checkR at h; rw [e] at h; cases h
  have hb:bigB l=false:=by
   cases e:bigB l with
   | false=>rfl
   | true=>unfold checkR at h; rw [hn,e] at h; simp at h
  unfold prodR
  rw [hn,hb]
  simp only [Bool.false_eq_true,if_false,show ¬ prodI l > 65536 by omega]
 ·simp only [h,ne_eq,not_false_eq_true,if_true,if_false]
theorem Ravel_ok {a:List Int} (ha:checkR a=0):QaV a=some (ravR a,0):=by
 have hl:=(checkR_zero.1 ha).2.1
 unfold QaV JG
 simp only [shapeCells_ok a (Sm_le (show a.length≤1000 by omega)),Ql,shapeCheck_ok [cellsR a] (Sm_le (show ([cellsR a]:List Int).length≤1000 by simp)),cells_check ha,ne_eq,not_true_eq_false,if_false,Clone_ok a (by omega),Clone_ok [cellsR a] (by simp)]
 rfl
def dn:Nat→List Int
 | 0=>[]
 | n+1=>(n:Int)::dn n
theorem dn_len:∀ n,(dn n).length=n
 | 0=>rfl
 | n+1=>by rw [dn,List.length_cons,dn_len n]
theorem dn_mem:∀ (n:Nat) (x:Int),x∈dn n↔0≤x∧x < (n:Int)
 | 0,x=>by
  simp only [dn,List.not_mem_nil,false_iff]; omega
 | n+1,x=>by rw [dn,List.mem_cons,dn_mem n x]; omega
theorem dn_perm (n:Nat):permE (dn n) n=0:=by
 unfold permE
 rw [if_neg (by simp [dn_len]),if_neg (by
  have:(dn n).all (inR n)=true:=List.all_eq_true.2 fun x hx=>by have:=(dn_mem n x).1 hx; simp [inR]; omega
  rw [this]; simp),if_neg]
 have hle:∀ x∈dn n,0≤x∧x < (n:Int):=fun x hx=>(dn_mem n x).1 hx
 rw [permE_onto (dn_len n) hle]
 intro h
 refine h fun j _ hj=>?_
 rw [dn_mem]
 refine ⟨by omega,?_⟩
 have hb:maxF (dn n) (-1) < (n:Int):=by
  rcases (maxF_ge (dn n) (-1)).2.2 with e|e
  ·rw [e]; omega
  ·exact (hle _ e).2
 omega
def flipR (a:List Int):Qm:=⟨[],a,permL (dn a.length) a,[],-1,0,dn a.length⟩
theorem flip_L1 (a:List Int) (hl:a.length≤16):∀ (m j:Nat) (acc:List Int),j+m=a.length→acc.length=j→YK (a,acc,(j:Int))=some (acc++dn m)
 | 0,j,acc,h,h2=>by
  rw [YK]
  have:¬ ((j:Int) < (a.length:Int)):=by omega
  simp only [this,if_false,dn,List.append_nil]
 | m+1,j,acc,h,h2=>by
  rw [YK]
  have h1:((j:Int) < (a.length:Int)):=by omega
  have w:W ((j:Int)+1)=((j+1:Nat):Int):=W_succ (by omega)
  have w2:W (W ((a.length:Int) - 1) - (j:Int))=(m:Int):=by rw [W_ok (n:=(a.length:Int) - 1) (by omega) (by omega),W_ok (by omega) (by omega)]; omega
  simp only [h1,if_true,w2,app1 (show acc.length≤100000 by omega),Ql,w,flip_L1 a hl m (j+1) (acc++[(m:Int)]) (by omega) (by simp; omega),dn,List.append_assoc,List.singleton_append]
theorem dn_in (n:Nat):∀ x∈dn n,0≤x∧x < (n:Int):=fun x hx=>(dn_mem n x).1 hx
theorem Flip_ok {a:List Int} (ha:checkR a=0):Qbp a=some (flipR a,0):=by
 have hl:=(checkR_zero.1 ha).2.1
 have e:=flip_L1 a hl a.length 0 [] (by omega) rfl
 simp only [Int.natCast_zero,List.nil_append] at e
 unfold Qbp
 simp only [e,Ql,permuted_ok (dn a.length) a hl (dn_len _) (dn_in _),perm_check (dn_perm a.length) ha,if_true]
 rfl
theorem okR_flip {a:List Int} (ha:checkR a=0):okR (flipR a):=⟨check_nil,ha,perm_check (dn_perm a.length) ha⟩
mutual
def szT:Qc→Nat
 | ⟨_,_,_,_,_,kids⟩=>1+szTs kids
def szTs:List Qc→Nat
 | []=>0
 | k::ks=>szT k+szTs ks
end
mutual
def numT:Qc→Nat
 | ⟨_,_,_,_,nums,kids⟩=>nums.length+numTs kids
def numTs:List Qc→Nat
 | []=>0
 | k::ks=>numT k+numTs ks
end
mutual
def depT:Qc→Nat
 | ⟨_,_,_,_,_,kids⟩=>depTs kids+1
def depTs:List Qc→Nat
 | []=>0
 | k::ks=>max (depT k) (depTs ks)
end
theorem szT_pos:∀ t:Qc,1≤szT t
 | ⟨_,_,_,_,_,kids⟩=>by rw [szT]; omega
theorem szTs_len:∀ l:List Qc,l.length≤szTs l
 | []=>Nat.zero_le _
 | k::ks=>by have:=szTs_len ks; have:=szT_pos k; rw [szTs]; simp only [List.length_cons]; omega
theorem szTs_app:∀ a b:List Qc,szTs (a++b)=szTs a+szTs b
 | [],b=>by simp [szTs]
 | k::ks,b=>by rw [List.cons_append,szTs,szTs,szTs_app ks b]; omega
mutual
theorem depT_le:∀ t:Qc,depT t≤szT t
 | ⟨_,_,_,_,_,kids⟩=>by have:=depTs_le kids; rw [depT,szT]; omega
theorem depTs_le:∀ l:List Qc,depTs l≤szTs l
 | []=>Nat.le_refl _
 | k::ks=>by have:=depT_le k; have:=depTs_le ks; rw [depTs,szTs]; omega
end
mutual
theorem tleft_ok:∀ (t:Qc) (n:Int),0≤n→n≤600→Jd (t,n)=some (max (n - (szT t:Int)) (-1))
 | ⟨k,f,a,nm,nu,ks⟩,n,h1,h2=>by
  rw [Jd]
  have w:W (n - 1)=n - 1:=W_ok (by omega) (by omega)
  have e:=tleft_loop ks [] (n - 1) k f a nm nu (by omega) (by simp; omega)
  simp only [List.nil_append,List.length_nil,Int.natCast_zero] at e
  rw [w,e,Ql,szT]
  congr 1; omega
theorem tleft_loop:∀ (s p:List Qc) (n:Int) (k f a:Int) (nm:ByteArray) (nu:List Int),-1≤n→(p.length:Int)+n≤600 →
  Z1 (⟨k,f,a,nm,nu,p++s⟩,n,(p.length:Int))=some (max (n - (szTs s:Int)) (-1))
 | [],p,n,k,f,a,nm,nu,h1,h2=>by
  rw [Z1]
  simp only [YX,if_false,Ql,Bool.false_eq_true,szTs]
  congr 1; omega
 | x::s,p,n,k,f,a,nm,nu,h1,h2=>by
  rw [Z1]
  simp only [Yg,if_true,Ql]
  by_cases hn:n≥0
  ·rw [decide_eq_true hn]
   have e:=tleft_ok x n hn (by omega)
   have e':=tleft_loop s (p++[x]) (max (n - (szT x:Int)) (-1)) k f a nm nu (by omega) (by have:=szT_pos x; simp; omega)
   rw [← QS] at e'
   have w:W ((p.length:Int)+1)=((p++[x]).length:Int):=by rw [W_ok (by omega) (by omega)]; simp
   simp only [if_true,Zo,Ql,e,w,e',szTs]
   congr 1; omega
  ·rw [decide_eq_false hn]
   simp only [Bool.false_eq_true,if_false,szTs]
   congr 1; omega
end
mutual
theorem tdep_ok:∀ (t:Qc),szT t≤600→Xg t=some (depT t:Int)
 | ⟨k,f,a,nm,nu,ks⟩,h=>by
  rw [Xg]
  rw [szT] at h
  have e:=tdep_loop ks [] 0 k f a nm nu (by have:=szTs_len ks; simp; omega) (by omega) (by omega)
  simp only [List.nil_append,List.length_nil,Int.natCast_zero] at e
  have:=depTs_le ks
  simp only [e,Ql,depT]
  rw [W_ok (by omega) (by omega)]
  congr 1
  first|done|omega
theorem tdep_loop:∀ (s p:List Qc) (m:Nat) (k f a:Int) (nm:ByteArray) (nu:List Int),(p++s).length≤600→szTs s≤600→m≤600 →
  ZF (⟨k,f,a,nm,nu,p++s⟩,(m:Int),(p.length:Int))=some ((max m (depTs s):Nat):Int)
 | [],p,m,k,f,a,nm,nu,h1,h2,h3=>by
  rw [ZF]
  simp only [YX,if_false,depTs,Nat.max_zero]
 | x::s,p,m,k,f,a,nm,nu,h1,h2,h3=>by
  rw [ZF]
  rw [szTs] at h2
  have e:=tdep_ok x (by omega)
  have hd:=depT_le x
  have e':=tdep_loop s (p++[x]) (max m (depT x)) k f a nm nu (by simpa using h1) (by omega) (by omega)
  rw [← QS] at e'
  have w:W ((p.length:Int)+1)=((p++[x]).length:Int):=mid_W (Sm_of h1)
  have hx:(if (m:Int) < (depT x:Int) then (depT x:Int) else (m:Int))=((max m (depT x):Nat):Int):=by split <;> omega
  simp only [Yg,if_true,Zo,Ql,e,w,hx,e',depTs]
  congr 1; omega
end
mutual
theorem tnum_ok:∀ (t:Qc),szT t≤600→numT t≤1000000000000000000→YZ t=some (numT t:Int)
 | ⟨k,f,a,nm,nu,ks⟩,h,h2=>by
  rw [YZ]
  rw [szT] at h
  rw [numT] at h2
  have e:=tnum_loop ks [] nu.length k f a nm nu (by have:=szTs_len ks; simp; omega) (by omega) (by omega)
  simp only [List.nil_append,List.length_nil,Int.natCast_zero] at e
  simp only [e,Ql,numT]
theorem tnum_loop:∀ (s p:List Qc) (m:Nat) (k f a:Int) (nm:ByteArray) (nu:List Int),(p++s).length≤600→szTs s≤600→m+numTs s≤1000000000000000000 →
  Zs (⟨k,f,a,nm,nu,p++s⟩,(m:Int),(p.length:Int))=some ((m+numTs s:Nat):Int)
 | [],p,m,k,f,a,nm,nu,h1,h2,h3=>by
  rw [Zs]
  simp only [YX,if_false,numTs,Nat.add_zero]
 | x::s,p,m,k,f,a,nm,nu,h1,h2,h3=>by
  rw [Zs]
  rw [szTs] at h2
  rw [numTs] at h3
  have e:=tnum_ok x (by omega) (by omega)
  have e':=tnum_loop s (p++[x]) (m+numT x) k f a nm nu (by simpa using h1) (by omega) (by omega)
  rw [← QS] at e'
  have w:W ((p.length:Int)+1)=((p++[x]).length:Int):=mid_W (Sm_of h1)
  have hx:W ((m:Int)+(numT x:Int))=((m+numT x:Nat):Int):=by rw [W_ok (by omega) (by omega)]; omega
  simp only [Yg,if_true,Zo,Ql,e,w,hx,e',numTs,Nat.add_assoc]
end
def fewT (t:Qc):Prop:=szT t≤60∧depT t≤150∧numT t≤600
theorem tFew_ok (t:Qc) (hb:numT t≤szT t * 140737488351232):∃ b,Qbn (t,60)=some b∧(b=true↔fewT t):=by
 unfold Qbn
 simp only [tleft_ok t 60 (by omega) (by omega),Ql]
 by_cases h:szT t≤60
 ·have h0:max ((60:Int) - (szT t:Int)) (-1)≥0:=by omega
  have hn:numT t≤1000000000000000000:=Nat.le_trans hb (Nat.le_trans (Nat.mul_le_mul_right _ h) (by decide))
  have w:W (10 * 60)=600:=by decide
  simp only [h0,if_true,tdep_ok t (by omega),tnum_ok t (by omega) hn,Ql,w]
  by_cases hd:(depT t:Int)≤150
  ·rw [decide_eq_true hd]
   simp only [if_true]
   refine ⟨_,rfl,?_⟩
   unfold fewT
   simp only [decide_eq_true_eq]
   omega
  ·rw [decide_eq_false hd]
   simp only [Bool.false_eq_true,if_false]
   exact ⟨_,rfl,fun h=>(by cases h),fun h=>by unfold fewT at h; omega⟩
 ·have h0:¬ max ((60:Int) - (szT t:Int)) (-1)≥0:=by omega
  simp only [h0,if_false,Ql,Bool.false_eq_true]
  exact ⟨_,rfl,fun h=>(by cases h),fun h'=>by unfold fewT at h'; omega⟩
theorem letter_tot (v:Int):∃ b,Ys v=some b:=by
 unfold Ys
 simp only [ite_som,Ql]
 exact ⟨_,rfl⟩
theorem digit_tot (v:Int):∃ b,Xf v=some b:=by
 unfold Xf
 simp only [ite_som,Ql]
 exact ⟨_,rfl⟩
theorem sidx_ok {b:ByteArray} {i:Nat} (h:i < b.size):∃ v,sidx b (i:Int)=some v:=by
 unfold sidx
 rw [if_pos (by omega)]
 have h2:((i:Int)).toNat < b.data.size:=by have:b.data.size=b.size:=rfl; omega
 rw [Array.getElem?_eq_getElem h2]
 exact ⟨_,rfl⟩
theorem end_tot (s:ByteArray) (hs:s.size≤1000000000000000000):∀ m i:Nat,i+m=s.size→∃ r,ZC (s,(i:Int))=some r
 | 0,i,h=>by
  rw [ZC]
  have:¬ ((i:Int) < (s.size:Int)):=by omega
  simp only [this,if_false,Ql,Bool.false_eq_true]
  exact ⟨_,rfl⟩
 | m+1,i,h=>by
  rw [ZC]
  have h1:((i:Int) < (s.size:Int)):=by omega
  obtain ⟨v,e⟩:=sidx_ok (b:=s) (i:=i) (by omega)
  obtain ⟨b,eb⟩:=letter_tot v
  obtain ⟨c,ec⟩:=digit_tot v
  obtain ⟨r,er⟩:=end_tot s hs m (i+1) (by omega)
  have w:W ((i:Int)+1)=((i+1:Nat):Int):=W_succ (by omega)
  simp only [h1,if_true,e,eb,ec,Ql,w,er,ite_som]
  split
  ·exact ⟨_,rfl⟩
  ·exact ⟨_,rfl⟩
theorem name_tot (s:ByteArray) (hs:s.size≤1000000000000000000):∃ b,Yf s=some b:=by
 unfold Yf
 simp only []
 by_cases h:(s.size:Int) > 0
 ·obtain ⟨v,e⟩:=sidx_ok (b:=s) (i:=0) (by omega)
  simp only [Int.natCast_zero] at e
  obtain ⟨b,eb⟩:=letter_tot v
  obtain ⟨r,er⟩:=end_tot s hs s.size 0 (by omega)
  simp only [Int.natCast_zero] at er
  simp only [h,if_true,e,eb,Ql]
  cases b
  ·simp only [Bool.false_eq_true,if_false]; exact ⟨_,rfl⟩
  ·simp only [if_true,Qbm,er,Ql]; exact ⟨_,rfl⟩
 ·simp only [h,if_false,Ql,Bool.false_eq_true]; exact ⟨_,rfl⟩
def noT:Qc:=⟨0,0,0,ByteArray.empty,[],[]⟩
def axF (a:Int):Prop:=0≤a∧a≤15
def formF (t:Qc):Prop :=
 (t.kind=1∧t.fn=0∧t.axis=-1∧t.name=ByteArray.empty∧t.kids.length=0) ∨
 (t.kind=2∧t.fn=0∧t.axis=-1∧Yf t.name=some true∧t.nums.length=0∧t.kids.length=0) ∨
 (t.kind=3∧t.name=ByteArray.empty∧t.nums.length=0∧t.kids.length=1∧((t.fn=3∧(t.axis=-1∨axF t.axis))∨((t.fn=4∨t.fn=6)∧t.axis=-1))) ∨
 (t.kind=4∧t.name=ByteArray.empty∧t.nums.length=0∧t.kids.length=2∧1≤t.fn∧t.fn≤6∧(t.axis=-1∨(axF t.axis∧(t.fn=3∨t.fn=6)))∧(t.fn=6∨(t.kids.getD 0 noT).kind=1∨(t.kids.getD 0 noT).kind=2))
set_option maxHeartbeats 4000000 in
theorem tnode_ok (t:Qc) (hs:t.name.size≤1000000000000000000):∃ b,QaU t=some b∧(b=true↔formF t):=by
 obtain ⟨k,f,a,nm,nu,ks⟩:=t
 obtain ⟨nb,en⟩:=name_tot nm hs
 unfold QaU
 simp only [ite_som,Ql]
 by_cases h1:k=1
 ·subst h1
  simp only [if_true,ite_som,Ql]
  refine ⟨_,rfl,?_⟩
  simp only [formF,axF]
  by_cases c1:f=0 <;> by_cases c2:a=-1 <;> by_cases c3:nm=ByteArray.empty <;> simp [c1,c2,c3] <;> omega
 ·by_cases h2:k=2
  ·subst h2
   simp only [if_neg h1,if_true,ite_som,Ql,en]
   refine ⟨_,rfl,?_⟩
   simp only [formF,axF,en]
   cases nb <;> by_cases c1:f=0 <;> by_cases c2:a=-1 <;> by_cases c3:nu=[] <;> simp [c1,c2,c3]
  ·by_cases h3:k=3
   ·subst h3
    simp only [if_neg h1,if_neg h2,if_true,ite_som,Ql]
    refine ⟨_,rfl,?_⟩
    simp only [formF,axF]
    by_cases c1:nm=ByteArray.empty <;> by_cases c2:nu=[] <;> by_cases c3:ks.length=1 <;> by_cases c4:f=3 <;> by_cases c5:a=-1 <;> simp [c1,c2,c3,c4,c5] <;> (try omega)
   ·by_cases h4:k=4
    ·subst h4
     simp only [if_neg h1,if_neg h2,if_neg h3,if_true,ite_som,Ql]
     match ks with
     | [x,y] =>
      have i0:idx [x,y] 0=some x:=rfl
      simp only [i0,ite_som,Ql]
      refine ⟨_,rfl,?_⟩
      simp only [formF,axF]
      by_cases c1:nm=ByteArray.empty <;> by_cases c2:nu=[] <;> by_cases c3:f=6 <;> by_cases c4:f=3 <;> by_cases c5:a=-1 <;> simp [c1,c2,c3,c4,c5] <;> (try omega)
     | [] =>
      simp [formF]
     | [x]=>
      simp [formF]
     | x::y::z::r =>
      simp [formF]
      intro _ _ h
      omega
    ·simp only [if_neg h1,if_neg h2,if_neg h3,if_neg h4]
     exact ⟨_,rfl,fun h=>(by cases h),fun h=>by simp only [formF] at h; omega⟩
mutual
def good:Qc→Prop
 | ⟨k,f,a,nm,nu,ks⟩=>formF ⟨k,f,a,nm,nu,ks⟩∧goods ks
def goods:List Qc→Prop
 | []=>True
 | k::ks=>good k∧goods ks
end
def nmOk (n:Nat):Prop:=n≤1000000000000000000
mutual
def namesOk:Qc→Prop
 | ⟨_,_,_,nm,_,ks⟩=>nmOk nm.size∧namesOks ks
def namesOks:List Qc→Prop
 | []=>True
 | k::ks=>namesOk k∧namesOks ks
end
mutual
theorem tnodes_ok:∀ (t:Qc),szT t≤600→namesOk t→∃ b,XN t=some b∧(b=true↔good t)
 | ⟨k,f,a,nm,nu,ks⟩,h,hn=>by
  rw [szT] at h
  rw [namesOk] at hn
  obtain ⟨b,e,hb⟩:=tnode_ok ⟨k,f,a,nm,nu,ks⟩ hn.1
  have hl:=szTs_len ks
  obtain ⟨r,e2,hr⟩:=tnodes_loop ks [] k f a nm nu (by simp; omega) (by omega) hn.2
  simp only [List.nil_append,List.length_nil,Int.natCast_zero] at e2
  rw [XN]
  simp only [e,Ql,good,← hb,← hr]
  cases b with
  | false=>exact ⟨_,rfl,fun h=>(by cases h),fun h=>(by cases h.1)⟩
  | true =>
   simp only [Bool.true_eq_false,if_false,e2,Ql,true_and]
   cases r with
   | inl u=>exact ⟨_,rfl,fun h=>(by cases h),fun h=>(by cases h)⟩
   | inr u=>exact ⟨_,rfl,fun _=>rfl,fun _=>rfl⟩
theorem tnodes_loop:∀ (s p:List Qc) (k f a:Int) (nm:ByteArray) (nu:List Int),(p++s).length≤600→szTs s≤600→namesOks s →
  ∃ r,ZH (⟨k,f,a,nm,nu,p++s⟩,(p.length:Int))=some r∧(r=.inr ()↔goods s)
 | [],p,k,f,a,nm,nu,h1,h2,h3=>by
  rw [ZH]
  simp only [YX,if_false,goods]
  exact ⟨_,rfl,fun _=>trivial,fun _=>rfl⟩
 | x::s,p,k,f,a,nm,nu,h1,h2,h3=>by
  rw [ZH]
  rw [szTs] at h2
  rw [namesOks] at h3
  obtain ⟨b,e,hb⟩:=tnodes_ok x (by omega) h3.1
  obtain ⟨r,e',hr⟩:=tnodes_loop s (p++[x]) k f a nm nu (by simpa using h1) (by omega) h3.2
  rw [← QS] at e'
  have w:W ((p.length:Int)+1)=((p++[x]).length:Int):=mid_W (Sm_of h1)
  simp only [Yg,if_true,Zo,Ql,e,w,goods,← hb,← hr]
  cases b with
  | false=>exact ⟨_,rfl,fun h=>(by cases h),fun h=>(by cases h.1)⟩
  | true=>exact ⟨r,e',fun h=>⟨rfl,h⟩,fun h=>h.2⟩
end
theorem etaT (t:Qc):(⟨t.kind,t.fn,t.axis,t.name,t.nums,t.kids⟩:Qc)=t:=by cases t; rfl
theorem tRight_ok (t:Qc) (h:szT t≤300) (hn:namesOk t):∃ b,Qaq t=some b∧(b=true↔depT t≤100∧good t):=by
 obtain ⟨b,e,hb⟩:=tnodes_ok t (by omega) hn
 unfold Qaq
 simp only [tdep_ok t (by omega),Ql]
 by_cases hd:(depT t:Int)≤100
 ·simp only [hd,if_true,etaT,e,Ql]
  exact ⟨_,rfl,by rw [hb]; exact ⟨fun h=>⟨by omega,h⟩,fun h=>h.2⟩⟩
 ·simp only [hd,if_false]
  exact ⟨_,rfl,fun h=>(by cases h),fun h=>(by omega)⟩
theorem tSmall_ok (t:Qc) (hb:numT t≤szT t * 140737488351232) (hn:namesOk t):∃ b,Qar (t,60)=some b∧(b=true↔fewT t∧depT t≤100∧good t):=by
 obtain ⟨b,e,h⟩:=tFew_ok t hb
 unfold Qar
 simp only [e,Ql]
 cases b with
 | false=>
  simp only [Bool.false_eq_true,if_false]
  exact ⟨_,rfl,fun h=>(by cases h),fun h'=>h.2 h'.1⟩
 | true =>
  obtain ⟨c,e2,h2⟩:=tRight_ok t (by have:=(h.1 rfl).1; omega) hn
  simp only [if_true,etaT,e2,Ql]
  exact ⟨_,rfl,by rw [h2]; exact ⟨fun h'=>⟨h.1 rfl,h'⟩,fun h'=>h'.2⟩⟩
theorem szT_f (t:Qc):szT t=1+szTs t.kids:=by cases t; rw [szT]
theorem numT_f (t:Qc):numT t=t.nums.length+numTs t.kids:=by cases t; rw [numT]
theorem good_f {t:Qc}:good t↔formF t∧goods t.kids:=by cases t; rw [good]
theorem kids1 {t:Qc} (h:t.kids.length=1):∃ k,t.kids=[k]:=by
 match e:t.kids,h with
 | [k],_=>exact ⟨k,rfl⟩
theorem kids2 {t:Qc} (h:t.kids.length=2):∃ l k,t.kids=[l,k]:=by
 match e:t.kids,h with
 | [l,k],_=>exact ⟨l,k,rfl⟩
theorem goods1 {k:Qc}:goods [k]↔good k:=by rw [goods,goods]; simp
theorem goods2 {l k:Qc}:goods [l,k]↔good l∧good k:=by rw [goods,goods,goods]; simp
theorem sz1 (k:Qc):szTs [k]=szT k∧numTs [k]=numT k∧depTs [k]=depT k:=by simp [szTs,numTs,depTs]
theorem sz2 (l k:Qc):szTs [l,k]=szT l+szT k∧numTs [l,k]=numT l+numT k∧depTs [l,k]=max (depT l) (depT k):=by simp [szTs,numTs,depTs]
theorem nq21:¬ (2:Int)=1:=by decide
theorem nq31:¬ (3:Int)=1:=by decide
theorem nq32:¬ (3:Int)=2:=by decide
theorem nq41:¬ (4:Int)=1:=by decide
theorem nq42:¬ (4:Int)=2:=by decide
theorem nq43:¬ (4:Int)=3:=by decide
theorem nq51:¬ (5:Int)=1:=by decide
theorem nq52:¬ (5:Int)=2:=by decide
theorem nq53:¬ (5:Int)=3:=by decide
theorem nq54:¬ (5:Int)=4:=by decide
theorem app_le2 {α:Type} {b:Nat} {l es:List α} (h:l.length+es.length≤100000000) (hb:b≤1000):app b l es=some (l++es):=app_ok (by
 have:(l.length+es.length) * b≤100000000 * 1000:=Nat.mul_le_mul h hb
 unfold room; omega)
theorem etaC (c:Qh):(⟨c.kind,c.shape,c.buffer,c.starts,c.axis,c.amount,c.perm,c.kids⟩:Qh)=c:=by cases c; rfl
def reshC (s:List Int) (c:Qh):Qh:=⟨6,s,0,[],0,0,[],[c]⟩
def seenC (c:Qh) (s:List Int):Qh:=if c.shape=s then c else reshC s c
def winC (r:Qm) (c:Qh):Qh:=⟨2,r.shape,0,r.starts,0,0,[],[seenC c r.right]⟩
def turnC (k:Int) (r:Qm) (c:Qh):Qh:=if r.axis=-1 then c else ⟨k,r.shape,0,[],r.axis,r.amount,[],[c]⟩
def transC (r:Qm) (c:Qh):Qh:=⟨5,r.shape,0,[],0,0,r.perm,[c]⟩
theorem reshaped_ok (c:Qh) (s:List Int):YY (c,s)=some (reshC s c):=by unfold YY reshC; dsimp only; rw [etaC]
theorem seen_okC (c:Qh) (s:List Int) (hs:s.length≤1000):JT (c,s)=some (seenC c s):=by
 unfold JT seenC
 simp only [sEqual_ok' c.shape s (Sm_le hs),Ql,reshaped_ok]
 by_cases h:c.shape=s <;> simp [h]
theorem window_okC (r:Qm) (c:Qh) (hr:r.right.length≤1000):Jn (r,c)=some (winC r c):=by
 unfold Jn winC
 simp only [seen_okC c r.right hr,Ql,etaC]
theorem turned_ok (k:Int) (r:Qm) (c:Qh):Jm (k,r,c)=some (turnC k r c):=by
 unfold Jm turnC
 dsimp only
 split
 ·rfl
 ·rw [etaC]
theorem transposed_ok (r:Qm) (c:Qh):YQ (r,c)=some (transC r c):=by unfold YQ transC; dsimp only; rw [etaC]
def monR (t:Qc) (c:Qh):Qh × Int :=
 if t.fn=3 then (turnC 3 (revR t.axis c.shape).1 c,(revR t.axis c.shape).2) else if t.fn=4 then (transC (flipR c.shape) c,0) else (reshC [cellsR c.shape] c,0)
theorem monad_okC (t:Qc) (c:Qh) (hc:checkR c.shape=0):QaS (t,c)=some (monR t c):=by
 unfold QaS monR
 simp only [Reverse_ok t.axis hc,Flip_ok hc,Ravel_ok hc,Ql,turned_ok,transposed_ok,etaC,reshaped_ok]
 split
 ·rfl
 ·split <;> rfl
def meaR (t:Qc) (c:Qh) (v:List Int):Qh × Int :=
 if t.fn=1 then (winC (takeR v c.shape).1 c,(takeR v c.shape).2) else if t.fn=2 then (winC (dropR v c.shape).1 c,(dropR v c.shape).2)
 else if t.fn=3 then (turnC 4 (rotR v t.axis c.shape).1 c,(rotR v t.axis c.shape).2) else if t.fn=4 then (transC (transR v c.shape).1 c,(transR v c.shape).2)
 else (reshC (reshR v c.shape).1.shape c,(reshR v c.shape).2)
theorem okR_len {r:Qm} (h:okR r):r.left.length≤16∧r.right.length≤16∧r.shape.length≤16:=⟨(checkR_zero.1 h.1).2.1,(checkR_zero.1 h.2.1).2.1,(checkR_zero.1 h.2.2).2.1⟩
theorem monR_right {t:Qc} {c:Qh} (hc:checkR c.shape=0):checkR (monR t c).1.shape=0:=by
 unfold monR
 split
 ·unfold turnC
  split
  ·exact hc
  ·exact (okR_rev hc).2.2
 ·split
  ·exact (okR_flip hc).2.2
  ·exact cells_check hc
theorem meaR_right {t:Qc} {c:Qh} {v:List Int} (hc:checkR c.shape=0):checkR (meaR t c v).1.shape=0:=by
 unfold meaR
 split
 ·exact (okR_take hc).2.2
 split
 ·exact (okR_drop hc).2.2
 split
 ·unfold turnC
  split
  ·exact hc
  ·exact (okR_rot hc).2.2
 split
 ·exact (okR_trans hc).2.2
 ·exact (okR_resh hc).2.2
mutual
def stepsL:Qc→List Qc
 | ⟨k,f,a,nm,nu,ks⟩=>stepsR ks++[⟨k,f,a,nm,nu,ks⟩]
def stepsR:List Qc→List Qc
 | []=>[]
 | k::ks=>stepsR ks++stepsL k
end
theorem stepsL_f (t:Qc):stepsL t=stepsR t.kids++[t]:=by cases t; rw [stepsL]
theorem stepsR_one (k:Qc):stepsR [k]=stepsL k:=by simp [stepsR]
theorem stepsR_two (a k:Qc):stepsR [a,k]=stepsL k++stepsL a:=by simp [stepsR]
theorem stepsR_snoc:∀ (l:List Qc) (k:Qc),stepsR (l++[k])=stepsL k++stepsR l
 | [],k=>by simp [stepsR]
 | x::l,k=>by rw [List.cons_append,stepsR,stepsR_snoc l k,stepsR,List.append_assoc]
mutual
theorem stepsL_len:∀ t:Qc,(stepsL t).length=szT t
 | ⟨_,_,_,_,_,ks⟩=>by rw [stepsL,szT,List.length_append,stepsR_len ks]; simp; omega
theorem stepsR_len:∀ l:List Qc,(stepsR l).length=szTs l
 | []=>rfl
 | k::ks=>by rw [stepsR,szTs,List.length_append,stepsR_len ks,stepsL_len k]; omega
end
def atomsL (l:List Qc):Nat:=l.countP (fun x=>decide (x.kind≤2))
def atomsT (t:Qc):Nat:=atomsL (stepsL t)
theorem atomsL_app (a b:List Qc):atomsL (a++b)=atomsL a+atomsL b:=by simp [atomsL]
theorem atomsT_f (t:Qc):atomsT t=atomsL (stepsR t.kids)+(if t.kind≤2 then 1 else 0):=by
 rw [atomsT,stepsL_f,atomsL_app]
 congr 1
 simp only [atomsL,List.countP_cons,List.countP_nil,decide_eq_true_eq,Nat.zero_add]
instance (v:ByteArray) (N:List ByteArray):Decidable (v∈N):=decidable_of_iff (∃ y∈N,y=v) (by simp)
def addN (N:List ByteArray) (x:Qc):List ByteArray:=if x.kind=2∧x.name ∉ N then N++[x.name] else N
def namesF (N:List ByteArray) (l:List Qc):List ByteArray:=l.foldl addN N
theorem namesF_app (N:List ByteArray) (a b:List Qc):namesF N (a++b)=namesF (namesF N a) b:=by simp [namesF]
theorem addN_not {x:Qc} (h:x.kind≠2) (N:List ByteArray):addN N x=N:=by unfold addN; rw [if_neg (fun h'=>h h'.1)]
theorem addN_two {x:Qc} (h:x.kind=2) (N:List ByteArray):addN N x=if x.name∈N then N else N++[x.name]:=by
 unfold addN
 by_cases hx:x.name∈N
 ·rw [if_neg (fun h'=>h'.2 hx),if_pos hx]
 ·rw [if_pos ⟨h,hx⟩,if_neg hx]
def ixN:List ByteArray→ByteArray→Nat
 | [],_=>0
 | x::l,v=>if x=v then 0 else ixN l v+1
theorem ixN_lt:∀ {l:List ByteArray} {v:ByteArray},v∈l→ixN l v < l.length
 | x::l,v,h=>by
  rw [ixN]
  split
  ·simp
  ·rename_i hx
   have:=ixN_lt ((List.mem_cons.1 h).resolve_left (fun h'=>hx h'.symm))
   simp only [List.length_cons]; omega
theorem ixN_app:∀ {l:List ByteArray} {v:ByteArray} (m:List ByteArray),v∈l→ixN (l++m) v=ixN l v
 | x::l,v,m,h=>by
  rw [List.cons_append,ixN,ixN]
  split
  ·rfl
  ·rename_i hx
   rw [ixN_app m ((List.mem_cons.1 h).resolve_left (fun h'=>hx h'.symm))]
theorem ixN_snoc:∀ {l:List ByteArray} {v:ByteArray},v ∉ l→ixN (l++[v]) v=l.length
 | [],v,_=>by rw [List.nil_append,ixN,if_pos rfl]; rfl
 | x::l,v,h=>by
  rw [List.cons_append,ixN,if_neg (fun h'=>h (by rw [h']; exact List.mem_cons_self ..)),ixN_snoc (fun h'=>h (List.mem_cons_of_mem _ h'))]
  rfl
structure InvS (Z:ByteArray→Prop) (N:List ByteArray) (S:List Qg):Prop where
 met:∀ s∈S,s.name≠ByteArray.empty→s.name∈N
 has:∀ v∈N,¬ Z v→∃ s∈S,s.name=v
 once:S.Pairwise (fun a b=>b.name≠ByteArray.empty→a.name≠b.name)
 order:S.Pairwise (fun a b=>a.name≠ByteArray.empty→b.name≠ByteArray.empty→¬ Z b.name→ixN N a.name < ixN N b.name)
theorem InvS.nil (Z:ByteArray→Prop):InvS Z [] []:=⟨fun _ h=>(nomatch h),fun _ h=>(nomatch h),List.Pairwise.nil,List.Pairwise.nil⟩
theorem InvS.grow {Z:ByteArray→Prop} {N:List ByteArray} {S:List Qg} (h:InvS Z N S) (v:ByteArray) (hv:Z v∨∃ s∈S,s.name=v):InvS Z (N++[v]) S:=by
 refine ⟨fun s hs hn=>List.mem_append_left _ (h.met s hs hn),fun w hw hz=>?_,h.once,?_⟩
 ·rcases List.mem_append.1 hw with hw|hw
  ·exact h.has w hw hz
  ·rw [List.mem_singleton.1 hw] at hz ⊢
   exact hv.resolve_left hz
 ·refine List.Pairwise.imp_of_mem (fun {a b} ha hb hab na nb zb=>?_) h.order
  rw [ixN_app _ (h.met a ha na),ixN_app _ (h.met b hb nb)]
  exact hab na nb zb
theorem InvS.lit {Z:ByteArray→Prop} {N:List ByteArray} {S:List Qg} (h:InvS Z N S) (a:Qw):InvS Z N (S++[⟨ByteArray.empty,a⟩]):=by
 refine ⟨fun s hs hn=>?_,fun w hw hz=>?_,?_,?_⟩
 ·rcases List.mem_append.1 hs with hs|hs
  ·exact h.met s hs hn
  ·rw [List.mem_singleton.1 hs] at hn; exact absurd rfl hn
 ·obtain ⟨s,hs,e⟩:=h.has w hw hz
  exact ⟨s,List.mem_append_left _ hs,e⟩
 ·exact List.pairwise_append.2 ⟨h.once,List.pairwise_singleton _ _,fun x _ y hy hn=>by rw [List.mem_singleton.1 hy] at hn; exact absurd rfl hn⟩
 ·exact List.pairwise_append.2 ⟨h.order,List.pairwise_singleton _ _,fun x _ y hy _ hn=>by rw [List.mem_singleton.1 hy] at hn; exact absurd rfl hn⟩
theorem InvS.read {Z:ByteArray→Prop} {N:List ByteArray} {S:List Qg} (h:InvS Z N S) {x:Qc} (hk:x.kind=2) (hn:x.name≠ByteArray.empty) (a:Qw) :
  InvS Z (addN N x) (if ∃ s∈S,s.name=x.name then S else S++[⟨x.name,a⟩]):=by
 rw [addN_two hk]
 by_cases hS:∃ s∈S,s.name=x.name
 ·rw [if_pos hS]
  split
  ·exact h
  ·exact h.grow _ (Or.inr hS)
 ·rw [if_neg hS]
  have tail:∀ N',(∀ v∈N,v∈N')→(∀ v∈N',v∈N∨v=x.name)→x.name∈N'→(∀ v∈N,ixN N' v=ixN N v)→(¬ Z x.name→ixN N' x.name=N.length)→InvS Z N' (S++[⟨x.name,a⟩]):=fun N' i1 i2 i3 i4 i5=>by
   refine ⟨fun s hs hn=>?_,fun w hw hz=>?_,?_,?_⟩
   ·rcases List.mem_append.1 hs with hs|hs
    ·exact i1 _ (h.met s hs hn)
    ·rw [List.mem_singleton.1 hs]; exact i3
   ·rcases i2 w hw with hw|hw
    ·obtain ⟨s,hs,e⟩:=h.has w hw hz
     exact ⟨s,List.mem_append_left _ hs,e⟩
    ·exact ⟨_,List.mem_append_right _ (List.mem_singleton.2 rfl),hw.symm⟩
   ·exact List.pairwise_append.2 ⟨h.once,List.pairwise_singleton _ _,fun y hy z hz _ e=>hS ⟨y,hy,by rw [List.mem_singleton.1 hz] at e; exact e⟩⟩
   ·refine List.pairwise_append.2 ⟨List.Pairwise.imp_of_mem (fun {p q} hp hq hpq np nq zq=>?_) h.order,List.pairwise_singleton _ _,fun y hy z hz ny _ zz=>?_⟩
    ·rw [i4 _ (h.met p hp np),i4 _ (h.met q hq nq)]
     exact hpq np nq zq
    ·rw [List.mem_singleton.1 hz] at zz ⊢
     rw [i4 _ (h.met y hy ny),i5 zz]
     exact ixN_lt (h.met y hy ny)
  by_cases hN:x.name∈N
  ·rw [if_pos hN]
   exact tail N (fun _ h=>h) (fun _ h=>Or.inl h) hN (fun _ _=>rfl) (fun hz=>absurd (h.has _ hN hz) hS)
  ·rw [if_neg hN]
   exact tail _ (fun _ h=>List.mem_append_left _ h) (fun v hv=>(List.mem_append.1 hv).imp_right (fun h=>List.mem_singleton.1 h)) (List.mem_append_right _ (List.mem_singleton.2 rfl)) (fun v hv=>ixN_app _ hv) (fun _=>ixN_snoc hN)
theorem InvS.measure {Z:ByteArray→Prop} {N:List ByteArray} {S:List Qg} (h:InvS Z N S) {x:Qc} (hz:x.kind=2→Z x.name):InvS Z (addN N x) S:=by
 unfold addN
 split
 ·rename_i hx
  exact h.grow _ (Or.inl (hz hx.1))
 ·exact h
mutual
def mesT (v:ByteArray):Qc→Prop
 | ⟨k,f,_,_,_,ks⟩=>(k=4∧f≠6∧∃ x∈ks.head?,x.name=v)∨mesTs v ks
def mesTs (v:ByteArray):List Qc→Prop
 | []=>False
 | k::ks=>mesT v k∨mesTs v ks
end
theorem mesT_f (v:ByteArray) (t:Qc):mesT v t↔(t.kind=4∧t.fn≠6∧∃ x∈t.kids.head?,x.name=v)∨mesTs v t.kids:=by cases t; rw [mesT]
theorem mesTs_mem {v:ByteArray}:∀ {l:List Qc} {x:Qc},x∈l→mesT v x→mesTs v l
 | y::l,x,h,hv=>by
  rw [mesTs]
  rcases List.mem_cons.1 h with rfl|h
  ·exact Or.inl hv
  ·exact Or.inr (mesTs_mem h hv)
theorem szTs_mem:∀ {l:List Qc} {x:Qc},x∈l→szT x≤szTs l
 | y::l,x,h=>by
  rw [szTs]
  rcases List.mem_cons.1 h with rfl|h
  ·omega
  ·have:=szTs_mem h; omega
theorem goods_mem:∀ {l:List Qc} {x:Qc},goods l→x∈l→good x
 | y::l,x,h,hx=>by
  rw [goods] at h
  rcases List.mem_cons.1 hx with rfl|hx
  ·exact h.1
  ·exact goods_mem h.2 hx
theorem steps_is:∀ (n:Nat) (t:Qc),szT t≤n→n≤600→Xi t=some (stepsL t)
 | 0,t,h,_=>by have:=szT_pos t; omega
 | n+1,t,h,hn=>by
  have hsz:=szT_f t
  have hlen:=szTs_len t.kids
  have loop:∀ (m:Nat) (acc:List Qc),m≤t.kids.length→acc.length+szTs (t.kids.take m)≤600 →
    ZG (t,acc,(m:Int) - 1)=some (acc++stepsR (t.kids.take m)):=by
   intro m
   induction m with
   | zero =>
    intro acc _ _
    rw [ZG]
    have:¬ (((0:Nat):Int) - 1≥0):=by omega
    simp only [this,if_false]
    simp [stepsR]
   | succ m ih =>
    intro acc hm ha
    have hml:m < t.kids.length:=hm
    have htk:t.kids.take (m+1)=t.kids.take m++[t.kids[m]]:=List.take_succ_eq_append_getElem hml
    have hs1:szTs (t.kids.take (m+1))=szTs (t.kids.take m)+szT t.kids[m]:=by rw [htk,szTs_app]; simp [szTs]
    have hall:szTs (t.kids.take (m+1))≤szTs t.kids:=by
     have:=szTs_app (t.kids.take (m+1)) (t.kids.drop (m+1))
     rw [List.take_append_drop] at this; omega
    have e:=steps_is n t.kids[m] (by omega) (by omega)
    have hl:=stepsL_len t.kids[m]
    have h1:(((m+1:Nat):Int) - 1≥0):=by omega
    have h2:((m+1:Nat):Int) - 1=(m:Int):=by omega
    have eo:=ih (acc++stepsL t.kids[m]) (by omega) (by simp; omega)
    rw [ZG]
    simp only [h1,if_true]
    rw [h2,W_ok (n:=(m:Int) - 1) (by omega) (by omega)]
    simp only [idx_ok hml,Ql,e,app_le2 (b:=88) (l:=acc) (es:=stepsL t.kids[m]) (by omega) (by omega),eo]
    rw [htk,stepsR_snoc,List.append_assoc]
  have eo:=loop t.kids.length [] (Nat.le_refl _) (by rw [List.take_length]; simp; omega)
  rw [List.take_length,List.nil_append] at eo
  have hl:=stepsR_len t.kids
  rw [Xi]
  have w:W ((t.kids.length:Int) - 1)=(t.kids.length:Int) - 1:=W_ok (by omega) (by omega)
  simp only [w,eo,Ql,app_le2 (b:=88) (l:=stepsR t.kids) (es:=[t]) (by simp; omega) (by omega)]
  rw [stepsL_f]
theorem in_L1is (nm:ByteArray):∀ (s p:List ByteArray),(p++s).length≤1000→Xh (p++s,nm,(p.length:Int))=some (if nm∈s then .inl () else .inr ())
 | [],p,h=>by rw [Xh]; simp only [YX,if_false,List.not_mem_nil]
 | x::s,p,h=>by
  have ih:=in_L1is nm s (p++[x]) (by rw [← QS]; exact h)
  rw [← QS] at ih
  rw [Xh]
  simp only [Yg,if_true,Zo,Ql,mid_W (Sm_le h),ih]
  by_cases hx:x=nm
  ·rw [if_pos hx,if_pos (by rw [hx]; exact List.mem_cons_self ..)]
  ·rw [if_neg hx]
   by_cases hs:nm∈s
   ·rw [if_pos hs,if_pos (List.mem_cons_of_mem _ hs)]
   ·rw [if_neg hs,if_neg (fun h=>(List.mem_cons.1 h).elim (fun h=>hx h.symm) hs)]
theorem in_is (nm:ByteArray) (l:List ByteArray) (h:l.length≤1000):QbM (nm,l)=some (decide (nm∈l)):=by
 have e:=in_L1is nm l [] h
 simp only [List.nil_append,List.length_nil,Int.natCast_zero] at e
 unfold QbM
 simp only [e,Ql]
 by_cases hx:nm∈l <;> simp [hx]
theorem names_L1is (t:Qc):∀ (s p:List Qc) (acc:List ByteArray),(p++s).length≤1000→acc.length≤p.length→Z4 (p++s,t,acc,(p.length:Int))=some (namesF acc s)
 | [],p,acc,h,_=>by rw [Z4]; simp only [YX,if_false]; rfl
 | x::s,p,acc,h,ha=>by
  have ih:=fun acc' (h':acc'.length≤p.length+1)=>names_L1is t s (p++[x]) acc' (by rw [← QS]; exact h) (by simpa using h')
  simp only [← QS] at ih
  have hp:p.length≤1000:=by simp at h; omega
  have eb:=in_is x.name acc (by omega)
  have e1:=ih acc (by omega)
  have e2:=ih (acc++[x.name]) (by simp; omega)
  rw [Z4]
  simp only [Yg,if_true,Zo,Ql,mid_W (Sm_le h),eb,e1,app_le2 (b:=16) (l:=acc) (es:=[x.name]) (by simp; omega) (by omega),e2]
  show _=some (namesF (addN acc x) s)
  by_cases hk:x.kind=2
  ·rw [addN_two hk]
   by_cases hm:x.name∈acc
   ·simp [hk,hm]
   ·simp [hk,hm]
  ·rw [addN_not hk]
   simp [hk]
theorem names_is {t:Qc} (h:szT t≤600):Qap t=some (namesF [] (stepsL t)):=by
 have e:=steps_is 600 t h (by omega)
 have hl:=stepsL_len t
 have eo:=names_L1is t (stepsL t) [] [] (by simp; omega) (by simp)
 simp only [List.nil_append,List.length_nil,Int.natCast_zero] at eo
 unfold Qap
 simp only [e,Ql,eo]
theorem addN_len (N:List ByteArray) (x:Qc):(addN N x).length≤N.length+1:=by unfold addN; split <;> simp
theorem namesF_len:∀ (l:List Qc) (N:List ByteArray),(namesF N l).length≤N.length+l.length
 | [],N=>Nat.le_refl _
 | x::l,N=>by
  have:=namesF_len l (addN N x)
  have:=addN_len N x
  show (namesF (addN N x) l).length≤_
  simp only [List.length_cons]; omega
theorem sidx_dec {s:ByteArray} {i:Nat} {v:Int} (hv:sidx s (i:Int)=some v) (ha:v < 128):Utf8.decode s i=(v.toNat,1)∧0≤v:=by
 unfold sidx at hv
 rw [if_pos (by omega)] at hv
 simp only [Int.toNat_natCast,Option.map_eq_some_iff] at hv
 obtain ⟨b,hb,rfl⟩:=hv
 obtain ⟨h,rfl⟩:=Array.getElem?_eq_some_iff.1 hb
 exact ⟨decode_ascii s i h (by show (s.data[i]).toNat < 128; omega),by omega⟩
theorem letter_lt {v:Int} (h:Ys v=some true):v < 128:=by
 unfold Ys at h
 simp only [ite_som,Ql,Option.some.injEq] at h
 by_cases h1:v < 128
 ·exact h1
 ·have e1:¬ v≤90:=by omega
  have e2:¬ v≤122:=by omega
  have e3:¬ v=95:=by omega
  simp [e1,e2,e3] at h
theorem digit_lt {v:Int} (h:Xf v=some true):v < 128:=by
 unfold Xf at h
 simp only [ite_som,Option.some.injEq] at h
 by_cases h1:v < 128
 ·exact h1
 ·have e1:¬ v≤57:=by omega
  simp [e1] at h
theorem lex_letter (v:Int):J7 v=Ys v:=rfl
theorem lex_digit (v:Int):Qb0 v=Xf v:=rfl
theorem span_end (s:ByteArray) (hs:s.size≤1000000000000000000):∀ m i:Nat,i+m=s.size→ZC (s,(i:Int))=some (s.size:Int)→Zh (s,i)=some (.inr s.size)
 | 0,i,h,_=>by
  rw [Zh]
  have:¬ i < s.size:=by omega
  simp only [this,if_false]
  rw [Nat.add_zero] at h; rw [h]
 | m+1,i,h,he=>by
  have h1:((i:Int) < (s.size:Int)):=by omega
  obtain ⟨v,e⟩:=sidx_ok (b:=s) (i:=i) (by omega)
  obtain ⟨b,eb⟩:=letter_tot v
  obtain ⟨c,ec⟩:=digit_tot v
  have w:W ((i:Int)+1)=((i+1:Nat):Int):=W_succ (by omega)
  rw [ZC] at he
  simp only [h1,if_true,e,eb,ec,Ql,w] at he
  have hin:Qbl v=some true∧v < 128∧ZC (s,((i+1:Nat):Int))=some (s.size:Int):=by
   unfold Qbl
   simp only [lex_letter,lex_digit,eb,ec,Ql]
   cases b with
   | true=>exact ⟨rfl,letter_lt eb,he⟩
   | false=>cases c with
    | true=>exact ⟨rfl,digit_lt ec,he⟩
    | false =>
     have:(some (i:Int))=some (s.size:Int):=he
     rw [Option.some.injEq] at this
     omega
  obtain ⟨q1,q2,q3⟩:=hin
  obtain ⟨hd,h0⟩:=sidx_dec e q2
  rw [Zh]
  have hv:((v.toNat:Nat):Int)=v:=by omega
  simp only [show i < s.size by omega,if_true,hd,hv,q1,Ql,Bool.true_eq_false,if_false]
  exact span_end s hs m (i+1) (by omega) q3
theorem lexName_ok {s:ByteArray} (hs:s.size≤1000000000000000000) (h:Yf s=some true):QbL s=some true∧s≠ByteArray.empty:=by
 have hp:(s.size:Int) > 0:=by
  by_cases hp:(s.size:Int) > 0
  ·exact hp
  ·unfold Yf at h; simp only [hp,if_false,Ql,Bool.false_eq_true] at h; cases h
 obtain ⟨v,e⟩:=sidx_ok (b:=s) (i:=0) (by omega)
 obtain ⟨b,eb⟩:=letter_tot v
 have e':=e
 simp only [Int.natCast_zero] at e'
 unfold Yf Qbm at h
 simp only [hp,if_true,e',eb,Ql] at h
 cases b with
 | false=>simp at h
 | true =>
  simp only [if_true] at h
  cases hE:ZC (s,0) with
  | none=>rw [hE] at h; cases h
  | some r =>
   rw [hE] at h
   simp only [Ql,Option.some.injEq,beq_iff_eq] at h
   subst h
   have hsp:=span_end s hs s.size 0 (by omega) (by simpa using hE)
   obtain ⟨hd,h0⟩:=sidx_dec e (letter_lt eb)
   have hv:((v.toNat:Nat):Int)=v:=by omega
   have hl:J7 v=some true:=eb
   constructor
   ·unfold QbL Qcz XC Qba
    simp only [show 0 < s.size by omega,if_true,hd,hv,hl,Ql,Bool.true_eq_false,if_false,hsp,hp,beq_self_eq_true]
   ·intro h0; rw [h0] at hp; exact absurd hp (by decide)
theorem ite_e {c:Prop} [Decidable c] {α:Type} {a b:α} {P:α→Prop} (ha:c→P a) (hb:¬ c→P b):P (if c then a else b):=by
 split
 ·exact ha ‹_›
 ·exact hb ‹_›
theorem check5 (a:Qw) (h:a.shape.length≤1000):∃ e,Qao a=some e∧(e=0→checkR a.shape=0∧(a.data.length:Int)=prodI a.shape):=by
 unfold Qao
 dsimp only
 simp only [Check_ok a.shape (Sm_le h),Cells_ok a.shape (Sm_le h),Ql,ite_som]
 by_cases hc:checkR a.shape=0
 ·have hcc:cellsR a.shape=prodI a.shape:=by rw [cellsR,if_pos hc]
  simp only [hc,if_true,hcc]
  by_cases hd:(a.data.length:Int)=prodI a.shape
  ·exact ⟨_,rfl,fun _=>⟨trivial,hd⟩⟩
  ·have:((a.data.length:Int) != prodI a.shape)=true:=by simp [hd]
   simp only [this,if_true]
   exact ⟨_,rfl,fun q=>absurd q (by decide)⟩
 ·simp only [hc,if_false,Bool.false_eq_true]
  exact ⟨_,rfl,fun q=>absurd q hc⟩
theorem inl_R {P:Prop}:∃ r,(some (Sum.inl ()):Option (Unit ⊕ Unit))=some r∧(r=.inr ()→P):=⟨_,rfl,fun h=>by cases h⟩
def bnd1 (b:Qa):Prop:=b.value.shape.length≤100∧b.value.data.length≤300∧b.name.size≤100
theorem few_L1 (l:List Qa) (hl:l.length≤1000):∀ (s p:List Qa),l=p++s→∃ r,YJ (l,300,(p.length:Int))=some r∧(r=.inr ()→∀ b∈s,bnd1 b)
 | [],p,e=>by
  rw [YJ]
  have:¬ ((p.length:Int) < (l.length:Int)):=by rw [e]; simp
  rw [if_neg this]
  exact ⟨_,rfl,fun _ b hb=>by cases hb⟩
 | x::s,p,e=>by
  rw [YJ]
  have h1:((p.length:Int) < (l.length:Int)):=by rw [e]; exact Yg
  have hi:idx l (p.length:Int)=some x:=by rw [e]; exact Zo
  have hw:W ((p.length:Int)+1)=((p++[x]).length:Int):=by
   have:=hl; rw [e] at this; exact mid_W (Sm_le this)
  obtain ⟨r,er,hr⟩:=few_L1 l hl s (p++[x]) (by rw [e]; simp)
  simp only [h1,if_true,hi,Ql,Qb1,ite_som,hw]
  by_cases hq:bnd1 x
  ·obtain ⟨q1,q2,q3⟩:=hq
   refine ite_e (P:=fun (o:Option (Unit ⊕ Unit))=>∃ r,o=some r∧(r=.inr ()→∀ b∈x::s,bnd1 b)) (fun _=>inl_R) (fun _=>⟨r,er,fun h b hb=>?_⟩)
   rcases List.mem_cons.1 hb with rfl|hb
   ·exact ⟨q1,q2,q3⟩
   ·exact hr h b hb
  ·have hA:(if (if (x.value.shape.length:Int)≤100 then decide ((x.value.data.length:Int)≤300) else false)=false then true else decide ((x.name.size:Int) > 100))=true:=by
    by_cases a1:(x.value.shape.length:Int)≤100
    ·rw [if_pos a1]
     by_cases a2:(x.value.data.length:Int)≤300
     ·rw [decide_eq_true a2,if_neg (by decide),decide_eq_true_eq]
      by_cases a3:(x.name.size:Int) > 100
      ·exact a3
      ·exact absurd ⟨by omega,by omega,by omega⟩ hq
     ·rw [decide_eq_false a2,if_pos rfl]
    ·rw [if_neg a1,if_pos rfl]
   rw [if_pos hA]
   exact ⟨_,rfl,fun h=>by cases h⟩
theorem Few_is (l:List Qa):∃ b,Qbo (l,300)=some b∧(b=true→l.length≤12∧∀ b∈l,bnd1 b):=by
 unfold Qbo
 by_cases h12:(l.length:Int) > 12
 ·exact ⟨false,by simp [h12],fun h=>by cases h⟩
 ·obtain ⟨r,er,hr⟩:=few_L1 l (by omega) l [] rfl
  simp only [List.length_nil,Int.natCast_zero] at er
  simp only [h12,if_false,er,Ql]
  cases r with
  | inl u=>exact ⟨false,rfl,fun h=>by cases h⟩
  | inr u=>exact ⟨true,rfl,fun _=>⟨by omega,hr rfl⟩⟩
theorem right_L2 (l:List Qa) (k:Nat) (hk:k < l.length) (hl:l.length≤1000):∀ m j:Nat,j+m=k→∃ r,Yk ((k:Int),l,(j:Int))=some r∧(r=.inr ()→∀ i,j≤i→(h:i < k)→l[i].name≠l[k].name)
 | 0,j,h=>by
  rw [Yk]
  have:¬ ((j:Int) < (k:Int)):=by omega
  rw [if_neg this]
  exact ⟨_,rfl,fun _ i h1 h2=>by omega⟩
 | m+1,j,h=>by
  rw [Yk]
  have h1:((j:Int) < (k:Int)):=by omega
  have hi:idx l (j:Int)=some l[j]:=idx_ok (by omega)
  have hi2:idx l (k:Int)=some l[k]:=idx_ok hk
  have w:W ((j:Int)+1)=((j+1:Nat):Int):=W_succ (by omega)
  simp only [h1,if_true,hi,hi2,Ql,w]
  obtain ⟨r,er,hr⟩:=right_L2 l k hk hl m (j+1) (by omega)
  refine ite_e (P:=fun (o:Option (Unit ⊕ Unit))=>∃ r,o=some r∧(r=.inr ()→∀ i,j≤i→(h:i < k)→l[i].name≠l[k].name)) (fun _=>⟨_,rfl,fun h=>by cases h⟩) (fun hne=>⟨r,er,fun hr' i i1 i2=>?_⟩)
  by_cases hij:i=j
  ·subst hij; exact hne
  ·exact hr hr' i (by omega) i2
def bnd2 (b:Qa):Prop:=checkR b.value.shape=0∧(b.value.data.length:Int)=prodI b.value.shape∧Yf b.name=some true
theorem right_L1 (l:List Qa) (hl:l.length≤1000) (hb:∀ b∈l,bnd1 b):∀ (s p:List Qa),l=p++s→∃ r,Yj (l,(p.length:Int))=some r∧(r=.inr ()→∀ k,p.length≤k→(h:k < l.length)→bnd2 l[k]∧∀ i (hi:i < k),l[i].name≠l[k].name)
 | [],p,e=>by
  rw [Yj]
  have:¬ ((p.length:Int) < (l.length:Int)):=by rw [e]; simp
  rw [if_neg this]
  exact ⟨_,rfl,fun _ k h1 h2=>by omega⟩
 | x::s,p,e=>by
  rw [Yj]
  have h1:((p.length:Int) < (l.length:Int)):=by rw [e]; exact Yg
  have hi:idx l (p.length:Int)=some x:=by rw [e]; exact Zo
  have hw:W ((p.length:Int)+1)=((p++[x]).length:Int):=by
   have:=hl; rw [e] at this; exact mid_W (Sm_le this)
  obtain ⟨r,er,hr⟩:=right_L1 l hl hb s (p++[x]) (by rw [e]; simp)
  obtain ⟨q1,q2,q3⟩:=hb x (by rw [e]; simp)
  obtain ⟨nb,en⟩:=name_tot x.name (by omega)
  obtain ⟨ce,ec,hce⟩:=check5 x.value (by omega)
  have hpl:p.length < l.length:=by omega
  have hx:l[p.length]=x:=by
   have:=idx_ok hpl; rw [hi] at this; exact (Option.some.inj this).symm
  obtain ⟨r2,e2,hr2⟩:=right_L2 l p.length hpl hl p.length 0 (by omega)
  simp only [Int.natCast_zero] at e2
  simp only [h1,if_true,hi,Ql,en,ec,e2,ite_som,hw]
  refine ite_e (P:=fun (o:Option (Unit ⊕ Unit))=>∃ r,o=some r∧(r=.inr ()→∀ k,p.length≤k→(h:k < l.length)→bnd2 l[k]∧∀ i (hi:i < k),l[i].name≠l[k].name)) (fun _=>inl_R) (fun hA=>?_)
  have hc0:ce=0∧nb=true:=by
   cases nb with
   | false=>exact absurd rfl hA
   | true =>
    by_cases q:ce=0
    ·exact ⟨q,rfl⟩
    ·exfalso; apply hA; simp [q]
  obtain ⟨hc0,rfl⟩:=hc0
  cases r2 with
  | inl u=>exact ⟨_,rfl,fun h=>by cases h⟩
  | inr u =>
   refine ⟨r,er,fun h k k1 k2=>?_⟩
   by_cases hk:k=p.length
   ·subst hk
    exact ⟨by rw [hx]; exact ⟨(hce hc0).1,(hce hc0).2,en⟩,fun i hi=>hr2 rfl i (Nat.zero_le _) hi⟩
   ·exact hr h k (by simp; omega) k2
def rightL (l:List Qa):Prop:=(∀ b∈l,bnd2 b)∧l.Pairwise (fun a b=>a.name≠b.name)
theorem Right_is (l:List Qa) (hl:l.length≤1000) (hb:∀ b∈l,bnd1 b):∃ b,Qas l=some b∧(b=true→rightL l):=by
 obtain ⟨r,er,hr⟩:=right_L1 l hl hb l [] rfl
 simp only [List.length_nil,Int.natCast_zero] at er
 unfold Qas
 simp only [er,Ql]
 cases r with
 | inl u=>exact ⟨false,rfl,fun h=>by cases h⟩
 | inr u =>
  refine ⟨true,rfl,fun _=>⟨fun b hb=>?_,List.pairwise_iff_getElem.2 fun i j h1 h2 hij=>(hr rfl j (Nat.zero_le _) h2).2 i hij⟩⟩
  obtain ⟨k,hk,rfl⟩:=List.mem_iff_getElem.1 hb
  exact (hr rfl k (Nat.zero_le _) hk).1
def smOf:List Qa→Nat→List (ByteArray × Int)
 | [],_=>[]
 | b::l,k=>(b.name,(k:Int))::smOf l (k+1)
theorem smOf_none {nm:ByteArray}:∀ {l:List Qa} (k:Nat),(∀ b∈l,b.name≠nm)→getS (smOf l k) nm=none
 | [],_,_=>rfl
 | b::l,k,h=>by
  rw [smOf,getS,if_neg (fun e=>h b (List.mem_cons_self ..) e.symm)]
  exact smOf_none (k+1) (fun x hx=>h x (List.mem_cons_of_mem _ hx))
theorem smOf_get {nm:ByteArray}:∀ (l:List Qa) (k:Nat),getS (smOf l k) nm=none∧(∀ b∈l,b.name≠nm)∨∃ i,∃ h:i < l.length,getS (smOf l k) nm=some ((k+i:Nat):Int)∧l[i].name=nm
 | [],_=>Or.inl ⟨rfl,fun _ h=>by cases h⟩
 | b::l,k=>by
  by_cases e:nm=b.name
  ·exact Or.inr ⟨0,by simp,by rw [smOf,getS,if_pos e]; rfl,e.symm⟩
  ·rcases smOf_get l (k+1) with ⟨h1,h2⟩|⟨i,h,h1,h2⟩
   ·refine Or.inl ⟨by rw [smOf,getS,if_neg e]; exact h1,fun x hx=>?_⟩
    rcases List.mem_cons.1 hx with rfl|hx
    ·exact fun h=>e h.symm
    ·exact h2 x hx
   ·refine Or.inr ⟨i+1,by simp only [List.length_cons]; omega,?_,by simpa using h2⟩
    rw [smOf,getS,if_neg e,h1]
    congr 2; omega
theorem smOf_set {x:Qa}:∀ (l:List Qa) (k:Nat),(∀ b∈l,b.name≠x.name)→setS (smOf l k) x.name ((k+l.length:Nat):Int)=smOf (l++[x]) k
 | [],k,_=>rfl
 | b::l,k,h=>by
  have ih:=smOf_set l (k+1) (fun y hy=>h y (List.mem_cons_of_mem _ hy))
  rw [List.cons_append,smOf,smOf,setS,if_neg (fun e=>h b (List.mem_cons_self ..) e.symm),← ih]
  simp only [List.length_cons]
  congr 3; omega
theorem copied_is (l:List Int) (hl:l.length≤1000):Xo l=some l∧Yh l=some l:=by
 have hcc:cpM (List.replicate l.length (0:Int)) l=l:=by unfold cpM; simp
 have hm:makeM 8 (l.length:Int) (0:Int)=some (List.replicate l.length 0):=by
  have hr:(1000:Nat) * 8≤room:=by decide +kernel
  have:((l.length:Int) * 8≤(room:Int)):=by omega
  simp [makeM,this]; omega
 have hg:l.length=(List.replicate l.length (0:Int)).length:=by simp
 constructor
 ·unfold Xo
  simp only [hm,Ql,hcc]
  rw [YI,if_pos hg]; rfl
 ·unfold Yh
  simp only [hm,Ql,hcc]
  rw [YI,if_pos hg]; rfl
theorem Copy_is {a:Qw} (h1:a.shape.length≤1000) (h2:a.data.length≤1000):XB a=some a:=by
 unfold XB
 simp only [(copied_is _ h1).1,(copied_is _ h2).2,Ql]
theorem aCheck_is {a:Qw} (h:checkR a.shape=0) (hd:(a.data.length:Int)=prodI a.shape):Xe a=some 0:=by
 have hs:a.shape.length≤1000:=by have:=(checkR_zero.1 h).2.1; omega
 have hc:cellsR a.shape=prodI a.shape:=by rw [cellsR,if_pos h]
 unfold Xe
 simp only [shapeCheck_ok _ (Sm_le hs),shapeCells_ok _ (Sm_le hs),h,hc,hd,Ql,ne_eq,not_true_eq_false,if_false]
def okL (l:List Qa):Prop:=l.length≤12∧(∀ b∈l,bnd1 b)∧rightL l
theorem envRight_is {b:Qa} (h1:bnd1 b) (h2:bnd2 b):Qbk b=some true:=by
 unfold Qbk
 have e:=(lexName_ok (s:=b.name) (by have:=h1.2.2; omega) h2.2.2).1
 have e2:Xe (⟨b.value.shape,b.value.data⟩:Qw)=some 0:=aCheck_is (a:=b.value) h2.1 h2.2.1
 simp only [e,Ql,if_true,e2]
 rfl
theorem envCopied_is {b:Qa} (h1:bnd1 b):QaT b=some b:=by
 unfold QaT
 have e2:XB (⟨b.value.shape,b.value.data⟩:Qw)=some b.value:=Copy_is (a:=b.value) (by have:=h1.1; show _≤1000; omega) (by have:=h1.2.1; show _≤1000; omega)
 simp only [e2,Ql]
theorem New_L1 {l:List Qa} (hl:okL l):∀ (s p:List Qa),l=p++s→ZX (l,smOf p 0,p,(p.length:Int))=some (.inr (smOf l 0,l))
 | [],p,h=>by
  rw [ZX]
  have:¬ ((p.length:Int) < (l.length:Int)):=by rw [h]; simp
  rw [if_neg this]
  rw [List.append_nil] at h; rw [h]
 | x::s,p,h=>by
  have ih:=New_L1 hl s (p++[x]) (by rw [h]; simp)
  rw [ZX]
  have h1:((p.length:Int) < (l.length:Int)):=by rw [h]; exact Yg
  have hi:idx l (p.length:Int)=some x:=by rw [h]; exact Zo
  have h12:=hl.1
  have hpl:p.length+1≤12:=by rw [h] at h12; simp at h12; omega
  have hw:W ((p.length:Int)+1)=((p++[x]).length:Int):=by
   have:l.length≤1000:=by omega
   rw [h] at this; exact mid_W (Sm_le this)
  have hx:x∈l:=by rw [h]; simp
  have hp:∀ y∈p,y.name≠x.name:=by
   have:=hl.2.2.2; rw [h] at this
   intro y hy
   exact (List.pairwise_append.1 this).2.2 y hy x (List.mem_cons_self ..)
  have hlk:lookS (smOf p 0) x.name=(0,false):=by rw [lookS,smOf_none 0 hp]; rfl
  have hst:setS (smOf p 0) x.name (p.length:Int)=smOf (p++[x]) 0:=by
   have:=smOf_set p 0 hp; rwa [Nat.zero_add] at this
  simp only [h1,if_true,hi,Ql,Y5,hlk,Bool.false_eq_true,if_false,envRight_is (hl.2.1 x hx) (hl.2.2.1 x hx),Bool.not_true,envCopied_is (hl.2.1 x hx),
   app_le2 (b:=64) (l:=p) (es:=[x]) (by simp; omega) (by omega),hst,hw,ih]
theorem Make_is {l:List Qa} (hl:okL l):Xq l=some (.inr (smOf l 0,l,l)):=by
 have h:=New_L1 hl l [] rfl
 simp only [List.length_nil,Int.natCast_zero] at h
 have h0:smOf [] 0=[]:=rfl
 rw [h0] at h
 unfold Xq Qax
 simp only [h,Ql]
theorem Get_is {l:List Qa} (hl:okL l) (nm:ByteArray):Yc (nm,smOf l 0,l,l)=some ([],[],false)∨∃ b∈l,b.name=nm∧Yc (nm,smOf l 0,l,l)=some (b.value.shape,b.value.data,true):=by
 unfold Yc Xt Y6
 rcases smOf_get (nm:=nm) l 0 with ⟨h,_⟩|⟨i,hi,h,hn⟩
 ·have e:lookS (smOf l 0) nm=(0,false):=by rw [lookS,h]; rfl
  simp only [e,Ql,if_true]
  exact Or.inl trivial
 ·rw [Nat.zero_add] at h
  have e:lookS (smOf l 0) nm=((i:Int),true):=by rw [lookS,h]; rfl
  have hm:l[i]∈l:=List.getElem_mem hi
  have h1:=hl.2.1 _ hm
  have ec:XB (⟨l[i].value.shape,l[i].value.data⟩:Qw)=some l[i].value:=Copy_is (a:=l[i].value) (by have:=h1.1; show _≤1000; omega) (by have:=h1.2.1; show _≤1000; omega)
  refine Or.inr ⟨l[i],hm,hn,?_⟩
  simp only [e,Ql,Bool.true_eq_false,if_false,idx_ok hi,ec]
theorem idxS_L1 {nm:ByteArray} {sh da:List Int} {a:List (ByteArray × Int)} {b c:List Qa}:∀ (s p:List Qg),(p++s).length≤1000 →
  ((nm≠ByteArray.empty∧∃ x∈s,x.name=nm)∧∃ u v w,∃ k:Nat,QC (p++s,nm,sh,da,a,b,c,(p.length:Int))=some (.inl (u,v,w,(k:Int)))) ∨
  (¬ (nm≠ByteArray.empty∧∃ x∈s,x.name=nm)∧QC (p++s,nm,sh,da,a,b,c,(p.length:Int))=some (.inr ()))
 | [],p,h=>by
  refine Or.inr ⟨fun ⟨_,x,hx,_⟩=>(nomatch hx),?_⟩
  rw [QC]; simp only [YX,if_false]
 | x::s,p,h=>by
  have ih:=idxS_L1 (nm:=nm) (sh:=sh) (da:=da) (a:=a) (b:=b) (c:=c) s (p++[x]) (by rw [← QS]; exact h)
  rw [← QS] at ih
  rw [QC]
  have e:∀ q1 q2 q9,Z9 (x.name,q1,q2,nm,sh,da,a,b,c,q9)=some (decide (nm≠ByteArray.empty∧x.name=nm)):=fun q1 q2 q9=>by
   unfold Z9
   by_cases h1:nm=ByteArray.empty
   ·simp [h1]
   ·by_cases h2:x.name=nm <;> simp [h1,h2]
  simp only [Yg,if_true,Zo,Ql,e,mid_W (Sm_le h)]
  by_cases hq:nm≠ByteArray.empty∧x.name=nm
  ·rw [decide_eq_true hq,if_pos rfl]
   exact Or.inl ⟨⟨hq.1,x,List.mem_cons_self ..,hq.2⟩,_,_,_,p.length,rfl⟩
  ·rw [decide_eq_false hq,if_neg (by decide)]
   rcases ih with ⟨⟨i1,y,hy,i2⟩,r⟩|⟨i1,r⟩
   ·exact Or.inl ⟨⟨i1,y,List.mem_cons_of_mem _ hy,i2⟩,r⟩
   ·refine Or.inr ⟨fun ⟨j1,y,hy,j2⟩=>?_,r⟩
    rcases List.mem_cons.1 hy with rfl|hy
    ·exact hq ⟨j1,j2⟩
    ·exact i1 ⟨j1,y,hy,j2⟩
theorem read_is {ss:List Qg} (hs:ss.length≤1000) {nm:ByteArray} {v:Qw} (hsh:v.shape.length≤1000) (a:List (ByteArray × Int)) (b c:List Qa) :
  ∃ k,ZU (nm,v.shape,v.data,a,b,c,ss)=some (if nm≠ByteArray.empty∧∃ x∈ss,x.name=nm then ss else ss++[⟨nm,v⟩],v.shape,k):=by
 have happ:=app_le2 (b:=64) (l:=ss) (es:=[(⟨nm,⟨v.shape,v.data⟩⟩:Qg)]) (by simp; omega) (by omega)
 unfold ZU Q4
 rcases idxS_L1 (nm:=nm) (sh:=v.shape) (da:=v.data) (a:=a) (b:=b) (c:=c) ss [] hs with ⟨h,u,w,z,k,e⟩|⟨h,e⟩
 ·simp only [List.nil_append,List.length_nil,Int.natCast_zero] at e
  have:¬ ((k:Int) < 0):=by omega
  simp only [e,Ql,this,if_false,Clone_ok _ hsh]
  rw [if_pos h]
  exact ⟨_,rfl⟩
 ·simp only [List.nil_append,List.length_nil,Int.natCast_zero] at e
  simp only [e,Ql,happ,Clone_ok _ hsh]
  rw [if_neg h]
  exact ⟨_,rfl⟩
def litA (v:List Int):Qw:=⟨if v.length=1 then [] else [(v.length:Int)],v⟩
theorem litA_right {v:List Int} (hv:v.length≤1000):checkR (litA v).shape=0∧((litA v).data.length:Int)=prodI (litA v).shape:=by
 have h:checkR (litA v).shape=0:=by
  unfold litA
  split
  ·rfl
  ·refine checkR_zero.2 ⟨fun x hx=>?_,by simp,?_⟩
   ·simp only [List.mem_singleton] at hx; subst hx; omega
   ·show prodI [(v.length:Int)]≤_; simp [prodI]; omega
 refine ⟨h,?_⟩
 unfold litA
 split
 ·rename_i h1; show (v.length:Int)=_; rw [h1]; rfl
 ·simp [prodI]
theorem atom_is {l:List Qa} (hl:okL l) {t:Qc} (hF:formF t) (hk:t.kids.length=0) (hv:t.nums.length≤1000) {ss:List Qg} (hs:ss.length≤1000) :
  ∃ ss' sh k e,Yi (t.kind,t.fn,t.axis,t.name,t.nums,t.kids,smOf l 0,l,l,ss)=some (ss',(if e=0 then 1 else 0),sh,k,e) ∧
   (e=0→checkR sh=0∧(t.kind=1∨t.kind=2)∧ss'.length≤ss.length+1∧∀ Z N,InvS Z N ss→InvS Z (addN N t) ss'):=by
 unfold Yi
 have hkind:(t.kind=1∧t.name=ByteArray.empty)∨(t.kind=2∧Yf t.name=some true):=by
  rcases hF with h|h|h|h
  ·exact Or.inl ⟨h.1,h.2.2.2.1⟩
  ·exact Or.inr ⟨h.1,h.2.2.2.1⟩
  ·have:=h.2.2.2.1; omega
  ·have:=h.2.2.2.1; omega
 rcases hkind with ⟨h1,hn⟩|⟨h1,hn⟩
 ·obtain ⟨r1,r2⟩:=litA_right hv
  have hsh:(litA t.nums).shape.length≤1000:=by unfold litA; split <;> simp
  obtain ⟨k,er⟩:=read_is hs (nm:=ByteArray.empty) (v:=litA t.nums) hsh (smOf l 0) l l
  have hmid:((if (t.nums.length:Int)=1 then idx t.nums 0>>=fun v4=>QaQ v4>>=fun (v5:Qw)=>some (v5.shape,v5.data) else some ((⟨[(t.nums.length:Int)],t.nums⟩:Qw).shape,(⟨[(t.nums.length:Int)],t.nums⟩:Qw).data)):Option (List Int × List Int))=some ((litA t.nums).shape,(litA t.nums).data):=by
   unfold litA
   by_cases h:t.nums.length=1
   ·obtain ⟨x,hx⟩:=List.length_eq_one_iff.1 h
    rw [hx]; rfl
   ·have:¬ (t.nums.length:Int)=1:=by omega
    simp only [this,h,if_false]
  unfold QaR
  simp only [h1,if_true,(copied_is _ hv).2,Ql]
  rw [hmid]
  have ec:Xe (⟨(litA t.nums).shape,(litA t.nums).data⟩:Qw)=some 0:=aCheck_is (a:=litA t.nums) r1 r2
  simp only [Ql,ec,ne_eq,not_true_eq_false,if_false,er]
  refine ⟨_,(litA t.nums).shape,k,0,rfl,fun _=>⟨r1,Or.inl trivial,?_,fun Z N hI=>?_⟩⟩
  ·split <;> simp
  ·rw [addN_not (by rw [h1]; decide),if_neg (fun h=>h.1)]
   exact hI.lit _
 ·have hz:¬ t.kind=1:=by rw [h1]; decide
  simp only [hz,if_false]
  rcases Get_is hl t.name with e|⟨b,hb,hbn,e⟩
  ·simp only [e,Ql,if_true]
   exact ⟨ss,[],0,2,rfl,fun h=>absurd h (by decide)⟩
  ·have h1b:=hl.2.1 b hb
   have h2b:=hl.2.2.1 b hb
   obtain ⟨k,er⟩:=read_is hs (nm:=t.name) (v:=b.value) (by have:=h1b.1; omega) (smOf l 0) l l
   simp only [e,Ql,Bool.true_eq_false,if_false,er]
   have hne:t.name≠ByteArray.empty:=by rw [← hbn]; exact (lexName_ok (by have:=h1b.2.2; omega) h2b.2.2).2
   refine ⟨_,b.value.shape,k,0,rfl,fun _=>⟨h2b.1,Or.inr h1,?_,fun Z N hI=>?_⟩⟩
   ·split <;> simp
   ·have:=hI.read h1 hne b.value
    have hiff:(t.name≠ByteArray.empty∧∃ x∈ss,x.name=t.name)↔∃ x∈ss,x.name=t.name:=⟨fun h=>h.2,fun h=>⟨hne,h⟩⟩
    by_cases hq:∃ x∈ss,x.name=t.name
    ·rw [if_pos hq] at this; rw [if_pos (hiff.2 hq)]; exact this
    ·rw [if_neg hq] at this; rw [if_neg (fun h=>hq (hiff.1 h))]; exact this
theorem readS_is {l:List Qa} (hl:okL l) (a:Qc) (hv:a.nums.length≤1000):∃ v b e,XG (a.kind,a.fn,a.axis,a.name,a.nums,a.kids,smOf l 0,l,l)=some (v,b,e)∧v.length≤1000:=by
 unfold XG
 by_cases h:a.kind=1
 ·simp only [h,if_true,Clone64_ok _ hv,Ql]
  exact ⟨_,_,_,rfl,hv⟩
 ·simp only [h,if_false]
  rcases Get_is hl a.name with e|⟨b,hb,_,e⟩
  ·simp only [e,Ql,if_true]
   exact ⟨_,_,_,rfl,by simp⟩
  ·simp only [e,Ql,Bool.true_eq_false,if_false]
   split
   ·exact ⟨_,_,_,rfl,by simp⟩
   ·exact ⟨_,_,_,rfl,by have:=(hl.2.1 b hb).2.1; omega⟩
theorem mea_is {l:List Qa} (hl:okL l) {t a k:Qc} {c:Qh} {ss:List Qg} (hk:t.kids=[a,k]) (hv:a.nums.length≤1000) (hf:1≤t.fn∧t.fn≤5) (hax:-1≤t.axis) (hc:checkR c.shape=0) :
  ∃ (d:Qh) (e:Int),ZO (t.kind,t.fn,t.axis,t.name,t.nums,t.kids,c.kind,c.shape,c.buffer,c.starts,c.axis,c.amount,c.perm,c.kids,smOf l 0,l,l,ss)=some (d.kind,d.shape,d.buffer,d.starts,d.axis,d.amount,d.perm,d.kids,e)∧(e=0→checkR d.shape=0):=by
 have hlc:=(checkR_zero.1 hc).2.1
 have e0:idx t.kids 0=some a:=by rw [hk]; rfl
 obtain ⟨v,b,e,er,hvl⟩:=readS_is hl a hv
 unfold ZO
 simp only [e0,Ql,er]
 by_cases h1:e=0
 ·subst h1
  simp only [ne_eq,not_true_eq_false,if_false,etaC]
  have hf':t.fn=1∨t.fn=2∨t.fn=3∨t.fn=4∨t.fn=5:=by omega
  refine ⟨(meaR t c v).1,(meaR t c v).2,?_,fun _=>meaR_right hc⟩
  unfold meaR
  rcases hf' with hf|hf|hf|hf|hf
  ·have hr:=(okR_len (okR_take (l:=v) hc)).2.1
   simp only [hf,if_true,Take_ok v _ c.shape hvl hc,Ql,window_okC (takeR v c.shape).1 c (by omega)]
  ·have hr:=(okR_len (okR_drop (l:=v) hc)).2.1
   simp only [hf,nq21,if_false,if_true,Drop_ok v _ c.shape hvl hc,Ql,window_okC (dropR v c.shape).1 c (by omega)]
  ·simp only [hf,nq31,nq32,if_false,if_true,Rotate_ok v _ hax hvl hc,Ql,turned_ok]
  ·simp only [hf,nq41,nq42,nq43,if_false,if_true,Transpose_ok v _ c.shape hvl hlc,Ql,transposed_ok]
  ·simp only [hf,nq51,nq52,nq53,nq54,if_false,Reshape_ok v _ c.shape hvl (show _≤1000 by omega),Ql,reshaped_ok]
 ·simp only [h1,ne_eq,not_false_eq_true,if_true]
  exact ⟨⟨0,[],0,[],0,0,[],[]⟩,e,rfl,fun h=>absurd h h1⟩
theorem catR_dims {t:Qc} (h:formF t):-1≤t.axis:=by
 rcases h with h|h|h|h
 ·omega
 ·omega
 ·obtain ⟨_,_,_,_,h⟩:=h; unfold axF at h; omega
 ·obtain ⟨_,_,_,_,_,_,h,_⟩:=h; unfold axF at h; omega
def simS (l:List Qa) (Z:ByteArray→Prop) (t:Qc) (ss:List Qg):Prop:=∃ (ss':List Qg) (c:Qh) (e:Int),
 QL (t.kind,t.fn,t.axis,t.name,t.nums,t.kids,smOf l 0,l,l,ss)=some (ss',c.kind,c.shape,c.buffer,c.starts,c.axis,c.amount,c.perm,c.kids,e) ∧
 (e=0→checkR c.shape=0∧ss'.length≤ss.length+atomsT t∧∀ N,InvS Z N ss→InvS Z (namesF N (stepsL t)) ss')
theorem atomsT_le (t:Qc):atomsT t≤szT t:=by
 rw [← stepsL_len t]; exact List.countP_le_length
theorem namesF_one (N:List ByteArray) (x:Qc):namesF N [x]=addN N x:=rfl
theorem expr_is {l:List Qa} (hl:okL l) (Z:ByteArray→Prop):∀ (n:Nat) (t:Qc),szT t≤n→good t→numT t≤1000→(∀ v,mesT v t→Z v)→∀ ss:List Qg,ss.length+szT t≤900→simS l Z t ss
 | 0,t,h,_,_,_,_,_=>by have:=szT_pos t; omega
 | n+1,t,h,hg,hN,hZ,ss,hs=>by
  have hg':=good_f.1 hg
  obtain ⟨hF,hK⟩:=hg'
  have hax:=catR_dims hF
  have hsz:=szT_f t
  have hnum:=numT_f t
  have hat:=atomsT_f t
  by_cases h0:t.kids.length=0
  ·obtain ⟨ss',sh,k,e,ea,ha⟩:=atom_is hl hF h0 (show t.nums.length≤1000 by omega) (show ss.length≤1000 by omega)
   refine ⟨ss',⟨if e=0 then 1 else 0,sh,k,[],0,0,[],[]⟩,e,?_,fun he=>?_⟩
   ·rw [QL]
    simp only [h0,Int.natCast_zero,if_true,ea,Ql]
   ·obtain ⟨a1,a2,a3,a4⟩:=ha he
    have hks:t.kids=[]:=List.length_eq_zero_iff.1 h0
    refine ⟨a1,?_,fun N hI=>?_⟩
    ·rw [hat,hks,if_pos (by omega)]; simp [stepsR,atomsL]; omega
    ·rw [stepsL_f,hks,stepsR,List.nil_append,namesF_one]
     exact a4 Z N hI
  have hn0:¬ (t.kids.length:Int)=0:=by omega
  have hF':(t.kind=3∧t.kids.length=1)∨(t.kind=4∧t.kids.length=2∧1≤t.fn∧t.fn≤6∧(t.fn=6∨(t.kids.getD 0 noT).kind=1∨(t.kids.getD 0 noT).kind=2)):=by
   rcases hF with h|h|h|h
   ·exact absurd h.2.2.2.2 h0
   ·exact absurd h.2.2.2.2.2 h0
   ·exact Or.inl ⟨h.1,h.2.2.2.1⟩
   ·exact Or.inr ⟨h.1,h.2.2.2.1,h.2.2.2.2.1,h.2.2.2.2.2.1,h.2.2.2.2.2.2.2⟩
  have hme:∀ x∈t.kids,∀ v,mesT v x→Z v:=fun x hx v hv=>hZ v ((mesT_f v t).2 (Or.inr (mesTs_mem hx hv)))
  rcases hF' with ⟨h3,h4⟩|⟨h3,h4,f1,f2,f3⟩
  ·-- one operand
   obtain ⟨k,hk⟩:=kids1 h4
   rw [hk] at hK hsz hnum hat
   have s1:=sz1 k
   have zk:=szT_pos k
   obtain ⟨ss',c,e,e1,r1⟩:=expr_is hl Z n k (by omega) (goods1.1 hK) (by omega) (hme k (by rw [hk]; exact List.mem_cons_self ..)) ss (by omega)
   have ik:idx t.kids (W ((t.kids.length:Int) - 1))=some k:=by rw [hk]; rfl
   have ha:atomsT t=atomsT k:=by rw [hat,if_neg (by omega),stepsR_one]; rfl
   by_cases he:e=0
   ·subst he
    obtain ⟨q1,q2,q3⟩:=r1 rfl
    refine ⟨ss',(monR t c).1,(monR t c).2,?_,fun _=>⟨monR_right q1,by omega,fun N hI=>?_⟩⟩
    ·rw [QL]
     simp only [hn0,if_false,ik,Ql,e1,ne_eq,not_true_eq_false,etaT,etaC,monad_okC t c q1]
     simp only [h3,if_true]
    ·rw [stepsL_f,hk,stepsR_one,namesF_app,namesF_one,addN_not (by rw [h3]; decide)]
     exact q3 N hI
   ·refine ⟨ss',⟨0,[],0,[],0,0,[],[]⟩,e,?_,fun h=>absurd h he⟩
    rw [QL]
    simp only [hn0,if_false,ik,Ql,e1,ne_eq,he,not_false_eq_true,if_true]
  ·-- two operands
   obtain ⟨a,k,hk⟩:=kids2 h4
   rw [hk] at hK hsz hnum f3 hat
   obtain ⟨ga,gk⟩:=goods2.1 hK
   have s1:=sz2 a k
   have f3:t.fn=6∨a.kind=1∨a.kind=2:=f3
   have zk:=szT_pos k
   have za:=szT_pos a
   obtain ⟨ss',c,e,e1,r1⟩:=expr_is hl Z n k (by omega) gk (by omega) (hme k (by rw [hk]; simp)) ss (by omega)
   have ik:idx t.kids (W ((t.kids.length:Int) - 1))=some k:=by rw [hk]; rfl
   have i0:idx t.kids 0=some a:=by rw [hk]; rfl
   have ha:atomsT t=atomsT k+atomsT a:=by rw [hat,if_neg (by omega),stepsR_two,atomsL_app]; rfl
   have hak:=atomsT_le k
   have h34:¬ t.kind=3:=by omega
   by_cases he:e=0
   case neg =>
    refine ⟨ss',⟨0,[],0,[],0,0,[],[]⟩,e,?_,fun h0=>absurd h0 he⟩
    rw [QL]
    simp only [hn0,if_false,ik,Ql,e1,ne_eq,he,not_false_eq_true,if_true]
   subst he
   obtain ⟨q1,q2,q3⟩:=r1 rfl
   have hst:∀ N,namesF N (stepsL t)=namesF (namesF N (stepsL k)) (stepsL a):=fun N=>by
    rw [stepsL_f,hk,stepsR_two,namesF_app,namesF_app,namesF_one,addN_not (by rw [h3]; decide)]
   by_cases h6:t.fn=6
   ·obtain ⟨ss2,d,e2,g1,w1⟩:=expr_is hl Z n a (by omega) ga (by omega) (hme a (by rw [hk]; simp)) ss' (by omega)
    have hps:QL (t.kind,t.fn,t.axis,t.name,t.nums,t.kids,smOf l 0,l,l,ss)=(Zb (t.kind,t.fn,t.axis,t.name,t.nums,t.kids,c.kind,c.shape,c.buffer,c.starts,c.axis,c.amount,c.perm,c.kids,smOf l 0,l,l,ss')>>=fun ((v19,v20,v21,v22,v23,v24):((List Qg) × Int × (List Int) × Int × (List Qh) × Int)) =>
      some (v19,v20,v21,(0:Int),([]:List Int),v22,(0:Int),([]:List Int),v23,v24)):=by
     rw [QL]
     simp only [hn0,if_false,ik,Ql,e1,ne_eq,not_true_eq_false,h34,Xp]
     simp only [h6,if_true]
    rw [Zb] at hps
    simp only [i0,Ql,g1] at hps
    by_cases he2:e2=0
    case neg =>
     refine ⟨ss2,⟨0,[],0,[],0,0,[],[]⟩,e2,?_,fun h0=>absurd h0 he2⟩
     rw [hps]; simp only [ne_eq,he2,not_false_eq_true,if_true,Ql]
    subst he2
    obtain ⟨u1,u2,u3⟩:=w1 rfl
    obtain ⟨dd,ld,_⟩:=checkR_zero.1 u1
    obtain ⟨dc,lc,_⟩:=checkR_zero.1 q1
    have hok:=okR_cat hax u1 q1
    obtain ⟨l1,l2,l3⟩:=okR_len hok
    simp only [ne_eq,not_true_eq_false,if_false,Cat_ok hax ld lc dd dc,Ql,etaC,seen_okC d (catR t.axis d.shape c.shape).1.left (by omega),seen_okC c _ (show (catR t.axis d.shape c.shape).1.right.length≤1000 by omega)] at hps
    refine ⟨ss2,⟨7,(catR t.axis d.shape c.shape).1.shape,0,[],(catR t.axis d.shape c.shape).1.axis,0,[],[seenC d (catR t.axis d.shape c.shape).1.left,seenC c (catR t.axis d.shape c.shape).1.right]⟩,(catR t.axis d.shape c.shape).2,hps,fun _=>⟨hok.2.2,by omega,fun N hI=>?_⟩⟩
    rw [hst]; exact u3 _ (q3 N hI)
   ·have haK:a.kind=1∨a.kind=2:=f3.resolve_left h6
    obtain ⟨d,e2,hm,hd⟩:=mea_is (ss:=ss') hl hk (show a.nums.length≤1000 by have:=numT_f a; omega) ⟨f1,by omega⟩ hax q1
    refine ⟨ss',d,e2,?_,fun h0=>⟨hd h0,by omega,fun N hI=>?_⟩⟩
    ·rw [QL]
     simp only [hn0,if_false,ik,Ql,e1,ne_eq,not_true_eq_false,h34,Xp]
     simp only [h6,if_false,hm,Ql]
    ·have hka:a.kids=[]:=by
      rcases (good_f.1 ga).1 with g|g|g|g
      ·exact List.length_eq_zero_iff.1 g.2.2.2.2
      ·exact List.length_eq_zero_iff.1 g.2.2.2.2.2
      ·omega
      ·omega
     rw [hst,stepsL_f a,hka,stepsR,List.nil_append,namesF_one]
     exact (q3 N hI).measure (fun _=>hZ _ ((mesT_f _ t).2 (Or.inl ⟨h3,h6,a,by rw [hk]; rfl,rfl⟩)))
theorem src_L1 (p1:Qc) (v46:(List ByteArray)) (v15:(List (ByteArray × Int))) (v16:(List Qa)) (v17:(List Qa)) (v18:Int) (v19:(List Int)) (v20:Int) (v21:(List Int)) (v22:Int) (v23:Int) (v24:(List Int)) (v25:(List Qh)) (v26:(List Qg)) (v27:(List Qg)) (v28:Int) (v29:(List Int)) (v30:Int) (v31:(List Int)) (v32:Int) (v33:Int) (v34:(List Int)) (v35:(List Qh)) (v36:Int) (v37:(List Int)) (v38:Int) (v39:(List Int)) (v40:Int) (v41:Int) (v42:(List Int)) (v43:(List Qh)) (v44:(List Qg)):∀ (s p:List Qc) (n:Nat),(p++s).length≤1000→n≤p.length→Zc (p++s,p1,v46,v15,v16,v17,v18,v19,v20,v21,v22,v23,v24,v25,v26,v27,v28,v29,v30,v31,v32,v33,v34,v35,v36,v37,v38,v39,v40,v41,v42,v43,v44,(n:Int),(p.length:Int))=some ((n+atomsL s:Nat):Int)
 | [],p,n,h,_=>by rw [Zc]; simp only [YX,if_false]; rfl
 | x::s,p,n,h,hn=>by
  have ih:=fun n' (h':n'≤p.length+1)=>src_L1 p1 v46 v15 v16 v17 v18 v19 v20 v21 v22 v23 v24 v25 v26 v27 v28 v29 v30 v31 v32 v33 v34 v35 v36 v37 v38 v39 v40 v41 v42 v43 v44 s (p++[x]) n' (by rw [← QS]; exact h) (by simpa using h')
  simp only [← QS] at ih
  have hp:p.length≤1000:=by simp at h; omega
  have w:W ((n:Int)+1)=((n+1:Nat):Int):=W_succ (by omega)
  have ha:atomsL (x::s)=(if x.kind≤2 then 1 else 0)+atomsL s:=by
   simp only [atomsL,List.countP_cons,decide_eq_true_eq]; omega
  rw [Zc]
  simp only [Yg,if_true,Zo,Ql,mid_W (Sm_le h),w,ih n (by omega),ih (n+1) (by omega)]
  rw [ha]
  by_cases hk:x.kind≤2
  ·rw [if_pos hk,if_pos hk]; congr 2; omega
  ·rw [if_neg hk,if_neg hk]; congr 2; omega
theorem src_L3 (x:Qg) (p1:Qc) (v648:Int) (v850:Int) (v851:Int) (v15:(List (ByteArray × Int))) (v16:(List Qa)) (v17:(List Qa)) (v18:Int) (v19:(List Int)) (v20:Int) (v21:(List Int)) (v22:Int) (v23:Int) (v24:(List Int)) (v25:(List Qh)) (v26:(List Qg)) (v27:(List Qg)) (v28:Int) (v29:(List Int)) (v30:Int) (v31:(List Int)) (v32:Int) (v33:Int) (v34:(List Int)) (v35:(List Qh)) (v36:Int) (v37:(List Int)) (v38:Int) (v39:(List Int)) (v40:Int) (v41:Int) (v42:(List Int)) (v43:(List Qh)) (v44:(List Qg)):∀ (s p:List ByteArray),(p++s).length≤1000→Zm (p++s,x,p1,v648,v850,v851,v15,v16,v17,v18,v19,v20,v21,v22,v23,v24,v25,v26,v27,v28,v29,v30,v31,v32,v33,v34,v35,v36,v37,v38,v39,v40,v41,v42,v43,v44,(p.length:Int))=some ((p.length+ixN s x.name:Nat):Int)
 | [],p,h=>by rw [Zm]; simp only [YX,if_false,Ql,Bool.false_eq_true]; rfl
 | y::s,p,h=>by
  have ih:=src_L3 x p1 v648 v850 v851 v15 v16 v17 v18 v19 v20 v21 v22 v23 v24 v25 v26 v27 v28 v29 v30 v31 v32 v33 v34 v35 v36 v37 v38 v39 v40 v41 v42 v43 v44 s (p++[y]) (by rw [← QS]; exact h)
  rw [← QS] at ih
  rw [Zm]
  simp only [Yg,if_true,Zo,Ql,mid_W (Sm_le h),ih,ixN]
  by_cases hy:y=x.name
  ·simp [hy]
  ·simp only [hy,ne_eq,not_false_eq_true,decide_true,if_true,if_false,List.length_append,List.length_cons,List.length_nil]
   congr 2; omega
theorem src_L4 (x:Qg) (p1:Qc) (v46:(List ByteArray)) (v648:Int) (v1851:Int) (v15:(List (ByteArray × Int))) (v16:(List Qa)) (v17:(List Qa)) (v18:Int) (v19:(List Int)) (v20:Int) (v21:(List Int)) (v22:Int) (v23:Int) (v24:(List Int)) (v25:(List Qh)) (v26:(List Qg)) (v27:(List Qg)) (v28:Int) (v29:(List Int)) (v30:Int) (v31:(List Int)) (v32:Int) (v33:Int) (v34:(List Int)) (v35:(List Qh)) (v36:Int) (v37:(List Int)) (v38:Int) (v39:(List Int)) (v40:Int) (v41:Int) (v42:(List Int)) (v43:(List Qh)) (l r:List Qg) (hl:l.length≤1000) (hd:∀ y∈l,y.name≠x.name):∀ (s p:List Qg),l=p++s→Zn ((l.length:Int),l++r,x,p1,v46,v648,v1851,v15,v16,v17,v18,v19,v20,v21,v22,v23,v24,v25,v26,v27,v28,v29,v30,v31,v32,v33,v34,v35,v36,v37,v38,v39,v40,v41,v42,v43,(p.length:Int))=some (.inr ())
 | [],p,e=>by
  rw [Zn]
  have:¬ ((p.length:Int) < (l.length:Int)):=by rw [e]; simp
  rw [if_neg this]
 | y::s,p,e=>by
  have ih:=src_L4 x p1 v46 v648 v1851 v15 v16 v17 v18 v19 v20 v21 v22 v23 v24 v25 v26 v27 v28 v29 v30 v31 v32 v33 v34 v35 v36 v37 v38 v39 v40 v41 v42 v43 l r hl hd s (p++[y]) (by rw [e]; simp)
  rw [Zn]
  have h1:((p.length:Int) < (l.length:Int)):=by rw [e]; exact Yg
  have hi:idx (l++r) (p.length:Int)=some y:=by rw [e,List.append_assoc]; exact Zo
  have hw:W ((p.length:Int)+1)=((p++[y]).length:Int):=by
   have:=hl; rw [e] at this; exact mid_W (Sm_le this)
  have hy:=hd y (by rw [e]; simp)
  simp only [h1,if_true,hi,Ql,hy,if_false,hw,ih]
theorem src_L2 {t:Qc} {N:List ByteArray} {S:List Qg} (hI:InvS (fun v=>mesT v t) N S) (hm:∀ v,∃ b,Z2 (t,v)=some b∧(b=true↔mesT v t)) (hN:N.length≤1000) (hS:S.length≤1000) (v648:Int) (v15:(List (ByteArray × Int))) (v16:(List Qa)) (v17:(List Qa)) (v18:Int) (v19:(List Int)) (v20:Int) (v21:(List Int)) (v22:Int) (v23:Int) (v24:(List Int)) (v25:(List Qh)) (v26:(List Qg)) (v27:(List Qg)) (v28:Int) (v29:(List Int)) (v30:Int) (v31:(List Int)) (v32:Int) (v33:Int) (v34:(List Int)) (v35:(List Qh)) (v36:Int) (v37:(List Int)) (v38:Int) (v39:(List Int)) (v40:Int) (v41:Int) (v42:(List Int)) (v43:(List Qh)):∀ (s p:List Qg) (at_:Int),S=p++s→(at_=-1∨∃ y∈p,y.name≠ByteArray.empty∧at_=(ixN N y.name:Int))→Zd (S,N,t,v648,v15,v16,v17,v18,v19,v20,v21,v22,v23,v24,v25,v26,v27,v28,v29,v30,v31,v32,v33,v34,v35,v36,v37,v38,v39,v40,v41,v42,v43,at_,(p.length:Int))=some (.inr ())
 | [],p,at_,e,_=>by
  rw [Zd]
  have:¬ ((p.length:Int) < (S.length:Int)):=by rw [e]; simp
  rw [if_neg this]
 | x::s,p,at_,e,ha=>by
  have ih:=src_L2 hI hm hN hS v648 v15 v16 v17 v18 v19 v20 v21 v22 v23 v24 v25 v26 v27 v28 v29 v30 v31 v32 v33 v34 v35 v36 v37 v38 v39 v40 v41 v42 v43 s (p++[x])
  rw [Zd]
  have h1:((p.length:Int) < (S.length:Int)):=by rw [e]; exact Yg
  have hi:idx S (p.length:Int)=some x:=by rw [e]; exact Zo
  have hw:W ((p.length:Int)+1)=((p++[x]).length:Int):=by
   have:=hS; rw [e] at this; exact mid_W (Sm_le this)
  simp only [h1,if_true,hi,Ql,hw]
  by_cases hx:x.name=ByteArray.empty
  ·rw [if_pos hx]
   refine ih at_ (by rw [e]; simp) (ha.imp_right ?_)
   rintro ⟨y,hy,r⟩
   exact ⟨y,List.mem_append_left _ hy,r⟩
  ·rw [if_neg hx]
   have e3:=fun p1 v648 v850 v851 v15 v16 v17 v18 v19 v20 v21 v22 v23 v24 v25 v26 v27 v28 v29 v30 v31 v32 v33 v34 v35 v36 v37 v38 v39 v40 v41 v42 v43 v44=>src_L3 x p1 v648 v850 v851 v15 v16 v17 v18 v19 v20 v21 v22 v23 v24 v25 v26 v27 v28 v29 v30 v31 v32 v33 v34 v35 v36 v37 v38 v39 v40 v41 v42 v43 v44 N [] hN
   simp only [List.nil_append,List.length_nil,Int.natCast_zero,Nat.zero_add] at e3
   have hxS:x∈S:=by rw [e]; simp
   have hlt:=ixN_lt (hI.met x hxS hx)
   obtain ⟨b,eb,hb⟩:=hm x.name
   have hon:=hI.once
   have hor:=hI.order
   rw [e] at hon hor
   have hd:∀ y∈p,y.name≠x.name:=fun y hy=>(List.pairwise_append.1 hon).2.2 y hy x (List.mem_cons_self ..) hx
   have e4:=fun p1 v46 v648 v1851 v15 v16 v17 v18 v19 v20 v21 v22 v23 v24 v25 v26 v27 v28 v29 v30 v31 v32 v33 v34 v35 v36 v37 v38 v39 v40 v41 v42 v43=>src_L4 x p1 v46 v648 v1851 v15 v16 v17 v18 v19 v20 v21 v22 v23 v24 v25 v26 v27 v28 v29 v30 v31 v32 v33 v34 v35 v36 v37 v38 v39 v40 v41 v42 v43 p (x::s) (by rw [e] at hS; simp at hS; omega) hd p [] rfl
   simp only [← e,List.length_nil,Int.natCast_zero] at e4
   have hne:((ixN N x.name:Int) == (N.length:Int))=false:=by
    have:¬ (ixN N x.name:Int)=(N.length:Int):=by omega
    simpa using this
   have hc:(if (ixN N x.name:Int)≤at_ then Z2 (t,x.name)>>=fun (v:Bool)=>some (!v) else some false)=some false:=by
    split
    ·rename_i hle
     rw [eb,Ql]
     have:b=true:=by
      refine hb.2 (Classical.byContradiction fun hz=>?_)
      rcases ha with ha|⟨y,hy,hy0,ha⟩
      ·omega
      ·have:=(List.pairwise_append.1 hor).2.2 y hy x (List.mem_cons_self ..) hy0 hx hz
       omega
     rw [this]; rfl
    ·rfl
   simp only [e3,Ql,etaT,hc,Bool.false_eq_true,if_false,hne,e4]
   exact ih _ (by rw [e]; simp) (Or.inr ⟨x,by simp,hx,rfl⟩)
theorem mes_is:∀ (n:Nat) (t:Qc),szT t≤n→n≤600→good t→∀ v:ByteArray,∃ b,Z2 (t,v)=some b∧(b=true↔mesT v t)
 | 0,t,h,_,_,_=>by have:=szT_pos t; omega
 | n+1,t,h,hn,hg,v=>by
  obtain ⟨hF,hK⟩:=good_f.1 hg
  have hsz:=szT_f t
  have hlen:=szTs_len t.kids
  have loop:∀ (s p:List Qc),t.kids=p++s→∃ r,Zi (t,v,(p.length:Int))=some r∧(r=.inl ()↔mesTs v s):=by
   intro s
   induction s with
   | nil =>
    intro p e
    rw [Zi]
    have:¬ ((p.length:Int) < (t.kids.length:Int)):=by rw [e]; simp
    simp only [this,if_false]
    exact ⟨_,rfl,⟨fun h=>(nomatch h),fun h=>by rw [mesTs] at h; exact h.elim⟩⟩
   | cons x s ih =>
    intro p e
    obtain ⟨r,er,hr⟩:=ih (p++[x]) (by rw [e]; simp)
    have hx:x∈t.kids:=by rw [e]; simp
    have hxs:szT x≤szTs t.kids:=szTs_mem hx
    obtain ⟨b,eb,hb⟩:=mes_is n x (by omega) (by omega) (goods_mem hK hx) v
    rw [Zi]
    have h1:((p.length:Int) < (t.kids.length:Int)):=by rw [e]; exact Yg
    have hi:idx t.kids (p.length:Int)=some x:=by rw [e]; exact Zo
    have hw:W ((p.length:Int)+1)=((p++[x]).length:Int):=by
     have:t.kids.length≤1000:=by omega
     rw [e] at this; exact mid_W (Sm_le this)
    simp only [h1,if_true,hi,Ql,eb,hw,er]
    rw [mesTs]
    cases b with
    | true=>exact ⟨.inl (),rfl,fun _=>Or.inl (hb.1 rfl),fun _=>rfl⟩
    | false =>
     refine ⟨r,rfl,⟨fun h=>Or.inr (hr.1 h),fun h=>hr.2 (h.resolve_left fun h=>?_)⟩⟩
     exact absurd (hb.2 h) (by decide)
  obtain ⟨r,er,hr⟩:=loop t.kids [] rfl
  simp only [List.length_nil,Int.natCast_zero] at er
  have hhead:∃ b,((if t.kind=4 then some (t.fn != 6) else some false)>>=fun (v2:Bool)=>if v2=true then idx t.kids 0>>=fun v3=>some (decide (v3.name=v)) else some false)=some b∧(b=true↔(t.kind=4∧t.fn≠6∧∃ x∈t.kids.head?,x.name=v)):=by
   by_cases h4:t.kind=4
   ·rw [if_pos h4,Ql]
    by_cases h6:t.fn=6
    ·refine ⟨false,by simp [h6],⟨fun h=>(nomatch h),fun h=>absurd h6 h.2.1⟩⟩
    ·have hk2:t.kids.length=2:=by
      rcases hF with h|h|h|h
      ·omega
      ·omega
      ·omega
      ·exact h.2.2.2.1
     obtain ⟨a,k,hk⟩:=kids2 hk2
     have i0:idx t.kids 0=some a:=by rw [hk]; rfl
     have hb:(t.fn != 6)=true:=by simp [h6]
     rw [hb,if_pos rfl,i0,Ql]
     refine ⟨_,rfl,?_⟩
     rw [decide_eq_true_iff,hk]
     exact ⟨fun h=>⟨h4,h6,a,rfl,h⟩,fun ⟨_,_,x,hx,e⟩=>by
      have:a=x:=Option.some.inj hx
      rw [this]; exact e⟩
   ·rw [if_neg h4,Ql]
    exact ⟨false,rfl,⟨fun h=>(nomatch h),fun h=>absurd h.1 h4⟩⟩
  obtain ⟨b,eb,hb⟩:=hhead
  rw [Z2]
  simp only [eb,Ql,er]
  rw [mesT_f]
  cases b with
  | true=>exact ⟨true,rfl,fun _=>Or.inl (hb.1 rfl),fun _=>rfl⟩
  | false =>
   cases r with
   | inl u=>exact ⟨true,rfl,fun _=>Or.inr (hr.1 rfl),fun _=>rfl⟩
   | inr u =>
    refine ⟨false,rfl,⟨fun h=>(nomatch h),fun h=>?_⟩⟩
    rcases h with h|h
    ·exact absurd (hb.2 h) (by decide)
    ·have:=hr.2 h; cases this
theorem ElabSources_ok (l:List Qa) (t:Qc) (hb:numT t≤szT t * 140737488351232) (hn:namesOk t):Y2 (l,t)=some true:=by
 obtain ⟨b1,e1,h1⟩:=Few_is l
 obtain ⟨b3,e3,h3⟩:=tSmall_ok t hb hn
 unfold Y2
 simp only [Qa9,Ql,Bool.true_eq_false,if_false,etaT,e1]
 cases b1 with
 | false=>simp
 | true =>
 obtain ⟨h12,hb1⟩:=h1 rfl
 obtain ⟨b2,e2,h2⟩:=Right_is l (by omega) hb1
 simp only [Bool.not_true,Bool.false_eq_true,if_false,Ql,e2]
 cases b2 with
 | false=>simp
 | true =>
 have hl:okL l:=⟨h12,hb1,h2 rfl⟩
 simp only [Bool.not_true,Bool.false_eq_true,if_false,Ql,e3]
 cases b3 with
 | false=>simp
 | true =>
 obtain ⟨⟨f1,f2,f3⟩,_,hg⟩:=h3.1 rfl
 obtain ⟨S,c,e,eE,hE⟩:=expr_is hl (fun v=>mesT v t) 60 t f1 hg (by omega) (fun _ h=>h) [] (by simp; omega)
 have hpl:=namesF_len (stepsL t) []
 have hsl:=stepsL_len t
 have hat:=atomsT_le t
 unfold JE
 simp only [Bool.not_true,Bool.false_eq_true,if_false,Ql,Make_is hl,eE]
 by_cases he:e=0
 case neg =>
  simp only [he,ne_eq,not_false_eq_true,if_true,Ql]
  rfl
 subst he
 obtain ⟨_,q2,q3⟩:=hE rfl
 have hI:=q3 [] (InvS.nil _)
 simp only [ne_eq,not_true_eq_false,if_false,Ql,names_is (show szT t≤600 by omega),steps_is 600 t (by omega) (by omega)]
 have eL1:=fun v46 v15 v16 v17 v18 v19 v20 v21 v22 v23 v24 v25 v26 v27 v28 v29 v30 v31 v32 v33 v34 v35 v36 v37 v38 v39 v40 v41 v42 v43 v44 =>
  src_L1 t v46 v15 v16 v17 v18 v19 v20 v21 v22 v23 v24 v25 v26 v27 v28 v29 v30 v31 v32 v33 v34 v35 v36 v37 v38 v39 v40 v41 v42 v43 v44 (stepsL t) [] 0 (by simp; omega) (Nat.le_refl _)
 simp only [List.nil_append,List.length_nil,Int.natCast_zero,Nat.zero_add] at eL1
 have eL2:=fun n v15 v16 v17 v18 v19 v20 v21 v22 v23 v24 v25 v26 v27 v28 v29 v30 v31 v32 v33 v34 v35 v36 v37 v38 v39 v40 v41 v42 v43 =>
  src_L2 hI (fun v=>mes_is 60 t f1 (by omega) hg v) (by simp at hpl; omega) (by simp at q2; omega) n v15 v16 v17 v18 v19 v20 v21 v22 v23 v24 v25 v26 v27 v28 v29 v30 v31 v32 v33 v34 v35 v36 v37 v38 v39 v40 v41 v42 v43 S [] (-1) rfl (Or.inl rfl)
 simp only [List.length_nil,Int.natCast_zero] at eL2
 simp only [eL1,Ql,eL2]
 have:((S.length:Int)≤((atomsL (stepsL t):Nat):Int)):=by
  have:atomsT t=atomsL (stepsL t):=rfl
  simp at q2; omega
 simp only [this,decide_true]
end Go.Proofs.Tryz
