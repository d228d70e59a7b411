/-
 Models of functions, their walks, and plain laws.
-/
import Derived.Test.YtlnecbnmhhjdpaaGreatDoorKElabRightB
namespace Go.Proofs.Tryz
open Go Go.Pm
set_option linter.unusedVariables false
set_option maxHeartbeats 2000000
set_option maxRecDepth 2000
mutual
def ZS (x:(Qf × (List Qf) × Int)):Option ((List Qf)) :=
 match x with
 | (p0,v201,v202) =>
 if v202≥0 then
  idx p0.kids v202>>=fun v602 =>
  Jc v602>>=fun (v603:(List Qf)) =>
  app 88 v201 v603>>=fun v604 =>
  ZS (p0,v604,(W (v202 - 1)))
 else
 some v201
 partial_fixpoint
def Jc (x:Qf):Option (List Qf) :=
 match x with
 | p0 =>
 ZS (p0,([]:List Qf),(W ((p0.kids.length:Int) - 1)))>>=fun (v601:(List Qf)) =>
 app 88 v601 ([p0]:List Qf)>>=fun v605 =>
 some v605
 partial_fixpoint
end
def Qaz:(Qf × (List Qf) × Int)→(List Qf)→Prop:=fun x r=>match x with
 | (p0,v201,v202)=>∀ st,prune 2 ((QB (QL [1,1,0,1,0,0] (QN f25))).bind (env.hint 25).keepAt) st=⟨kp 25 [(1,(.ptr 0 0)),(3,(.vec 1 (Qf.toDs v201))),(4,(Qg v202))],[(.box [(Qg p0.kind),(Qg p0.fn),(Qg p0.axis),(.dat (strD p0.name)),(La p0.nums),(.dat (.lst (Qf.toDs p0.kids)))]),(.tok 26 v201.length)]⟩ →
  RL prog env (env.hint 25) true (QL [1,1,0,1,0,0] (QN f25)) 2 st (fun e s=>match r with|v601=>e=.exit 0∧∃ d,s=⟨sl d 25 [(1,(.ptr 0 0)),(3,(.vec 1 (Qf.toDs v601)))],[(.box [(Qg p0.kind),(Qg p0.fn),(Qg p0.axis),(.dat (strD p0.name)),(La p0.nums),(.dat (.lst (Qf.toDs p0.kids)))]),(.tok 26 v601.length)]⟩)
def QbM:Qf→(List Qf)→Prop:=fun x r=>match x,r with
 | p0,r0=>∀ H,PC prog env 25 ([(Qf.ex p0)].map .dat) H (.dat (.lst (Qf.toDs r0))) H
theorem g_ref08_Steps_L1:(∀ x r,ZS x=some r→Qaz x r)∧(∀ x r,Jc x=some r→QbM x r):=by
 refine ZS.mutual_partial_correctness Qaz QbM ?_ ?_
 ·intro ZS Jc QaM Qc0 x r hm
  unfold Qaz
  obtain ⟨p0,v201,v202⟩:=x
  intro st hst
  refine RL_at hst ?_
  clear hst
  refine Qd (Qd (R_G (Qa 2 (Qe ?_))))
  refine Qy hm (rfl) (fun hm=>?_) (fun hm=>?_)
  ·refine Qs (Qd (Qu (R_G (Qa 4 ?_))))
   obtain ⟨v602,hx,hm⟩:=Qh hm
   refine QaP 6 Qf.toD p0.kids v202 v602 (es:=Qf.toDs p0.kids) (d:=(Qf.ex v602)) (Qf.toDs_eq _) hx (Qf.toD_eq v602) rfl ?_
   refine Qa 1 ?_
   obtain ⟨v603,hx,hm⟩:=Qh hm
   have hq:=Qc0 _ _ hx []
   refine Qr hq ?_
   obtain ⟨v604,hx,hm⟩:=Qh hm
   refine Qc7 26 6 88 1 Qf.toD v201 v603 v604 (xs:=Qf.toDs v201) (es:=Qf.toDs v603) (L:=Qf.toDs) Qf.toDs_eq rfl rfl Qf.fit hx ?_
   refine Qa 1 (Qe (R_G (Qa 3 (Qe ?_))))
   exact QaM _ _ hm _ (by kernel_rfl)
  refine Zh ?_
  obtain rfl:=Qq hm
  exact ⟨rfl,Qp⟩
 ·intro ZS QaM p0 r0 hm
  unfold QbM
  intro H
  refine PC_sx (ds:=[(Qf.ex p0)]) (fn:=f25) rfl ?_
  refine Qd (R_G (Qa 2 (Qe (Qd (R_G (Qa 1 (Qe (Qd (Qd (R_G (Qa 2 ?_)))))))))))
  refine QP Qf.toD p0.kids (es:=Qf.toDs p0.kids) (Qf.toDs_eq _) ?_
  refine Qa 2 (Qe (Qu ?_))
  obtain ⟨v601,hs,hm⟩:=Qh hm
  refine Zk ?_
  refine RL_use (QaM _ _ hs) (by kernel_rfl) ?_
  clear hs
  intro e s hp
  obtain ⟨rfl,d,rfl⟩:=hp
  refine Qd (R_G (Qa 3 ?_))
  obtain ⟨v605,hx,hm⟩:=Qh hm
  refine Qc7 26 6 88 1 Qf.toD v601 ([p0]:List Qf) v605 (xs:=Qf.toDs v601) (es:=[(Qf.ex p0)]) (L:=Qf.toDs) Qf.toDs_eq rfl (by simp only [Qf.toDs,Qf.toD_eq]) Qf.fit hx ?_
  refine Qa 1 (Qe (Qo ?_))
  obtain rfl:=Qq hm
  exact ⟨trivial,Qk⟩
theorem QaM:∀ x r,ZS x=some r→Qaz x r:=g_ref08_Steps_L1.1
theorem Qc0:∀ x r,Jc x=some r→QbM x r:=g_ref08_Steps_L1.2
def XD (x:((List ByteArray) × ByteArray × Int)):Option (Unit ⊕ Unit) :=
 match x with
 | (p1,p0,v201) =>
 if v201 < (p1.length:Int) then
  idx p1 v201>>=fun v601 =>
  if v601=p0 then
   some (Sum.inl ())
  else
  XD (p1,p0,(W (v201+1)))
 else
 some (Sum.inr ())
 partial_fixpoint
def QeA:((List ByteArray) × ByteArray × Int)→(Unit ⊕ Unit)→Prop:=fun x r=>match x with
 | (p1,p0,v201)=>∀ st,prune 0 ((QB (QL [1,0,1,0,0] (QN f13))).bind (env.hint 13).keepAt) st=⟨kp 18 [(0,(.dat (strD p0))),(1,(.dat (.lst ((List.map strD) p1)))),(5,(Qg v201))],[]⟩ →
  RL prog env (env.hint 13) true (QL [1,0,1,0,0] (QN f13)) 0 st (fun e s=>match r with|.inl _=>e=.ret∧∃ d,s=⟨sl d 18 [(4,(Qm true))],[]⟩|.inr (_)=>e=.exit 0∧∃ d,s=⟨sl d 18 [],[]⟩)
theorem QbU:∀ x r,XD x=some r→QeA x r:=by
 refine XD.partial_correctness _ (fun XD QbU x r hm=>?_)
 unfold QeA
 obtain ⟨p1,p0,v201⟩:=x
 intro st hst
 refine RL_at hst ?_
 clear hst
 refine Qd (Qd (R_G (Qa 2 ?_)))
 refine QP strD p1 (es:=(List.map strD) p1) rfl ?_
 refine Qa 1 (Qe ?_)
 refine Qy hm (rfl) (fun hm=>?_) (fun hm=>?_)
 ·refine Qs (Qd (Qu (Qd (R_G (Qa 2 ?_)))))
  refine Zj 1 strD hm rfl (fun _=>rfl) (fun v601 hm=>?_)
  refine Qa 2 ?_
  refine Zt rfl (fun _=>Qc5 (a:=v601) (b:=p0) rfl (by kernel_rfl) (by kernel_rfl)) ?_
  refine Qe ?_
  refine Qy hm (rfl) (fun hm=>?_) (fun hm=>?_)
  ·refine Qd (R_G (Qa 1 (Qe (Qo ?_))))
   obtain rfl:=Qq hm
   exact ⟨rfl,Qp⟩
  refine Qs (R_G (Qa 3 (Qe ?_)))
  exact QbU _ _ hm _ (by kernel_rfl)
 refine Zh ?_
 obtain rfl:=Qq hm
 exact ⟨rfl,Qp⟩
def QbE (x:(ByteArray × (List ByteArray))):Option Bool :=
 match x with
 | (p0,p1) =>
 (
 XD (p1,p0,0)>>=fun (out:Unit ⊕ Unit) =>
 match out with
 | .inl _ =>
  some true
 | .inr (_) =>
  some false
 )
def QfP:(ByteArray × (List ByteArray))→Bool→Prop:=fun x r=>match x,r with
 | (p0,p1),r0=>∀ H,PC prog env 13 ([(strD p0),(.lst ((List.map strD) p1))].map .dat) H (Qm r0) H
theorem QfY:∀ x r,QbE x=some r→QfP x r:=by
 intro x r0 hm
 unfold QbE at hm
 unfold QfP
 obtain ⟨p0,p1⟩:=x
 intro H
 refine PC_sx (ds:=[(strD p0),(.lst ((List.map strD) p1))]) (fn:=f13) rfl ?_
 refine Qd (R_G (Qa 1 (Qe (Qd (Qd (R_G (Qa 1 (Qe (Qu ?_)))))))))
 obtain ⟨out,hs,hm⟩:=Qh hm
 refine Zk ?_
 rcases out with _|_
 ·refine RL_use (QbU _ _ hs) (by kernel_rfl) ?_
  clear hs
  intro e s hp
  obtain ⟨rfl,d,rfl⟩:=hp
  obtain rfl:=Qq hm
  exact ⟨trivial,Qk⟩
 ·refine RL_use (QbU _ _ hs) (by kernel_rfl) ?_
  clear hs
  intro e s hp
  obtain ⟨rfl,d,rfl⟩:=hp
  refine Qd (R_G (Qa 1 (Qe (Qo ?_))))
  obtain rfl:=Qq hm
  exact ⟨trivial,Qk⟩
def Yi (x:((List Qf) × Qf × (List ByteArray) × Int)):Option ((List ByteArray)) :=
 match x with
 | (v1,p0,v202,v203) =>
 if v203 < (v1.length:Int) then
  (idx v1 v203>>=fun v604 =>
  if v604.kind=2 then
   idx v1 v203>>=fun v605 =>
   QbE (v605.name,v202)>>=fun (v606:Bool) =>
   some (!v606)
  else
  some false
  )>>=fun (v603:Bool) =>
  if v603=true then
   idx v1 v203>>=fun v607 =>
   app 16 v202 ([v607.name]:List ByteArray)>>=fun v608 =>
   Yi (v1,p0,v608,(W (v203+1)))
  else
  Yi (v1,p0,v202,(W (v203+1)))
 else
 some v202
 partial_fixpoint
def Qdc:((List Qf) × Qf × (List ByteArray) × Int)→(List ByteArray)→Prop:=fun x r=>match x with
 | (v1,p0,v202,v203)=>∀ st,prune 2 ((QB (QL [1,1,1,0,1,0,0] (QN f10))).bind (env.hint 10).keepAt) st=⟨kp 39 [(3,(.vec 1 ((List.map strD) v202))),(4,(.dat (.lst (Qf.toDs v1)))),(5,(Qg v203))],[(.box [(Qg p0.kind),(Qg p0.fn),(Qg p0.axis),(.dat (strD p0.name)),(La p0.nums),(.dat (.lst (Qf.toDs p0.kids)))]),(.tok 9 v202.length)]⟩ →
  RL prog env (env.hint 10) true (QL [1,1,1,0,1,0,0] (QN f10)) 2 st (fun e s=>match r with|v602=>e=.exit 0∧∃ d,s=⟨sl d 39 [(3,(.vec 1 ((List.map strD) v602)))],[(.box [(Qg p0.kind),(Qg p0.fn),(Qg p0.axis),(.dat (strD p0.name)),(La p0.nums),(.dat (.lst (Qf.toDs p0.kids)))]),(.tok 9 v602.length)]⟩)
theorem QaL:∀ x r,Yi x=some r→Qdc x r:=by
 refine Yi.partial_correctness _ (fun Yi QaL x r hm=>?_)
 unfold Qdc
 obtain ⟨v1,p0,v202,v203⟩:=x
 intro st hst
 refine RL_at hst ?_
 clear hst
 refine Qd (Qd (R_G (Qa 2 ?_)))
 refine QP Qf.toD v1 (es:=Qf.toDs v1) (Qf.toDs_eq _) ?_
 refine Qa 1 (Qe ?_)
 refine Qy hm (rfl) (fun hm=>?_) (fun hm=>?_)
 ·refine Qs (Qd (Qu (Qd ?_)))
  obtain ⟨v603,hs,hm⟩:=Qh hm
  refine Yx (fun d=>⟨sl d 39 [(3,(.vec 1 ((List.map strD) v202))),(4,(.dat (.lst (Qf.toDs v1)))),(5,(Qg v203)),(29,(Qm v603))],[(.box [(Qg p0.kind),(Qg p0.fn),(Qg p0.axis),(.dat (strD p0.name)),(La p0.nums),(.dat (.lst (Qf.toDs p0.kids)))]),(.tok 9 v202.length)]⟩) ?_ (fun d=>?_)
  ·replace hm:=hs
   clear hs
   refine R_G (Qa 2 ?_)
   obtain ⟨v604,hx,hm⟩:=Qh hm
   refine QaP 6 Qf.toD v1 v203 v604 (es:=Qf.toDs v1) (d:=(Qf.ex v604)) (Qf.toDs_eq _) hx (Qf.toD_eq v604) rfl ?_
   refine Qa 4 ?_
   refine Qw 20 hm (ZN _ _) (fun hm=>?_) (fun hm=>?_)
   ·refine Qa 2 ?_
    obtain ⟨v605,hx,hm⟩:=Qh hm
    refine QaP 6 Qf.toD v1 v203 v605 (es:=Qf.toDs v1) (d:=(Qf.ex v605)) (Qf.toDs_eq _) hx (Qf.toD_eq v605) rfl ?_
    refine Qa 3 ?_
    obtain ⟨v606,hx,hm⟩:=Qh hm
    have hq:=QfY _ _ hx []
    refine Qr hq ?_
    refine Qa 2 (Qe ?_)
    obtain rfl:=Qq hm
    exact Qp
   refine Qa 9 (Qe ?_)
   obtain rfl:=Qq hm
   exact Qp
  clear hs
  refine Qy hm (Qz _) (fun hm=>?_) (fun hm=>?_)
  ·refine R_G (Qa 3 ?_)
   obtain ⟨v607,hx,hm⟩:=Qh hm
   refine QaP 6 Qf.toD v1 v203 v607 (es:=Qf.toDs v1) (d:=(Qf.ex v607)) (Qf.toDs_eq _) hx (Qf.toD_eq v607) rfl ?_
   refine Qa 3 ?_
   obtain ⟨v608,hx,hm⟩:=Qh hm
   refine Qc7 9 1 16 1 strD v202 ([v607.name]:List ByteArray) v608 (xs:=(List.map strD) v202) (es:=(List.map strD) ([v607.name]:List ByteArray)) (L:=(List.map strD)) (fun _=>rfl) rfl rfl (fun _=>rfl) hx ?_
   refine Qa 1 (Qe (R_G (Qa 3 (Qe ?_))))
   exact QaL _ _ hm _ (by kernel_rfl)
  refine Qs (R_G (Qa 3 (Qe ?_)))
  exact QaL _ _ hm _ (by kernel_rfl)
 refine Zh ?_
 obtain rfl:=Qq hm
 exact ⟨rfl,Qp⟩
def Qa1 (x:Qf):Option (List ByteArray) :=
 match x with
 | p0 =>
 Jc p0>>=fun (v1:(List Qf)) =>
 Yi (v1,p0,([]:List ByteArray),0)>>=fun (v602:(List ByteArray)) =>
 some v602
def QeB:Qf→(List ByteArray)→Prop:=fun x r=>match x,r with
 | p0,r0=>∀ H,PC prog env 10 ([(Qf.ex p0)].map .dat) H (.dat (.lst ((List.map strD) r0))) H
theorem Qge:∀ x r,Qa1 x=some r→QeB x r:=by
 intro p0 r0 hm
 unfold Qa1 at hm
 unfold QeB
 intro H
 refine PC_sx (ds:=[(Qf.ex p0)]) (fn:=f10) rfl ?_
 refine Qd (R_G (Qa 2 (Qe (Qd (R_G (Qa 1 (Qe (Qd (R_G (Qa 1 ?_))))))))))
 obtain ⟨v1,hx,hm⟩:=Qh hm
 have hq:=Qc0 _ _ hx []
 refine Qr hq ?_
 refine Qa 1 (Qe (Qd (Qd (R_G (Qa 1 (Qe (Qu ?_)))))))
 obtain ⟨v602,hs,hm⟩:=Qh hm
 refine Zk ?_
 refine RL_use (QaL _ _ hs) (by kernel_rfl) ?_
 clear hs
 intro e s hp
 obtain ⟨rfl,d,rfl⟩:=hp
 refine Qd (R_G (Qa 2 (Qe (Qo ?_))))
 obtain rfl:=Qq hm
 exact ⟨trivial,Qk⟩
def Xd (x:((List Qb) × ByteArray × Int)):Option (((List Int) × (List Int)) ⊕ Unit) :=
 match x with
 | (p0,p1,v201) =>
 if v201 < (p0.length:Int) then
  idx p0 v201>>=fun v603 =>
  if v603.name=p1 then
   idx p0 v201>>=fun v604 =>
   some (Sum.inl (v604.value.shape,v604.value.data))
  else
  Xd (p0,p1,(W (v201+1)))
 else
 some (Sum.inr ())
 partial_fixpoint
def QdT:((List Qb) × ByteArray × Int)→(((List Int) × (List Int)) ⊕ Unit)→Prop:=fun x r=>match x with
 | (p0,p1,v201)=>∀ st,prune 1 ((QB (QL [1,0,1,0,0] (QN f11))).bind (env.hint 11).keepAt) st=⟨kp 26 [(0,(.dat (.lst ((List.map Qb.toD) p0)))),(1,(.dat (strD p1))),(4,(.ptr 0 0)),(6,(Qg v201))],[(.box [Ea,Ea])]⟩ →
  RL prog env (env.hint 11) true (QL [1,0,1,0,0] (QN f11)) 1 st (fun e s=>match r with|.inl (v601,v602)=>e=.ret∧∃ d,s=⟨sl d 26 [(4,(.ptr 0 0)),(5,(Qm true))],[(.box [(La v601),(La v602)])]⟩|.inr (_)=>e=.exit 0∧∃ d,s=⟨sl d 26 [(4,(.ptr 0 0))],[(.box [Ea,Ea])]⟩)
theorem QbA:∀ x r,Xd x=some r→QdT x r:=by
 refine Xd.partial_correctness _ (fun Xd QbA x r hm=>?_)
 unfold QdT
 obtain ⟨p0,p1,v201⟩:=x
 intro st hst
 refine RL_at hst ?_
 clear hst
 refine Qd (Qd (R_G (Qa 2 ?_)))
 refine QP Qb.toD p0 (es:=(List.map Qb.toD) p0) rfl ?_
 refine Qa 1 (Qe ?_)
 refine Qy hm (rfl) (fun hm=>?_) (fun hm=>?_)
 ·refine Qs (Qd (Qu (Qd (R_G (Qa 2 ?_)))))
  refine Zj 3 Qb.toD hm rfl (fun _=>rfl) (fun v603 hm=>?_)
  refine Qa 3 ?_
  refine Zt rfl (fun _=>Qc5 (a:=v603.name) (b:=p1) rfl (by kernel_rfl) (by kernel_rfl)) ?_
  refine Qe ?_
  refine Qy hm (rfl) (fun hm=>?_) (fun hm=>?_)
  ·refine Qd (R_G (Qa 2 ?_))
   refine Zj 3 Qb.toD hm rfl (fun _=>rfl) (fun v604 hm=>?_)
   refine Qa 4 (Qe (Qo ?_))
   obtain rfl:=Qq hm
   exact ⟨rfl,Qp⟩
  refine Qs (R_G (Qa 3 (Qe ?_)))
  exact QbA _ _ hm _ (by kernel_rfl)
 refine Zh ?_
 obtain rfl:=Qq hm
 exact ⟨rfl,Qp⟩
def Qb6 (x:((List Qb) × ByteArray)):Option (Qt × Bool) :=
 match x with
 | (p0,p1) =>
 (
 Xd (p0,p1,0)>>=fun (out:((List Int) × (List Int)) ⊕ Unit) =>
 match out with
 | .inl (v601,v602) =>
  some ((⟨v601,v602⟩:Qt),true)
 | .inr (_) =>
  some ((⟨([]:(List Int)),([]:(List Int))⟩:Qt),false)
 )
def Qfz:((List Qb) × ByteArray)→(Qt × Bool)→Prop:=fun x r=>match x,r with
 | (p0,p1),(r0,r1)=>∀ H,PC prog env 11 ([(.lst ((List.map Qb.toD) p0)),(strD p1)].map .dat) H (.tup [(.dat (Qt.toD r0)),(Qm r1)]) H
theorem QgL:∀ x r,Qb6 x=some r→Qfz x r:=by
 intro x r hm
 unfold Qb6 at hm
 unfold Qfz
 obtain ⟨p0,p1⟩:=x
 obtain ⟨r0,r1⟩:=r
 intro H
 refine PC_sx (ds:=[(.lst ((List.map Qb.toD) p0)),(strD p1)]) (fn:=f11) rfl ?_
 refine Qd (R_G (Qa 2 (Qe (Qd (Qd (R_G (Qa 1 (Qe (Qu ?_)))))))))
 obtain ⟨out,hs,hm⟩:=Qh hm
 refine Zk ?_
 rcases out with ⟨v601,v602⟩|_
 ·refine RL_use (QbA _ _ hs) (by kernel_rfl) ?_
  clear hs
  intro e s hp
  obtain ⟨rfl,d,rfl⟩:=hp
  obtain ⟨rfl,rfl⟩:=Zl hm
  exact ⟨trivial,Qk⟩
 ·refine RL_use (QbA _ _ hs) (by kernel_rfl) ?_
  clear hs
  intro e s hp
  obtain ⟨rfl,d,rfl⟩:=hp
  refine Qd (R_G (Qa 3 (Qe (Qo ?_))))
  obtain ⟨rfl,rfl⟩:=Zl hm
  exact ⟨trivial,Qk⟩
def Yh (x:((List Int) × (List Int) × Int)):Option (Unit ⊕ Unit) :=
 match x with
 | (p0,p1,v201) =>
 if v201 < (p0.length:Int) then
  idx p0 v201>>=fun v601 =>
  idx p1 v201>>=fun v602 =>
  if v601≠v602 then
   some (Sum.inl ())
  else
  Yh (p0,p1,(W (v201+1)))
 else
 some (Sum.inr ())
 partial_fixpoint
def Qda:((List Int) × (List Int) × Int)→(Unit ⊕ Unit)→Prop:=fun x r=>match x with
 | (p0,p1,v201)=>∀ st,prune 0 ((QB (QL [1,1,0,1,0,0] (QN f26))).bind (env.hint 26).keepAt) st=⟨kp 26 [(0,(La p0)),(1,(La p1)),(5,(Qg v201))],[]⟩ →
  RL prog env (env.hint 26) true (QL [1,1,0,1,0,0] (QN f26)) 0 st (fun e s=>match r with|.inl _=>e=.ret∧∃ d,s=⟨sl d 26 [(4,(Qm false))],[]⟩|.inr (_)=>e=.exit 0∧∃ d,s=⟨sl d 26 [],[]⟩)
theorem QaI:∀ x r,Yh x=some r→Qda x r:=by
 refine Yh.partial_correctness _ (fun Yh QaI x r hm=>?_)
 unfold Qda
 obtain ⟨p0,p1,v201⟩:=x
 intro st hst
 refine RL_at hst ?_
 clear hst
 refine Qd (Qd (R_G (Qa 2 ?_)))
 refine QP Qi p0 (es:=(List.map Qi) p0) rfl ?_
 refine Qa 1 (Qe ?_)
 refine Qy hm (rfl) (fun hm=>?_) (fun hm=>?_)
 ·refine Qs (Qd (Qu (Qd ?_)))
  refine QaB ?_
  refine Qa 2 ?_
  refine Zj 1 Qi hm rfl (fun _=>rfl) (fun v601 hm=>?_)
  refine Qa 3 ?_
  refine Zj 1 Qi hm rfl (fun _=>rfl) (fun v602 hm=>?_)
  refine Qa 2 ?_
  refine Qe ⟨by kernel_rfl,?_⟩
  refine Qy hm (ne_dec _ _) (fun hm=>?_) (fun hm=>?_)
  ·refine Qd (R_G (Qa 1 (Qe (Qo ?_))))
   obtain rfl:=Qq hm
   exact ⟨rfl,Qp⟩
  refine Qs (R_G (Qa 3 (Qe ?_)))
  exact QaI _ _ hm _ (by kernel_rfl)
 refine Zh ?_
 obtain rfl:=Qq hm
 exact ⟨rfl,Qp⟩
def QaZ (x:((List Int) × (List Int))):Option Bool :=
 match x with
 | (p0,p1) =>
 if (p0.length:Int)≠(p1.length:Int) then
  some false
 else
 (
 Yh (p0,p1,0)>>=fun (out:Unit ⊕ Unit) =>
 match out with
 | .inl _ =>
  some false
 | .inr (_) =>
  some true
 )
def Qew:((List Int) × (List Int))→Bool→Prop:=fun x r=>match x,r with
 | (p0,p1),r0=>∀ H,PC prog env 26 ([(Lb p0),(Lb p1)].map .dat) H (Qm r0) H
theorem Qga:∀ x r,QaZ x=some r→Qew x r:=by
 intro x r0 hm
 unfold QaZ at hm
 unfold Qew
 obtain ⟨p0,p1⟩:=x
 intro H
 refine PC_sx (ds:=[(Lb p0),(Lb p1)]) (fn:=f26) rfl ?_
 refine Qd (R_G (Qa 1 (Qe (Qd (Qd (R_G (Qa 1 ?_)))))))
 refine QP Qi p0 (es:=(List.map Qi) p0) rfl ?_
 refine Qa 1 ?_
 refine QP Qi p1 (es:=(List.map Qi) p1) rfl ?_
 refine Qa 1 (Qe ?_)
 refine Qy hm (ne_dec _ _) (fun hm=>?_) (fun hm=>?_)
 ·refine Qd (R_G (Qa 1 (Qe (Qo ?_))))
  obtain rfl:=Qq hm
  exact ⟨trivial,Qk⟩
 refine Qs (Qd (Qd (R_G (Qa 1 (Qe (Qu ?_))))))
 obtain ⟨out,hs,hm⟩:=Qh hm
 refine Zk ?_
 rcases out with _|_
 ·refine RL_use (QaI _ _ hs) (by kernel_rfl) ?_
  clear hs
  intro e s hp
  obtain ⟨rfl,d,rfl⟩:=hp
  obtain rfl:=Qq hm
  exact ⟨trivial,Qk⟩
 ·refine RL_use (QaI _ _ hs) (by kernel_rfl) ?_
  clear hs
  intro e s hp
  obtain ⟨rfl,d,rfl⟩:=hp
  refine Qd (R_G (Qa 1 (Qe (Qo ?_))))
  obtain rfl:=Qq hm
  exact ⟨trivial,Qk⟩
def YH (x:(Qt × Qt × Int)):Option (Unit ⊕ Unit) :=
 match x with
 | (p0,p1,v203) =>
 if v203 < (p0.data.length:Int) then
  idx p0.data v203>>=fun v603 =>
  idx p1.data v203>>=fun v604 =>
  if v603≠v604 then
   some (Sum.inl ())
  else
  YH (p0,p1,(W (v203+1)))
 else
 some (Sum.inr ())
 partial_fixpoint
def Qdb:(Qt × Qt × Int)→(Unit ⊕ Unit)→Prop:=fun x r=>match x with
 | (p0,p1,v203)=>∀ st,prune 2 ((QB (QL [1,1,0,1,0,0] (QN f12))).bind (env.hint 12).keepAt) st=⟨kp 39 [(2,(.ptr 0 0)),(3,(.ptr 1 0)),(5,(Qg v203))],[(.box [(La p0.shape),(La p0.data)]),(.box [(La p1.shape),(La p1.data)])]⟩ →
  RL prog env (env.hint 12) true (QL [1,1,0,1,0,0] (QN f12)) 2 st (fun e s=>match r with|.inl _=>e=.ret∧∃ d,s=⟨sl d 39 [(4,(Qm false))],[(.box [(La p0.shape),(La p0.data)]),(.box [(La p1.shape),(La p1.data)])]⟩|.inr (_)=>e=.exit 0∧∃ d,s=⟨sl d 39 [],[(.box [(La p0.shape),(La p0.data)]),(.box [(La p1.shape),(La p1.data)])]⟩)
theorem QaJ:∀ x r,YH x=some r→Qdb x r:=by
 refine YH.partial_correctness _ (fun YH QaJ x r hm=>?_)
 unfold Qdb
 obtain ⟨p0,p1,v203⟩:=x
 intro st hst
 refine RL_at hst ?_
 clear hst
 refine Qd (Qd (R_G (Qa 3 ?_)))
 refine QP Qi p0.data (es:=(List.map Qi) p0.data) rfl ?_
 refine Qa 1 (Qe ?_)
 refine Qy hm (rfl) (fun hm=>?_) (fun hm=>?_)
 ·refine Qs (Qd (Qu (Qd ?_)))
  refine QaB ?_
  refine Qa 3 ?_
  refine Zj 1 Qi hm rfl (fun _=>rfl) (fun v603 hm=>?_)
  refine Qa 4 ?_
  refine Zj 1 Qi hm rfl (fun _=>rfl) (fun v604 hm=>?_)
  refine Qa 2 ?_
  refine Qe ⟨by kernel_rfl,?_⟩
  refine Qy hm (ne_dec _ _) (fun hm=>?_) (fun hm=>?_)
  ·refine Qd (R_G (Qa 1 (Qe (Qo ?_))))
   obtain rfl:=Qq hm
   exact ⟨rfl,Qp⟩
  refine Qs (R_G (Qa 3 (Qe ?_)))
  exact QaJ _ _ hm _ (by kernel_rfl)
 refine Zh ?_
 obtain rfl:=Qq hm
 exact ⟨rfl,Qp⟩
def JT (x:(Qt × Qt)):Option Bool :=
 match x with
 | (p0,p1) =>
 (QaZ (p0.shape,p1.shape)>>=fun (v2:Bool) =>
 if v2=false then
  some true
 else
 some ((p0.data.length:Int) != (p1.data.length:Int))
 )>>=fun (v1:Bool) =>
 if v1=true then
  some false
 else
 (
 YH (p0,p1,0)>>=fun (out:Unit ⊕ Unit) =>
 match out with
 | .inl _ =>
  some false
 | .inr (_) =>
  some true
 )
def Qey:(Qt × Qt)→Bool→Prop:=fun x r=>match x,r with
 | (p0,p1),r0=>∀ H,PC prog env 12 ([(Qt.toD p0),(Qt.toD p1)].map .dat) H (Qm r0) H
theorem Qgc:∀ x r,JT x=some r→Qey x r:=by
 intro x r0 hm
 unfold JT at hm
 unfold Qey
 obtain ⟨p0,p1⟩:=x
 intro H
 refine PC_sx (ds:=[(Qt.toD p0),(Qt.toD p1)]) (fn:=f12) rfl ?_
 refine Qd (R_G (Qa 3 (Qe (Qd (Qd ?_)))))
 obtain ⟨v1,hs,hm⟩:=Qh hm
 refine Yx (fun d=>⟨sl d 39 [(2,(.ptr 0 0)),(3,(.ptr 1 0)),(20,(Qm v1))],[(.box [(La p0.shape),(La p0.data)]),(.box [(La p1.shape),(La p1.data)])]⟩) ?_ (fun d=>?_)
 ·replace hm:=hs
  clear hs
  refine R_G (Qa 4 ?_)
  obtain ⟨v2,hx,hm⟩:=Qh hm
  have hq:=Qga _ _ hx []
  refine Qr hq ?_
  refine Qa 2 ?_
  refine Qw 12 hm (Xp _) (fun hm=>?_) (fun hm=>?_)
  ·refine Qa 8 (Qe ?_)
   obtain rfl:=Qq hm
   exact Qp
  refine Qa 2 ?_
  refine QP Qi p0.data (es:=(List.map Qi) p0.data) rfl ?_
  refine Qa 2 ?_
  refine QP Qi p1.data (es:=(List.map Qi) p1.data) rfl ?_
  refine Qa 2 (Qe ?_)
  obtain rfl:=Qq hm
  exact Qp
 clear hs
 refine Qy hm (Qz _) (fun hm=>?_) (fun hm=>?_)
 ·refine Qd (R_G (Qa 1 (Qe (Qo ?_))))
  obtain rfl:=Qq hm
  exact ⟨trivial,Qk⟩
 refine Qs (Qd (Qd (R_G (Qa 1 (Qe (Qu ?_))))))
 obtain ⟨out,hs,hm⟩:=Qh hm
 refine Zk ?_
 rcases out with _|_
 ·refine RL_use (QaJ _ _ hs) (by kernel_rfl) ?_
  clear hs
  intro e s hp
  obtain ⟨rfl,d,rfl⟩:=hp
  obtain rfl:=Qq hm
  exact ⟨trivial,Qk⟩
 ·refine RL_use (QaJ _ _ hs) (by kernel_rfl) ?_
  clear hs
  intro e s hp
  obtain ⟨rfl,d,rfl⟩:=hp
  refine Qd (R_G (Qa 1 (Qe (Qo ?_))))
  obtain rfl:=Qq hm
  exact ⟨trivial,Qk⟩
def YF (x:(ZM × (List (List Int)) × Int)):Option ((List (List Int))) :=
 match x with
 | (p0,v201,v202) =>
 if v202 < (p0.sources.length:Int) then
  idx p0.sources v202>>=fun v602 =>
  QA v602.value.shape>>=fun v603 =>
  app 24 v201 ([v603]:List (List Int))>>=fun v604 =>
  YF (p0,v604,(W (v202+1)))
 else
 some v201
 partial_fixpoint
def Qc8:(ZM × (List (List Int)) × Int)→(List (List Int))→Prop:=fun x r=>match x with
 | (p0,v201,v202)=>∀ st,prune 2 ((QB (QL [1,1,0,1,0,0] (QN f15))).bind (env.hint 15).keepAt) st=⟨kp 22 [(3,(.vec 1 ((List.map (fun l=>Dat.lst ((List.map Qi) l))) v201))),(7,(.dat (.lst ((List.map Qj.toD) p0.sources)))),(8,(Qg (p0.sources.length:Int))),(9,(Qg v202))],[(.box [(Qg p0.core.kind),(La p0.core.shape),(Qg p0.core.buffer),(La p0.core.starts),(Qg p0.core.axis),(Qg p0.core.amount),(La p0.core.perm),(.dat (.lst (Qc.toDs p0.core.kids))),(.dat (.lst ((List.map Qj.toD) p0.sources)))]),(.tok 33 v201.length)]⟩ →
  RL prog env (env.hint 15) true (QL [1,1,0,1,0,0] (QN f15)) 2 st (fun e s=>match r with|v601=>e=.exit 0∧∃ d,s=⟨sl d 22 [(3,(.vec 1 ((List.map (fun l=>Dat.lst ((List.map Qi) l))) v601)))],[(.box [(Qg p0.core.kind),(La p0.core.shape),(Qg p0.core.buffer),(La p0.core.starts),(Qg p0.core.axis),(Qg p0.core.amount),(La p0.core.perm),(.dat (.lst (Qc.toDs p0.core.kids))),(.dat (.lst ((List.map Qj.toD) p0.sources)))]),(.tok 33 v601.length)]⟩)
theorem QbG:∀ x r,YF x=some r→Qc8 x r:=by
 refine YF.partial_correctness _ (fun YF QbG x r hm=>?_)
 unfold Qc8
 obtain ⟨p0,v201,v202⟩:=x
 intro st hst
 refine RL_at hst ?_
 clear hst
 refine Qd (R_G (Qa 1 (Qe (Qd ?_))))
 refine Qy hm (rfl) (fun hm=>?_) (fun hm=>?_)
 ·refine Qs (Qd (Qu (Qd (R_G ?_))))
  refine Zj 3 Qj.toD hm rfl (fun _=>rfl) (fun v602 hm=>?_)
  refine Qa 3 (Qe (R_G (Qa 4 ?_)))
  obtain ⟨v603,hx,hm⟩:=Qh hm
  have hq:=QF _ _ hx
  dsimp only [QC] at hq
  refine Zt (v:=.dat (Lb v603)) rfl (fun _=>QcH (f:=28) (first:=#[]) (cap:=#[]) (e:=3) (ow':=[]) (ds:=[.lst ((List.map Qi) v602.value.shape)]) rfl (by kernel_rfl) (by kernel_rfl) (by kernel_rfl) (by kernel_rfl) hq (p1_ms (pc_ms (e:=3) Qi v603 rfl (fun _=>rfl) (by kernel_rfl)))) ?_
  refine Qa 1 ?_
  obtain ⟨v604,hx,hm⟩:=Qh hm
  refine Qc7 33 1 24 1 (fun l=>Dat.lst ((List.map Qi) l)) v201 ([v603]:List (List Int)) v604 (xs:=(List.map (fun l=>Dat.lst ((List.map Qi) l))) v201) (es:=(List.map (fun l=>Dat.lst ((List.map Qi) l))) ([v603]:List (List Int))) (L:=(List.map (fun l=>Dat.lst ((List.map Qi) l)))) (fun _=>rfl) rfl rfl (fun _=>rfl) hx ?_
  refine Qa 1 (Qe (R_G (Qa 2 (Qe ?_))))
  exact QbG _ _ hm _ (by kernel_rfl)
 refine Zh ?_
 obtain rfl:=Qq hm
 exact ⟨rfl,Qp⟩
def QaX (x:ZM):Option (List (List Int)) :=
 match x with
 | p0 =>
 YF (p0,([]:List (List Int)),0)>>=fun (v601:(List (List Int))) =>
 some v601
def Qeq:ZM→(List (List Int))→Prop:=fun x r=>match x,r with
 | p0,r0=>∀ H,PC prog env 15 ([(ZM.toD p0)].map .dat) H (.dat (.lst ((List.map (fun l=>Dat.lst ((List.map Qi) l))) r0))) H
theorem Qf8:∀ x r,QaX x=some r→Qeq x r:=by
 intro p0 r0 hm
 unfold QaX at hm
 unfold Qeq
 intro H
 refine PC_sx (ds:=[(ZM.toD p0)]) (fn:=f15) rfl ?_
 refine Qd (R_G (Qa 2 (Qe (Qd (R_G (Qa 1 (Qe (Qd (Qd (R_G (Qa 2 ?_)))))))))))
 refine QP Qj.toD p0.sources (es:=(List.map Qj.toD) p0.sources) rfl ?_
 refine Qa 1 (Qe (Qu ?_))
 obtain ⟨v601,hs,hm⟩:=Qh hm
 refine Zk ?_
 refine RL_use (QbG _ _ hs) (by kernel_rfl) ?_
 clear hs
 intro e s hp
 obtain ⟨rfl,d,rfl⟩:=hp
 refine Qd (R_G (Qa 2 (Qe (Qo ?_))))
 obtain rfl:=Qq hm
 exact ⟨trivial,Qk⟩
def YM (x:Qc):Option Bool :=
 match x with
 | p0 =>
 ((if p0.kind=3 then
  some true
 else
 some (p0.kind == 4)
 )>>=fun (v2:Bool) =>
 if v2=true then
  some true
 else
 some (p0.kind == 7)
 )>>=fun (v1:Bool) =>
 (if p0.kind≠1 then
  some (p0.buffer != 0)
 else
 some false
 )>>=fun (v3:Bool) =>
 (if v3=true then
  some v3
 else
 if p0.kind≠2 then
  some (decide ((p0.starts.length:Int) > 0))
 else
 some false
 )>>=fun (v4:Bool) =>
 if v4=true then
  some false
 else
 (if v1=false then
  some (p0.axis != 0)
 else
 some false
 )>>=fun (v5:Bool) =>
 (if v5=true then
  some v5
 else
 (if p0.kind≠4 then
  some (p0.amount != 0)
 else
 some false
 )>>=fun (v7:Bool) =>
 if v7=true then
  some v7
 else
 if p0.kind≠5 then
  some (decide ((p0.perm.length:Int) > 0))
 else
 some false
 )>>=fun (v6:Bool) =>
 if v6=true then
  some false
 else
 some true
def Qep:Qc→Bool→Prop:=fun x r=>match x,r with
 | p0,r0=>∀ H,PC prog env 78 ([(Qc.ex p0)].map .dat) H (Qm r0) H
theorem Qf7:∀ x r,YM x=some r→Qep x r:=by
 intro p0 r0 hm
 unfold YM at hm
 unfold Qep
 intro H
 refine PC_sx (ds:=[(Qc.ex p0)]) (fn:=f78) rfl ?_
 refine Qd (R_G (Qa 2 (Qe (Qd ?_))))
 obtain ⟨v1,hs,hm⟩:=Qh hm
 refine Yx (fun d=>⟨sl d 60 [(1,(.ptr 0 0)),(3,(Qm v1))],[(.box [(Qg p0.kind),(La p0.shape),(Qg p0.buffer),(La p0.starts),(Qg p0.axis),(Qg p0.amount),(La p0.perm),(.dat (.lst (Qc.toDs p0.kids)))])]⟩) ?_ (fun d=>?_)
 ·replace hm:=hs
  clear hs
  refine QcY ?_
  refine Qa 4 ?_
  obtain ⟨v2,hs,hm⟩:=Qh hm
  refine YC (j:=8) (fun d=>⟨sl d 60 [(1,(.ptr 0 0)),(11,(Qm v2))],[(.box [(Qg p0.kind),(La p0.shape),(Qg p0.buffer),(La p0.starts),(Qg p0.axis),(Qg p0.amount),(La p0.perm),(.dat (.lst (Qc.toDs p0.kids)))])]⟩) (fun d=>?_) (fun hJ=>?_)
  ·clear hs
   refine Qa 1 ?_
   refine Qw 12 hm (Qz _) (fun hm=>?_) (fun hm=>?_)
   ·refine Qa 5 ?_
    refine Qe ⟨by kernel_rfl,?_⟩
    obtain rfl:=Qq hm
    exact Qp
   refine Qa 5 ?_
   refine Qe ⟨by kernel_rfl,?_⟩
   obtain rfl:=Qq hm
   exact Qp
  clear hm
  refine Qw 7 hs (ZN _ _) (fun hm=>?_) (fun hm=>?_)
  ·refine Qa 4 ?_
   obtain rfl:=Qq hm
   exact hJ _ _
  refine Qa 4 ?_
  obtain rfl:=Qq hm
  exact hJ _ _
 clear hs
 refine Qd (Qu (Qd (Qd ?_)))
 obtain ⟨v3,hs,hm⟩:=Qh hm
 refine Yx (fun d=>⟨sl d 60 [(1,(.ptr 0 0)),(3,(Qm v1)),(17,(Qm v3))],[(.box [(Qg p0.kind),(La p0.shape),(Qg p0.buffer),(La p0.starts),(Qg p0.axis),(Qg p0.amount),(La p0.perm),(.dat (.lst (Qc.toDs p0.kids)))])]⟩) ?_ (fun d=>?_)
 ·replace hm:=hs
  clear hs
  refine R_G (Qa 4 ?_)
  refine Qw 21 hm (ne_dec _ _) (fun hm=>?_) (fun hm=>?_)
  ·refine Qa 5 (Qe ?_)
   obtain rfl:=Qq hm
   exact Qp
  refine Qa 5 (Qe ?_)
  obtain rfl:=Qq hm
  exact Qp
 clear hs
 obtain ⟨v4,hs,hm⟩:=Qh hm
 refine Yx (fun d=>⟨sl d 60 [(1,(.ptr 0 0)),(3,(Qm v1)),(17,(Qm v4))],[(.box [(Qg p0.kind),(La p0.shape),(Qg p0.buffer),(La p0.starts),(Qg p0.axis),(Qg p0.amount),(La p0.perm),(.dat (.lst (Qc.toDs p0.kids)))])]⟩) ?_ (fun d=>?_)
 ·replace hm:=hs
  clear hs
  refine Qy hm (Qz _) (fun hm=>?_) (fun hm=>?_)
  ·refine Qs ?_
   obtain rfl:=Qq hm
   exact Qp
  refine R_G (Qa 4 ?_)
  refine Qw 29 hm (ne_dec _ _) (fun hm=>?_) (fun hm=>?_)
  ·refine Qa 2 ?_
   refine QP Qi p0.starts (es:=(List.map Qi) p0.starts) rfl ?_
   refine Qa 3 (Qe ?_)
   obtain rfl:=Qq hm
   exact Qp
  refine Qa 6 (Qe ?_)
  obtain rfl:=Qq hm
  exact Qp
 clear hs
 refine Qy hm (Qz _) (fun hm=>?_) (fun hm=>?_)
 ·refine Qd (R_G (Qa 1 (Qe (Qo ?_))))
  obtain rfl:=Qq hm
  exact ⟨trivial,Qk⟩
 refine Qd (Qd ?_)
 obtain ⟨v5,hs,hm⟩:=Qh hm
 refine Yx (fun d=>⟨sl d 60 [(1,(.ptr 0 0)),(35,(Qm v5))],[(.box [(Qg p0.kind),(La p0.shape),(Qg p0.buffer),(La p0.starts),(Qg p0.axis),(Qg p0.amount),(La p0.perm),(.dat (.lst (Qc.toDs p0.kids)))])]⟩) ?_ (fun d=>?_)
 ·replace hm:=hs
  clear hs
  refine R_G (Qa 3 ?_)
  refine Qw 38 hm (Xp _) (fun hm=>?_) (fun hm=>?_)
  ·refine Qa 5 (Qe ?_)
   obtain rfl:=Qq hm
   exact Qp
  refine Qa 5 (Qe ?_)
  obtain rfl:=Qq hm
  exact Qp
 clear hs
 obtain ⟨v6,hs,hm⟩:=Qh hm
 refine Yx (fun d=>⟨sl d 60 [(35,(Qm v6))],[(.box [(Qg p0.kind),(La p0.shape),(Qg p0.buffer),(La p0.starts),(Qg p0.axis),(Qg p0.amount),(La p0.perm),(.dat (.lst (Qc.toDs p0.kids)))])]⟩) ?_ (fun d=>?_)
 ·replace hm:=hs
  clear hs
  refine Qy hm (Qz _) (fun hm=>?_) (fun hm=>?_)
  ·refine Qs ?_
   obtain rfl:=Qq hm
   exact Qp
  refine Qd ?_
  obtain ⟨v7,hs,hm⟩:=Qh hm
  refine Yx (fun d=>⟨sl d 60 [(1,(.ptr 0 0)),(35,(Qm v7))],[(.box [(Qg p0.kind),(La p0.shape),(Qg p0.buffer),(La p0.starts),(Qg p0.axis),(Qg p0.amount),(La p0.perm),(.dat (.lst (Qc.toDs p0.kids)))])]⟩) ?_ (fun d=>?_)
  ·replace hm:=hs
   clear hs
   refine R_G (Qa 4 ?_)
   refine Qw 46 hm (ne_dec _ _) (fun hm=>?_) (fun hm=>?_)
   ·refine Qa 5 (Qe ?_)
    obtain rfl:=Qq hm
    exact Qp
   refine Qa 5 (Qe ?_)
   obtain rfl:=Qq hm
   exact Qp
  clear hs
  refine Qy hm (Qz _) (fun hm=>?_) (fun hm=>?_)
  ·refine Qs ?_
   obtain rfl:=Qq hm
   exact Qp
  refine R_G (Qa 4 ?_)
  refine Qw 54 hm (ne_dec _ _) (fun hm=>?_) (fun hm=>?_)
  ·refine Qa 2 ?_
   refine QP Qi p0.perm (es:=(List.map Qi) p0.perm) rfl ?_
   refine Qa 3 (Qe ?_)
   obtain rfl:=Qq hm
   exact Qp
  refine Qa 6 (Qe ?_)
  obtain rfl:=Qq hm
  exact Qp
 clear hs
 refine Qy hm (Qz _) (fun hm=>?_) (fun hm=>?_)
 ·refine Qd (R_G (Qa 1 (Qe (Qo ?_))))
  obtain rfl:=Qq hm
  exact ⟨trivial,Qk⟩
 refine Qs (Qd (R_G (Qa 1 (Qe (Qo ?_)))))
 obtain rfl:=Qq hm
 exact ⟨trivial,Qk⟩
def Jt (x:Qc):Option Bool :=
 match x with
 | p0 =>
 some true
def QdP:Qc→Bool→Prop:=fun x r=>match x,r with
 | p0,r0=>∀ H,PC prog env 178 ([(Qc.ex p0)].map .dat) H (Qm r0) H
theorem Qd7:∀ x r,Jt x=some r→QdP x r:=by
 intro p0 r0 hm
 unfold Jt at hm
 unfold QdP
 intro H
 refine PC_sx (ds:=[(Qc.ex p0)]) (fn:=f178) rfl ?_
 refine Qd (R_G (Qa 2 (Qe (Qd (R_G (Qa 1 (Qe (Qo ?_))))))))
 obtain rfl:=Qq hm
 exact ⟨trivial,Qk⟩
def XY (x:Int):Option Bool :=
 match x with
 | p0 =>
 if p0 < (-65536) then
  some true
 else
 some (decide (p0 > 65536))
def QbX:Int→Bool→Prop:=fun x r=>match x,r with
 | p0,r0=>∀ H,PC prog env 191 ([(Qi p0)].map .dat) H (Qm r0) H
theorem Qd9:∀ x r,XY x=some r→QbX x r:=by
 intro p0 r0 hm
 unfold XY at hm
 unfold QbX
 intro H
 refine PC_sx (ds:=[(Qi p0)]) (fn:=f191) rfl ?_
 refine Qd (R_G (Qa 1 (Qe (Qd (R_G (Qa 3 ?_))))))
 refine Qw 5 hm (rfl) (fun hm=>?_) (fun hm=>?_)
 ·refine Qa 4 (Qe (Qo ?_))
  obtain rfl:=Qq hm
  exact ⟨trivial,Qk⟩
 refine Qa 4 (Qe (Qo ?_))
 obtain rfl:=Qq hm
 exact ⟨trivial,Qk⟩
def QI (x:((List Int) × Int)):Option (Int ⊕ Unit) :=
 match x with
 | (p0,v201) =>
 if v201 < (p0.length:Int) then
  idx p0 v201>>=fun v602 =>
  XY v602>>=fun (v603:Bool) =>
  if v603=true then
   some (Sum.inl v201)
  else
  QI (p0,(W (v201+1)))
 else
 some (Sum.inr ())
 partial_fixpoint
def Yp:((List Int) × Int)→(Int ⊕ Unit)→Prop:=fun x r=>match x with
 | (p0,v201)=>∀ st,prune 0 ((QB (QL [1,0,1,0,0] (QN f155))).bind (env.hint 155).keepAt) st=⟨kp 19 [(0,(La p0)),(1,(.dat (.raw (.func (.func 191) #[] #[])))),(7,(Qg (p0.length:Int))),(8,(Qg v201))],[]⟩ →
  RL prog env (env.hint 155) true (QL [1,0,1,0,0] (QN f155)) 0 st (fun e s=>match r with|.inl v601=>e=.ret∧∃ d,s=⟨sl d 19 [(4,(Qg v601))],[]⟩|.inr (_)=>e=.exit 0∧∃ d,s=⟨sl d 19 [],[]⟩)
theorem Zf:∀ x r,QI x=some r→Yp x r:=by
 refine QI.partial_correctness _ (fun QI Zf x r hm=>?_)
 unfold Yp
 obtain ⟨p0,v201⟩:=x
 intro st hst
 refine RL_at hst ?_
 clear hst
 refine Qd (R_G (Qa 1 (Qe (Qd ?_))))
 refine Qy hm (rfl) (fun hm=>?_) (fun hm=>?_)
 ·refine Qs (Qd (Qu (Qd (R_G (Qa 2 (Qe (Qd (R_G (Qa 3 ?_)))))))))
  refine Zj 1 Qi hm rfl (fun _=>rfl) (fun v602 hm=>?_)
  refine Qa 1 ?_
  obtain ⟨v603,hx,hm⟩:=Qh hm
  have hq:=Qd9 _ _ hx []
  refine Qr hq ?_
  refine Qe ?_
  refine Qy hm (Qz _) (fun hm=>?_) (fun hm=>?_)
  ·refine Qd (R_G (Qa 2 (Qe (Qo ?_))))
   obtain rfl:=Qq hm
   exact ⟨rfl,Qp⟩
  refine Qs (R_G (Qa 2 (Qe ?_)))
  exact Zf _ _ hm _ (by kernel_rfl)
 refine Zh ?_
 obtain rfl:=Qq hm
 exact ⟨rfl,Qp⟩
def Zm (x:(List Int)):Option Int :=
 match x with
 | p0 =>
 (
 QI (p0,0)>>=fun (out:Int ⊕ Unit) =>
 match out with
 | .inl v601 =>
  some v601
 | .inr (_) =>
  some (-1)
 )
def YD:(List Int)→Int→Prop:=fun x r=>match x,r with
 | p0,r0=>∀ H,PC prog env 155 ([(Lb p0),(.raw (.func (.func 191) #[] #[]))].map .dat) H (Qg r0) H
theorem Jf:∀ x r,Zm x=some r→YD x r:=by
 intro p0 r0 hm
 unfold Zm at hm
 unfold YD
 intro H
 refine PC_sx (ds:=[(Lb p0),(.raw (.func (.func 191) #[] #[]))]) (fn:=f155) rfl ?_
 refine Qd (R_G (Qa 1 (Qe (Qd (Qd (R_G (Qa 1 ?_)))))))
 refine QP Qi p0 (es:=(List.map Qi) p0) rfl ?_
 refine Qa 1 (Qe (Qu ?_))
 obtain ⟨out,hs,hm⟩:=Qh hm
 refine Zk ?_
 rcases out with v601|_
 ·refine RL_use (Zf _ _ hs) (by kernel_rfl) ?_
  clear hs
  intro e s hp
  obtain ⟨rfl,d,rfl⟩:=hp
  obtain rfl:=Qq hm
  exact ⟨trivial,Qk⟩
 ·refine RL_use (Zf _ _ hs) (by kernel_rfl) ?_
  clear hs
  intro e s hp
  obtain ⟨rfl,d,rfl⟩:=hp
  refine Qd (R_G (Qa 1 (Qe (Qo ?_))))
  obtain rfl:=Qq hm
  exact ⟨trivial,Qk⟩
def QZ (x:(List Int)):Option Bool :=
 match x with
 | p0 =>
 Zm p0>>=fun (v1:Int) =>
 some (decide (v1≥0))
def Yn:(List Int)→Bool→Prop:=fun x r=>match x,r with
 | p0,r0=>∀ H,PC prog env 144 ([(Lb p0),(.raw (.func (.func 191) #[] #[]))].map .dat) H (Qm r0) H
theorem XT:∀ x r,QZ x=some r→Yn x r:=by
 intro p0 r0 hm
 unfold QZ at hm
 unfold Yn
 intro H
 refine PC_sx (ds:=[(Lb p0),(.raw (.func (.func 191) #[] #[]))]) (fn:=f144) rfl ?_
 refine Qd (R_G (Qa 1 (Qe (Qd (R_G (Qa 2 ?_))))))
 obtain ⟨v1,hx,hm⟩:=Qh hm
 have hq:=Jf _ _ hx []
 refine Qr hq ?_
 refine Qa 2 (Qe (Qo ?_))
 obtain rfl:=Qq hm
 exact ⟨trivial,Qk⟩
def JH (x:Qc):Option Bool :=
 match x with
 | p0 =>
 (if (p0.starts.length:Int)=(p0.shape.length:Int) then
  idx p0.kids 0>>=fun v2 =>
  some ((v2.shape.length:Int) == (p0.shape.length:Int))
 else
 some false
 )>>=fun (v1:Bool) =>
 if v1=true then
  QZ p0.starts>>=fun (v3:Bool) =>
  some (!v3)
 else
 some false
def Qcm:Qc→Bool→Prop:=fun x r=>match x,r with
 | p0,r0=>∀ H,PC prog env 180 ([(Qc.ex p0)].map .dat) H (Qm r0) H
theorem QeZ:∀ x r,JH x=some r→Qcm x r:=by
 intro p0 r0 hm
 unfold JH at hm
 unfold Qcm
 intro H
 refine PC_sx (ds:=[(Qc.ex p0)]) (fn:=f180) rfl ?_
 refine Qd (R_G (Qa 2 (Qe (Qd (R_G (Qa 1 (Qe (Qd ?_))))))))
 refine Qhl ?_
 refine Qa 2 ?_
 refine QP Qi p0.starts (es:=(List.map Qi) p0.starts) rfl ?_
 refine Qa 2 ?_
 refine QP Qi p0.shape (es:=(List.map Qi) p0.shape) rfl ?_
 refine Qa 2 ?_
 obtain ⟨v1,hs,hm⟩:=Qh hm
 refine YC (j:=19) (fun d=>⟨sl d 30 [(1,(.ptr 0 0)),(2,(Qm false)),(3,(.dat (.raw (.func (.func 191) #[] #[])))),(22,(Qm v1))],[(.box [(Qg p0.kind),(La p0.shape),(Qg p0.buffer),(La p0.starts),(Qg p0.axis),(Qg p0.amount),(La p0.perm),(.dat (.lst (Qc.toDs p0.kids)))])]⟩) (fun d=>?_) (fun hJ=>?_)
 ·clear hs
  refine Qa 1 ?_
  refine Qw 23 hm (Qz _) (fun hm=>?_) (fun hm=>?_)
  ·refine Qa 3 ?_
   obtain ⟨v3,hx,hm⟩:=Qh hm
   have hq:=XT _ _ hx []
   refine Qr hq ?_
   refine Qa 3 ?_
   refine Qe ⟨by kernel_rfl,?_⟩
   refine Qo ?_
   obtain rfl:=Qq hm
   exact ⟨trivial,Qk⟩
  refine Qa 7 ?_
  refine Qe ⟨by kernel_rfl,?_⟩
  refine Qo ?_
  obtain rfl:=Qq hm
  exact ⟨trivial,Qk⟩
 clear hm
 refine Qw 11 hs (ZN _ _) (fun hm=>?_) (fun hm=>?_)
 ·refine Qa 2 ?_
  obtain ⟨v2,hx,hm⟩:=Qh hm
  refine QaP 8 Qc.toD p0.kids 0 v2 (es:=Qc.toDs p0.kids) (d:=(Qc.ex v2)) (Qc.toDs_eq _) hx (Qc.toD_eq v2) rfl ?_
  refine Qa 2 ?_
  refine QP Qi v2.shape (es:=(List.map Qi) v2.shape) rfl ?_
  refine Qa 2 ?_
  refine QP Qi p0.shape (es:=(List.map Qi) p0.shape) rfl ?_
  refine Qa 2 ?_
  obtain rfl:=Qq hm
  exact hJ _ _
 refine Qa 11 ?_
 obtain rfl:=Qq hm
 exact hJ _ _
def QaC (x:Qc):Option Bool :=
 match x with
 | p0 =>
 idx p0.kids 0>>=fun v1 =>
 ZU (v1.shape,p0.shape)>>=fun (v2:Bool) =>
 (if v2=true then
  some (decide (p0.axis≥0))
 else
 some false
 )>>=fun (v3:Bool) =>
 if v3=true then
  some (decide (p0.axis < (p0.shape.length:Int)))
 else
 some false
def Qe4:Qc→Bool→Prop:=fun x r=>match x,r with
 | p0,r0=>∀ H,PC prog env 193 ([(Qc.ex p0)].map .dat) H (Qm r0) H
theorem Qff:∀ x r,QaC x=some r→Qe4 x r:=by
 intro p0 r0 hm
 unfold QaC at hm
 unfold Qe4
 intro H
 refine PC_sx (ds:=[(Qc.ex p0)]) (fn:=f193) rfl ?_
 refine Qd (R_G (Qa 2 (Qe (Qd ?_))))
 refine Qhl ?_
 refine Qa 2 ?_
 obtain ⟨v1,hx,hm⟩:=Qh hm
 refine QaP 8 Qc.toD p0.kids 0 v1 (es:=Qc.toDs p0.kids) (d:=(Qc.ex v1)) (Qc.toDs_eq _) hx (Qc.toD_eq v1) rfl ?_
 refine Qa 4 ?_
 obtain ⟨v2,hx,hm⟩:=Qh hm
 have hq:=Je _ _ hx []
 refine Qr hq ?_
 refine Qa 1 ?_
 obtain ⟨v3,hs,hm⟩:=Qh hm
 refine YC (j:=13) (fun d=>⟨sl d 24 [(1,(.ptr 0 0)),(2,(Qm false)),(15,(Qm v3))],[(.box [(Qg p0.kind),(La p0.shape),(Qg p0.buffer),(La p0.starts),(Qg p0.axis),(Qg p0.amount),(La p0.perm),(.dat (.lst (Qc.toDs p0.kids)))])]⟩) (fun d=>?_) (fun hJ=>?_)
 ·clear hs
  refine Qa 1 ?_
  refine Qw 16 hm (Qz _) (fun hm=>?_) (fun hm=>?_)
  ·refine Qa 4 ?_
   refine QP Qi p0.shape (es:=(List.map Qi) p0.shape) rfl ?_
   refine Qa 3 ?_
   refine Qe ⟨by kernel_rfl,?_⟩
   refine Qo ?_
   obtain rfl:=Qq hm
   exact ⟨trivial,Qk⟩
  refine Qa 8 ?_
  refine Qe ⟨by kernel_rfl,?_⟩
  refine Qo ?_
  obtain rfl:=Qq hm
  exact ⟨trivial,Qk⟩
 clear hm
 refine Qw 11 hs (Qz _) (fun hm=>?_) (fun hm=>?_)
 ·refine Qa 4 ?_
  obtain rfl:=Qq hm
  exact hJ _ _
 refine Qa 4 ?_
 obtain rfl:=Qq hm
 exact hJ _ _
def Ji (x:Qc):Option Bool :=
 match x with
 | p0 =>
 QaC p0>>=fun (v1:Bool) =>
 some v1
def Qcd:Qc→Bool→Prop:=fun x r=>match x,r with
 | p0,r0=>∀ H,PC prog env 182 ([(Qc.ex p0)].map .dat) H (Qm r0) H
theorem Qek:∀ x r,Ji x=some r→Qcd x r:=by
 intro p0 r0 hm
 unfold Ji at hm
 unfold Qcd
 intro H
 refine PC_sx (ds:=[(Qc.ex p0)]) (fn:=f182) rfl ?_
 refine Qd (R_G (Qa 2 (Qe (Qd (R_G (Qa 1 ?_))))))
 obtain ⟨v1,hx,hm⟩:=Qh hm
 have hq:=Qff _ _ hx []
 refine Qr hq ?_
 refine Qa 1 (Qe (Qo ?_))
 obtain rfl:=Qq hm
 exact ⟨trivial,Qk⟩
def JG (x:Qc):Option Bool :=
 match x with
 | p0 =>
 QaC p0>>=fun (v1:Bool) =>
 (if v1=true then
  some (decide (p0.amount≥0))
 else
 some false
 )>>=fun (v2:Bool) =>
 if v2=true then
  idx p0.shape p0.axis>>=fun v3 =>
  some (decide (p0.amount < (if v3 < 1 then 1 else v3)))
 else
 some false
def Qcl:Qc→Bool→Prop:=fun x r=>match x,r with
 | p0,r0=>∀ H,PC prog env 184 ([(Qc.ex p0)].map .dat) H (Qm r0) H
theorem QeY:∀ x r,JG x=some r→Qcl x r:=by
 intro p0 r0 hm
 unfold JG at hm
 unfold Qcl
 intro H
 refine PC_sx (ds:=[(Qc.ex p0)]) (fn:=f184) rfl ?_
 refine Qd (R_G (Qa 2 (Qe (Qd ?_))))
 refine Qhl ?_
 refine Qa 1 ?_
 obtain ⟨v1,hx,hm⟩:=Qh hm
 have hq:=Qff _ _ hx []
 refine Qr hq ?_
 refine Qa 1 ?_
 obtain ⟨v2,hs,hm⟩:=Qh hm
 refine YC (j:=7) (fun d=>⟨sl d 22 [(1,(.ptr 0 0)),(2,(Qm false)),(9,(Qm v2))],[(.box [(Qg p0.kind),(La p0.shape),(Qg p0.buffer),(La p0.starts),(Qg p0.axis),(Qg p0.amount),(La p0.perm),(.dat (.lst (Qc.toDs p0.kids)))])]⟩) (fun d=>?_) (fun hJ=>?_)
 ·clear hs
  refine Qa 1 ?_
  refine Qw 10 hm (Qz _) (fun hm=>?_) (fun hm=>?_)
  ·refine Qa 6 ?_
   refine Zj 1 Qi hm rfl (fun _=>rfl) (fun v3 hm=>?_)
   refine Qa 1 ?_
   refine Zt rfl (fun _=>Qg5 (k:=.i64) (m:=v3) (n:=1) rfl (by kernel_rfl) (by kernel_rfl)) ?_
   refine Qa 3 ?_
   refine Qe ⟨by kernel_rfl,?_⟩
   refine Qo ?_
   obtain rfl:=Qq hm
   exact ⟨trivial,Qk⟩
  refine Qa 12 ?_
  refine Qe ⟨by kernel_rfl,?_⟩
  refine Qo ?_
  obtain rfl:=Qq hm
  exact ⟨trivial,Qk⟩
 clear hm
 refine Qw 5 hs (Qz _) (fun hm=>?_) (fun hm=>?_)
 ·refine Qa 4 ?_
  obtain rfl:=Qq hm
  exact hJ _ _
 refine Qa 4 ?_
 obtain rfl:=Qq hm
 exact hJ _ _
def Ys (x:Int × Int):Option (List Int):=match x with
 | (a,n)=>if (a=1∨a=-1)∧0≤n∧n≤16 then some (List.replicate n.toNat a) else none
def XS:Int × Int→List Int→Prop:=fun x r=>match x with
 | (a,n)=>∀ d0 d1 d2 d3 d4 d5 d6 d7:Dat,PC prog env 153 [(La ([a]:List Int)),(Qg n)] [.box [.dat d0,.dat d1,.dat d2,.dat d3,.dat d4,.dat d5,.dat d6,.dat d7]] (.arr 1 0 r.length r.length) [.box [.dat d0,.dat d1,.dat d2,.dat d3,.dat d4,.dat d5,.dat d6,.dat d7],(.box (cellsOf Qi r))]
theorem QcG:∀ x r,Ys x=some r→XS x r:=by
 intro x r hm
 obtain ⟨a,n⟩:=x
 unfold Ys at hm
 simp only at hm
 split at hm
 ·rename_i hc
  cases hm
  obtain ⟨ha,h0,h1⟩:=hc
  obtain ⟨k,rfl⟩:=Int.eq_ofNat_of_zero_le h0
  have hk:k≤16:=by omega
  unfold XS
  intro d0 d1 d2 d3 d4 d5 d6 d7
  rcases ha with rfl|rfl
  ·match k,hk with
   | 0,_=>refine PC_of (n:=60) ?_; kernel_rfl
   | 1,_=>refine PC_of (n:=60) ?_; kernel_rfl
   | 2,_=>refine PC_of (n:=60) ?_; kernel_rfl
   | 3,_=>refine PC_of (n:=60) ?_; kernel_rfl
   | 4,_=>refine PC_of (n:=60) ?_; kernel_rfl
   | 5,_=>refine PC_of (n:=60) ?_; kernel_rfl
   | 6,_=>refine PC_of (n:=60) ?_; kernel_rfl
   | 7,_=>refine PC_of (n:=60) ?_; kernel_rfl
   | 8,_=>refine PC_of (n:=60) ?_; kernel_rfl
   | 9,_=>refine PC_of (n:=60) ?_; kernel_rfl
   | 10,_=>refine PC_of (n:=60) ?_; kernel_rfl
   | 11,_=>refine PC_of (n:=60) ?_; kernel_rfl
   | 12,_=>refine PC_of (n:=60) ?_; kernel_rfl
   | 13,_=>refine PC_of (n:=60) ?_; kernel_rfl
   | 14,_=>refine PC_of (n:=60) ?_; kernel_rfl
   | 15,_=>refine PC_of (n:=60) ?_; kernel_rfl
   | 16,_=>refine PC_of (n:=60) ?_; kernel_rfl
  ·match k,hk with
   | 0,_=>refine PC_of (n:=60) ?_; kernel_rfl
   | 1,_=>refine PC_of (n:=60) ?_; kernel_rfl
   | 2,_=>refine PC_of (n:=60) ?_; kernel_rfl
   | 3,_=>refine PC_of (n:=60) ?_; kernel_rfl
   | 4,_=>refine PC_of (n:=60) ?_; kernel_rfl
   | 5,_=>refine PC_of (n:=60) ?_; kernel_rfl
   | 6,_=>refine PC_of (n:=60) ?_; kernel_rfl
   | 7,_=>refine PC_of (n:=60) ?_; kernel_rfl
   | 8,_=>refine PC_of (n:=60) ?_; kernel_rfl
   | 9,_=>refine PC_of (n:=60) ?_; kernel_rfl
   | 10,_=>refine PC_of (n:=60) ?_; kernel_rfl
   | 11,_=>refine PC_of (n:=60) ?_; kernel_rfl
   | 12,_=>refine PC_of (n:=60) ?_; kernel_rfl
   | 13,_=>refine PC_of (n:=60) ?_; kernel_rfl
   | 14,_=>refine PC_of (n:=60) ?_; kernel_rfl
   | 15,_=>refine PC_of (n:=60) ?_; kernel_rfl
   | 16,_=>refine PC_of (n:=60) ?_; kernel_rfl
 ·cases hm
def Zi (x:(Qc × (List Int) × (List Int) × Int)):Option ((List Int) ⊕ (List Int)) :=
 match x with
 | (p0,v2,v203,v204) =>
 if v204 < (p0.perm.length:Int) then
  idx p0.perm v204>>=fun v605 =>
  (if v605 < 0 then
   some true
  else
  some (decide (v605≥(v2.length:Int)))
  )>>=fun (v606:Bool) =>
  if v606=true then
   some (Sum.inl v203)
  else
  idx p0.kids 0>>=fun v607 =>
  idx v607.shape v204>>=fun v608 =>
  (Z3 (v203.length=v2.length)>>=fun (_:Unit) =>
  idx v203 v605>>=fun v610 =>
  idx v203 v605>>=fun v612 =>
  if v612 < 0 then
   some true
  else
  Z3 (v203.length=v2.length)>>=fun (_:Unit) =>
  idx v203 v605>>=fun v613 =>
  idx v203 v605>>=fun v615 =>
  some (decide (v608 < v615))
  )>>=fun (v609:Bool) =>
  if v609=true then
   Z3 (v203.length=v2.length)>>=fun (_:Unit) =>
   idx v203 v605>>=fun v616 =>
   setM v203 v605 v608>>=fun v618 =>
   Zi (p0,v2,v618,(W (v204+1)))
  else
  Zi (p0,v2,v203,(W (v204+1)))
 else
 some (Sum.inr v203)
 partial_fixpoint
def QaV:(Qc × (List Int) × (List Int) × Int)→((List Int) ⊕ (List Int))→Prop:=fun x r=>match x with
 | (p0,v2,v203,v204)=>∀ st,prune 2 ((QB (QL [1,1,1,0,1,0,0] (QN f186))).bind (env.hint 186).keepAt) st=⟨kp 68 [(1,(.ptr 0 0)),(3,(.arr 1 0 v2.length v2.length)),(23,(La p0.perm)),(24,(Qg (p0.perm.length:Int))),(25,(Qg v204))],[(.box [(Qg p0.kind),(La p0.shape),(Qg p0.buffer),(La p0.starts),(Qg p0.axis),(Qg p0.amount),(La p0.perm),(.dat (.lst (Qc.toDs p0.kids)))]),(.box (cellsOf Qi v203))]⟩ →
  RL prog env (env.hint 186) true (QL [1,1,1,0,1,0,0] (QN f186)) 2 st (fun e s=>match r with|.inl v603=>e=.ret∧∃ d,s=⟨sl d 68 [(2,(Qm false))],[(.box [(Qg p0.kind),(La p0.shape),(Qg p0.buffer),(La p0.starts),(Qg p0.axis),(Qg p0.amount),(La p0.perm),(.dat (.lst (Qc.toDs p0.kids)))]),(.box (cellsOf Qi v603))]⟩|.inr (v604)=>e=.exit 0∧∃ d,s=⟨sl d 68 [(1,(.ptr 0 0)),(3,(.arr 1 0 v2.length v2.length))],[(.box [(Qg p0.kind),(La p0.shape),(Qg p0.buffer),(La p0.starts),(Qg p0.axis),(Qg p0.amount),(La p0.perm),(.dat (.lst (Qc.toDs p0.kids)))]),(.box (cellsOf Qi v604))]⟩)
theorem Yz:∀ x r,Zi x=some r→QaV x r:=by
 refine Zi.partial_correctness _ (fun Zi Yz x r hm=>?_)
 unfold QaV
 obtain ⟨p0,v2,v203,v204⟩:=x
 intro st hst
 refine RL_at hst ?_
 clear hst
 refine Qd (R_G (Qa 1 (Qe (Qd ?_))))
 refine Qy hm (rfl) (fun hm=>?_) (fun hm=>?_)
 ·refine Qs (Qd (Qu (Qd (R_G (Qa 1 ?_)))))
  refine Zj 1 Qi hm rfl (fun _=>rfl) (fun v605 hm=>?_)
  refine Qa 3 (Qe (Qd (Qd ?_)))
  obtain ⟨v606,hs,hm⟩:=Qh hm
  refine Yx (fun d=>⟨sl d 68 [(1,(.ptr 0 0)),(3,(.arr 1 0 v2.length v2.length)),(4,(Qg v204)),(5,(Qg v605)),(23,(La p0.perm)),(24,(Qg (p0.perm.length:Int))),(25,(Qg v204)),(37,(Qm v606))],[(.box [(Qg p0.kind),(La p0.shape),(Qg p0.buffer),(La p0.starts),(Qg p0.axis),(Qg p0.amount),(La p0.perm),(.dat (.lst (Qc.toDs p0.kids)))]),(.box (cellsOf Qi v203))]⟩) ?_ (fun d=>?_)
  ·replace hm:=hs
   clear hs
   refine R_G (Qa 3 ?_)
   refine Qw 32 hm (rfl) (fun hm=>?_) (fun hm=>?_)
   ·refine Qa 5 (Qe ?_)
    obtain rfl:=Qq hm
    exact Qp
   refine Qa 2 (Qa 1 (Qa 2 (Qe ?_)))
   obtain rfl:=Qq hm
   exact Qp
  clear hs
  refine Qy hm (Qz _) (fun hm=>?_) (fun hm=>?_)
  ·refine Qd (R_G (Qa 1 (Qe (Qo ?_))))
   obtain rfl:=Qq hm
   exact ⟨rfl,Qp⟩
  refine Qs (Qd (R_G (Qa 2 ?_)))
  obtain ⟨v607,hx,hm⟩:=Qh hm
  refine QaP 8 Qc.toD p0.kids 0 v607 (es:=Qc.toDs p0.kids) (d:=(Qc.ex v607)) (Qc.toDs_eq _) hx (Qc.toD_eq v607) rfl ?_
  refine Qa 3 ?_
  refine Zj 1 Qi hm rfl (fun _=>rfl) (fun v608 hm=>?_)
  refine Qa 2 (Qe (Qd ?_))
  obtain ⟨v609,hs,hm⟩:=Qh hm
  refine Yx (fun d=>⟨sl d 68 [(1,(.ptr 0 0)),(3,(.arr 1 0 v2.length v2.length)),(5,(Qg v605)),(6,(Qg v608)),(23,(La p0.perm)),(24,(Qg (p0.perm.length:Int))),(25,(Qg v204)),(58,(Qm v609))],[(.box [(Qg p0.kind),(La p0.shape),(Qg p0.buffer),(La p0.starts),(Qg p0.axis),(Qg p0.amount),(La p0.perm),(.dat (.lst (Qc.toDs p0.kids)))]),(.box (cellsOf Qi v203))]⟩) ?_ (fun d=>?_)
  ·replace hm:=hs
   clear hs
   refine R_G (Qa 2 ?_)
   obtain ⟨_,hl611,hm⟩:=Qh hm
   replace hl611:=Z7 hl611
   obtain ⟨v610,hx,hm⟩:=Qh hm
   refine Zt rfl (fun _=>QfJ (e:=3) (l:=v203) (n:=v605) (i:=1) (cap:=v2.length) (m:=v2.length) hx hl611 (by kernel_rfl) (by kernel_rfl) rfl (by kernel_rfl) (by kernel_rfl)) ?_
   obtain ⟨v612,hx,hm⟩:=Qh hm
   refine Zt rfl (fun _=>Qg2 Qi (l:=v203) (n:=v605) (i:=1) hx (by kernel_rfl) (by kernel_rfl) rfl (by kernel_rfl) (by kernel_rfl)) ?_
   refine Qa 2 ?_
   refine Qw 51 hm (rfl) (fun hm=>?_) (fun hm=>?_)
   ·refine Qa 7 (Qe ?_)
    obtain rfl:=Qq hm
    exact Qp
   refine Qa 3 ?_
   obtain ⟨_,hl614,hm⟩:=Qh hm
   replace hl614:=Z7 hl614
   obtain ⟨v613,hx,hm⟩:=Qh hm
   refine Zt rfl (fun _=>QfJ (e:=3) (l:=v203) (n:=v605) (i:=1) (cap:=v2.length) (m:=v2.length) hx hl614 (by kernel_rfl) (by kernel_rfl) rfl (by kernel_rfl) (by kernel_rfl)) ?_
   obtain ⟨v615,hx,hm⟩:=Qh hm
   refine Zt rfl (fun _=>Qg2 Qi (l:=v203) (n:=v605) (i:=1) hx (by kernel_rfl) (by kernel_rfl) rfl (by kernel_rfl) (by kernel_rfl)) ?_
   refine Qa 2 (Qe ?_)
   obtain rfl:=Qq hm
   exact Qp
  clear hs
  refine Qy hm (Qz _) (fun hm=>?_) (fun hm=>?_)
  ·refine R_G (Qa 3 ?_)
   obtain ⟨_,hl617,hm⟩:=Qh hm
   replace hl617:=Z7 hl617
   obtain ⟨v616,hx,hm⟩:=Qh hm
   refine Zt rfl (fun _=>QfJ (e:=3) (l:=v203) (n:=v605) (i:=1) (cap:=v2.length) (m:=v2.length) hx hl617 (by kernel_rfl) (by kernel_rfl) rfl (by kernel_rfl) (by kernel_rfl)) ?_
   obtain ⟨v618,hx,hm⟩:=Qh hm
   refine ZI (fun H=>H.set 1 (.box (cellsOf Qi v618))) rfl (by kernel_rfl) (fun _=>Qg6 Qi (l:=v203) (n:=v605) (y:=v608) hx (fun _=>rfl) (by kernel_rfl) rfl (by kernel_rfl) (by kernel_rfl) (by kernel_rfl) (by kernel_rfl)) ?_
   refine Qe (R_G (Qa 2 (Qe ?_)))
   exact Yz _ _ hm _ (prune_of2 [(.box [(Qg p0.kind),(La p0.shape),(Qg p0.buffer),(La p0.starts),(Qg p0.axis),(Qg p0.amount),(La p0.perm),(.dat (.lst (Qc.toDs p0.kids)))]),(.box (cellsOf Qi v618))] (fun _=>(pg_cons (by kernel_rfl) (pg_cons (purge_box Qi _ _ _) pg_nil))) rfl)
  refine Qs (R_G (Qa 2 (Qe ?_)))
  exact Yz _ _ hm _ (prune_of2 [(.box [(Qg p0.kind),(La p0.shape),(Qg p0.buffer),(La p0.starts),(Qg p0.axis),(Qg p0.amount),(La p0.perm),(.dat (.lst (Qc.toDs p0.kids)))]),(.box (cellsOf Qi v203))] (fun _=>(pg_cons (by kernel_rfl) (pg_cons (purge_box Qi _ _ _) pg_nil))) rfl)
 refine Zh ?_
 obtain rfl:=Qq hm
 exact ⟨rfl,Qp⟩
def Y2 (x:Qc):Option Bool :=
 match x with
 | p0 =>
 idx p0.kids 0>>=fun v1 =>
 if (p0.perm.length:Int)≠(v1.shape.length:Int) then
  some false
 else
 Ys ((-1),(p0.shape.length:Int))>>=fun v2 =>
 (
 Zi (p0,v2,v2,0)>>=fun (out:(List Int) ⊕ (List Int)) =>
 match out with
 | .inl v603 =>
  some false
 | .inr (v604) =>
  Z3 (v604.length=v2.length)>>=fun (_:Unit) =>
  ZU (v604,p0.shape)>>=fun (v620:Bool) =>
  some v620
 )
def QbB:Qc→Bool→Prop:=fun x r=>match x,r with
 | p0,r0=>∀ H,PC prog env 186 ([(Qc.ex p0)].map .dat) H (Qm r0) H
theorem QdJ:∀ x r,Y2 x=some r→QbB x r:=by
 intro p0 r0 hm
 unfold Y2 at hm
 unfold QbB
 intro H
 refine PC_sx (ds:=[(Qc.ex p0)]) (fn:=f186) rfl ?_
 refine Qd (R_G (Qa 2 (Qe (Qd (Qd ?_)))))
 refine QaB ?_
 refine Qa 2 ?_
 refine QP Qi p0.perm (es:=(List.map Qi) p0.perm) rfl ?_
 refine Qa 2 ?_
 obtain ⟨v1,hx,hm⟩:=Qh hm
 refine QaP 8 Qc.toD p0.kids 0 v1 (es:=Qc.toDs p0.kids) (d:=(Qc.ex v1)) (Qc.toDs_eq _) hx (Qc.toD_eq v1) rfl ?_
 refine Qa 2 ?_
 refine QP Qi v1.shape (es:=(List.map Qi) v1.shape) rfl ?_
 refine Qa 1 ?_
 refine Qe ⟨by kernel_rfl,?_⟩
 refine Qy hm (ne_dec _ _) (fun hm=>?_) (fun hm=>?_)
 ·refine Qd (R_G (Qa 1 (Qe (Qo ?_))))
  obtain rfl:=Qq hm
  exact ⟨trivial,Qk⟩
 refine Qs (Qd (R_G (Qa 3 ?_)))
 refine QP Qi p0.shape (es:=(List.map Qi) p0.shape) rfl ?_
 obtain ⟨v2,hx,hm⟩:=Qh hm
 have hq:=QcG _ _ hx
 dsimp only [XS] at hq
 replace hq:=hq (Qi p0.kind) (Lb p0.shape) (Qi p0.buffer) (Lb p0.starts) (Qi p0.axis) (Qi p0.amount) (Lb p0.perm) (.lst (Qc.toDs p0.kids))
 refine Q0 hq ?_
 refine Qa 1 (Qe (Qd (Qd (R_G (Qa 2 ?_)))))
 refine QP Qi p0.perm (es:=(List.map Qi) p0.perm) rfl ?_
 refine Qa 1 (Qe (Qu ?_))
 obtain ⟨out,hs,hm⟩:=Qh hm
 refine Zk ?_
 rcases out with v603|v604
 ·refine RL_use (Yz _ _ hs) (prune_of2 [(.box [(Qg p0.kind),(La p0.shape),(Qg p0.buffer),(La p0.starts),(Qg p0.axis),(Qg p0.amount),(La p0.perm),(.dat (.lst (Qc.toDs p0.kids)))]),(.box (cellsOf Qi v2))] (fun _=>(pg_cons (by kernel_rfl) (pg_cons (purge_box Qi _ _ _) pg_nil))) rfl) ?_
  clear hs
  intro e s hp
  obtain ⟨rfl,d,rfl⟩:=hp
  obtain rfl:=Qq hm
  exact ⟨trivial,Qk⟩
 ·refine RL_use (Yz _ _ hs) (prune_of2 [(.box [(Qg p0.kind),(La p0.shape),(Qg p0.buffer),(La p0.starts),(Qg p0.axis),(Qg p0.amount),(La p0.perm),(.dat (.lst (Qc.toDs p0.kids)))]),(.box (cellsOf Qi v2))] (fun _=>(pg_cons (by kernel_rfl) (pg_cons (purge_box Qi _ _ _) pg_nil))) rfl) ?_
  clear hs
  intro e s hp
  obtain ⟨rfl,d,rfl⟩:=hp
  refine Qd (R_G (Qa 3 ?_))
  obtain ⟨_,hl619,hm⟩:=Qh hm
  replace hl619:=Z7 hl619
  obtain ⟨v620,hx,hm⟩:=Qh hm
  have hq:=Je _ _ hx []
  refine Qgm (args:=[(.arr 1 0 v2.length v2.length),(La p0.shape)]) hq (ps_cons (p1_arr (pc_arr Qi v604 hl619 (fun _=>rfl) (by kernel_rfl))) (ps_cons (by kernel_rfl) ps_nil)) ?_
  refine Qa 1 (Qe (Qo ?_))
  obtain rfl:=Qq hm
  exact ⟨trivial,Qk⟩
def Xb (x:Qc):Option Bool :=
 match x with
 | p0 =>
 idx p0.kids 0>>=fun v1 =>
 idx p0.kids 1>>=fun v2 =>
 ((if p0.axis < 0 then
  some true
 else
 some (decide (p0.axis≥(v1.shape.length:Int)))
 )>>=fun (v4:Bool) =>
 if v4=true then
  some true
 else
 some ((v2.shape.length:Int) != (v1.shape.length:Int))
 )>>=fun (v3:Bool) =>
 if v3=true then
  some false
 else
 idx v1.shape p0.axis>>=fun v5 =>
 idx v2.shape p0.axis>>=fun v6 =>
 YB (v1.shape,p0.axis,(W (v5+v6)))>>=fun ((v7,v8):((List Int) × Int)) =>
 idx v1.shape p0.axis>>=fun v9 =>
 YB (v2.shape,p0.axis,v9)>>=fun ((v10,v11):((List Int) × Int)) =>
 ZU (v10,v1.shape)>>=fun (v12:Bool) =>
 if v12=true then
  ZU (v7,p0.shape)>>=fun (v13:Bool) =>
  some v13
 else
 some false
def QbW:Qc→Bool→Prop:=fun x r=>match x,r with
 | p0,r0=>∀ H,PC prog env 189 ([(Qc.ex p0)].map .dat) H (Qm r0) H
theorem Qd8:∀ x r,Xb x=some r→QbW x r:=by
 intro p0 r0 hm
 unfold Xb at hm
 unfold QbW
 intro H
 refine PC_sx (ds:=[(Qc.ex p0)]) (fn:=f189) rfl ?_
 refine Qd (R_G (Qa 2 (Qe (Qd ?_))))
 refine QaB ?_
 refine Qa 2 ?_
 obtain ⟨v1,hx,hm⟩:=Qh hm
 refine QaP 8 Qc.toD p0.kids 0 v1 (es:=Qc.toDs p0.kids) (d:=(Qc.ex v1)) (Qc.toDs_eq _) hx (Qc.toD_eq v1) rfl ?_
 refine Qa 4 ?_
 obtain ⟨v2,hx,hm⟩:=Qh hm
 refine QaP 8 Qc.toD p0.kids 1 v2 (es:=Qc.toDs p0.kids) (d:=(Qc.ex v2)) (Qc.toDs_eq _) hx (Qc.toD_eq v2) rfl ?_
 refine Qa 4 ?_
 refine Qe ⟨by kernel_rfl,?_⟩
 refine Qd (Qd ?_)
 obtain ⟨v3,hs,hm⟩:=Qh hm
 refine Yx (fun d=>⟨sl d 75 [(1,(.ptr 0 0)),(3,(La v1.shape)),(4,(La v2.shape)),(35,(Qm v3))],[(.box [(Qg p0.kind),(La p0.shape),(Qg p0.buffer),(La p0.starts),(Qg p0.axis),(Qg p0.amount),(La p0.perm),(.dat (.lst (Qc.toDs p0.kids)))])]⟩) ?_ (fun d=>?_)
 ·replace hm:=hs
  clear hs
  refine QcY ?_
  refine Qa 4 ?_
  obtain ⟨v4,hs,hm⟩:=Qh hm
  refine YC (j:=10) (fun d=>⟨sl d 75 [(1,(.ptr 0 0)),(3,(La v1.shape)),(4,(La v2.shape)),(28,(Qm v4))],[(.box [(Qg p0.kind),(La p0.shape),(Qg p0.buffer),(La p0.starts),(Qg p0.axis),(Qg p0.amount),(La p0.perm),(.dat (.lst (Qc.toDs p0.kids)))])]⟩) (fun d=>?_) (fun hJ=>?_)
  ·clear hs
   refine Qa 1 ?_
   refine Qw 29 hm (Qz _) (fun hm=>?_) (fun hm=>?_)
   ·refine Qa 6 ?_
    refine Qe ⟨by kernel_rfl,?_⟩
    obtain rfl:=Qq hm
    exact Qp
   refine Qa 1 ?_
   refine QP Qi v2.shape (es:=(List.map Qi) v2.shape) rfl ?_
   refine Qa 1 ?_
   refine QP Qi v1.shape (es:=(List.map Qi) v1.shape) rfl ?_
   refine Qa 2 ?_
   refine Qe ⟨by kernel_rfl,?_⟩
   obtain rfl:=Qq hm
   exact Qp
  clear hm
  refine Qw 22 hs (rfl) (fun hm=>?_) (fun hm=>?_)
  ·refine Qa 6 ?_
   obtain rfl:=Qq hm
   exact hJ _ _
  refine Qa 3 ?_
  refine QP Qi v1.shape (es:=(List.map Qi) v1.shape) rfl ?_
  refine Qa 2 ?_
  obtain rfl:=Qq hm
  exact hJ _ _
 clear hs
 refine Qy hm (Qz _) (fun hm=>?_) (fun hm=>?_)
 ·refine Qd (R_G (Qa 1 (Qe (Qo ?_))))
  obtain rfl:=Qq hm
  exact ⟨trivial,Qk⟩
 refine Qs (Qd ?_)
 refine QaB ?_
 refine Qa 6 ?_
 refine Zj 1 Qi hm rfl (fun _=>rfl) (fun v5 hm=>?_)
 refine Qa 4 ?_
 refine Zj 1 Qi hm rfl (fun _=>rfl) (fun v6 hm=>?_)
 refine Qa 2 ?_
 obtain ⟨⟨v7,v8⟩,hx,hm⟩:=Qh hm
 have hq:=Qbb _ _ hx []
 refine Qr hq ?_
 refine Qa 5 ?_
 refine Qe ⟨by kernel_rfl,?_⟩
 refine Qd ?_
 refine QaB ?_
 refine Qa 6 ?_
 refine Zj 1 Qi hm rfl (fun _=>rfl) (fun v9 hm=>?_)
 refine Qa 1 ?_
 obtain ⟨⟨v10,v11⟩,hx,hm⟩:=Qh hm
 have hq:=Qbb _ _ hx []
 refine Qr hq ?_
 refine Qa 5 ?_
 refine Qe ⟨by kernel_rfl,?_⟩
 refine Qd (R_G (Qa 2 ?_))
 obtain ⟨v12,hx,hm⟩:=Qh hm
 have hq:=Je _ _ hx []
 refine Qr hq ?_
 refine Qa 1 ?_
 refine Qw 69 hm (Qz _) (fun hm=>?_) (fun hm=>?_)
 ·refine Qa 3 ?_
  obtain ⟨v13,hx,hm⟩:=Qh hm
  have hq:=Je _ _ hx []
  refine Qr hq ?_
  refine Qa 2 (Qe (Qo ?_))
  obtain rfl:=Qq hm
  exact ⟨trivial,Qk⟩
 refine Qa 6 (Qe (Qo ?_))
 obtain rfl:=Qq hm
 exact ⟨trivial,Qk⟩
def Xa (x:(Qc × (List (List Int)))):Option Bool :=
 match x with
 | (p0,p1) =>
 ((if p0.kind < 1 then
  some true
 else
 some (decide (p0.kind > 7))
 )>>=fun (v2:Bool) =>
 (if v2=true then
  some true
 else
 Z3 (0≤p0.kind∧p0.kind < 8)>>=fun (_:Unit) =>
 idx ([0,0,1,1,1,1,1,2]:List Int) p0.kind>>=fun v5 =>
 some ((p0.kids.length:Int) != v5)
 )>>=fun (v3:Bool) =>
 (if v3=true then
  some true
 else
 YM p0>>=fun (v7:Bool) =>
 some (!v7)
 )>>=fun (v6:Bool) =>
 if v6=true then
  some true
 else
 Zo p0.shape>>=fun (v8:Int) =>
 some (v8 != 0)
 )>>=fun (v1:Bool) =>
 if v1=true then
  some false
 else
 (if p0.kind=1 then
  (if p0.buffer < 0 then
   some true
  else
  some (decide (p0.buffer≥(p1.length:Int)))
  )>>=fun (v10:Bool) =>
  if v10=true then
   some true
  else
  idx p1 p0.buffer>>=fun v11 =>
  ZU (v11,p0.shape)>>=fun (v12:Bool) =>
  some (!v12)
 else
 some false
 )>>=fun (v9:Bool) =>
 if v9=true then
  some false
 else
 Z3 (0≤p0.kind∧p0.kind < 8)>>=fun (_:Unit) =>
 if p0.kind=0 then
  none
 else
 if p0.kind=1 then
  Jt p0>>=fun (v14:Bool) =>
  some v14
 else
 if p0.kind=2 then
  JH (⟨p0.kind,p0.shape,p0.buffer,p0.starts,p0.axis,p0.amount,p0.perm,p0.kids⟩:Qc)>>=fun (v15:Bool) =>
  some v15
 else
 if p0.kind=3 then
  Ji p0>>=fun (v16:Bool) =>
  some v16
 else
 if p0.kind=4 then
  JG p0>>=fun (v17:Bool) =>
  some v17
 else
 if p0.kind=5 then
  Y2 p0>>=fun (v18:Bool) =>
  some v18
 else
 if p0.kind=6 then
  Jt p0>>=fun (v19:Bool) =>
  some v19
 else
 if p0.kind=7 then
  Xb p0>>=fun (v20:Bool) =>
  some v20
 else
 none
def Qfq:(Qc × (List (List Int)))→Bool→Prop:=fun x r=>match x,r with
 | (p0,p1),r0=>∀ H,PC prog env 49 ([(Qc.ex p0),(.lst ((List.map (fun l=>Dat.lst ((List.map Qi) l))) p1))].map .dat) H (Qm r0) H
theorem QgD:∀ x r,Xa x=some r→Qfq x r:=by
 intro x r0 hm
 unfold Xa at hm
 unfold Qfq
 obtain ⟨p0,p1⟩:=x
 intro H
 refine PC_sx (ds:=[(Qc.ex p0),(.lst ((List.map (fun l=>Dat.lst ((List.map Qi) l))) p1))]) (fn:=f49) rfl ?_
 refine Qd (R_G (Qa 2 (Qe (Qd (Qd ?_)))))
 obtain ⟨v1,hs,hm⟩:=Qh hm
 refine Yx (fun d=>⟨sl d 68 [(1,(.dat (.lst ((List.map (fun l=>Dat.lst ((List.map Qi) l))) p1)))),(2,(.ptr 0 0)),(34,(Qm v1))],[(.box [(Qg p0.kind),(La p0.shape),(Qg p0.buffer),(La p0.starts),(Qg p0.axis),(Qg p0.amount),(La p0.perm),(.dat (.lst (Qc.toDs p0.kids)))])]⟩) ?_ (fun d=>?_)
 ·replace hm:=hs
  clear hs
  refine Qhl ?_
  refine Qa 4 ?_
  obtain ⟨v2,hs,hm⟩:=Qh hm
  refine YC (j:=8) (fun d=>⟨sl d 68 [(1,(.dat (.lst ((List.map (fun l=>Dat.lst ((List.map Qi) l))) p1)))),(2,(.ptr 0 0)),(12,(Qm v2))],[(.box [(Qg p0.kind),(La p0.shape),(Qg p0.buffer),(La p0.starts),(Qg p0.axis),(Qg p0.amount),(La p0.perm),(.dat (.lst (Qc.toDs p0.kids)))])]⟩) (fun d=>?_) (fun hJ=>?_)
  ·clear hs
   refine Qa 1 ?_
   obtain ⟨v3,hs,hm⟩:=Qh hm
   refine YC (j:=19) (fun d=>⟨sl d 68 [(1,(.dat (.lst ((List.map (fun l=>Dat.lst ((List.map Qi) l))) p1)))),(2,(.ptr 0 0)),(23,(Qm v3))],[(.box [(Qg p0.kind),(La p0.shape),(Qg p0.buffer),(La p0.starts),(Qg p0.axis),(Qg p0.amount),(La p0.perm),(.dat (.lst (Qc.toDs p0.kids)))])]⟩) (fun d=>?_) (fun hJ=>?_)
   ·clear hs
    refine Qa 1 ?_
    obtain ⟨v6,hs,hm⟩:=Qh hm
    refine YC (j:=24) (fun d=>⟨sl d 68 [(1,(.dat (.lst ((List.map (fun l=>Dat.lst ((List.map Qi) l))) p1)))),(2,(.ptr 0 0)),(28,(Qm v6))],[(.box [(Qg p0.kind),(La p0.shape),(Qg p0.buffer),(La p0.starts),(Qg p0.axis),(Qg p0.amount),(La p0.perm),(.dat (.lst (Qc.toDs p0.kids)))])]⟩) (fun d=>?_) (fun hJ=>?_)
    ·clear hs
     refine Qa 1 ?_
     refine Qw 29 hm (Qz _) (fun hm=>?_) (fun hm=>?_)
     ·refine Qa 5 ?_
      refine Qe ⟨by kernel_rfl,?_⟩
      obtain rfl:=Qq hm
      exact Qp
     refine Qa 2 ?_
     obtain ⟨v8,hx,hm⟩:=Qh hm
     have hq:=ZE _ _ hx []
     refine Qr hq ?_
     refine Qa 2 ?_
     refine Qe ⟨by kernel_rfl,?_⟩
     obtain rfl:=Qq hm
     exact Qp
    clear hm
    refine Qw 24 hs (Qz _) (fun hm=>?_) (fun hm=>?_)
    ·refine Qa 4 ?_
     obtain rfl:=Qq hm
     exact hJ _ _
    refine Qa 1 ?_
    obtain ⟨v7,hx,hm⟩:=Qh hm
    have hq:=Qf7 _ _ hx []
    refine Qr hq ?_
    refine Qa 2 ?_
    obtain rfl:=Qq hm
    exact hJ _ _
   clear hm
   refine Qw 13 hs (Qz _) (fun hm=>?_) (fun hm=>?_)
   ·refine Qa 10 ?_
    obtain rfl:=Qq hm
    exact hJ _ _
   refine Qa 2 ?_
   refine QP Qc.toD p0.kids (es:=Qc.toDs p0.kids) (Qc.toDs_eq _) ?_
   refine Qa 2 ?_
   obtain ⟨_,hl4,hm⟩:=Qh hm
   replace hl4:=Z7 hl4
   refine Qhk 8 3 [(Qi 0),(.raw .nilFunc),(.raw .nilFunc),(Qi 0),(.raw (.func (.func 178) #[] #[])),(.raw (.func (.func 179) #[] #[])),(Qi 1),(.raw (.func (.func 180) #[] #[])),(.raw (.func (.func 181) #[] #[])),(Qi 1),(.raw (.func (.func 182) #[] #[])),(.raw (.func (.func 183) #[] #[])),(Qi 1),(.raw (.func (.func 184) #[] #[])),(.raw (.func (.func 185) #[] #[])),(Qi 1),(.raw (.func (.func 186) #[] #[])),(.raw (.func (.func 187) #[] #[])),(Qi 1),(.raw (.func (.func 178) #[] #[])),(.raw (.func (.func 188) #[] #[])),(Qi 2),(.raw (.func (.func 189) #[] #[])),(.raw (.func (.func 190) #[] #[]))] p0.kind hl4 ?_
   refine Qa 1 ?_
   obtain ⟨v5,hx,hm⟩:=Qh hm
   refine Qht 8 3 0 [(Qi 0),(.raw .nilFunc),(.raw .nilFunc),(Qi 0),(.raw (.func (.func 178) #[] #[])),(.raw (.func (.func 179) #[] #[])),(Qi 1),(.raw (.func (.func 180) #[] #[])),(.raw (.func (.func 181) #[] #[])),(Qi 1),(.raw (.func (.func 182) #[] #[])),(.raw (.func (.func 183) #[] #[])),(Qi 1),(.raw (.func (.func 184) #[] #[])),(.raw (.func (.func 185) #[] #[])),(Qi 1),(.raw (.func (.func 186) #[] #[])),(.raw (.func (.func 187) #[] #[])),(Qi 1),(.raw (.func (.func 178) #[] #[])),(.raw (.func (.func 188) #[] #[])),(Qi 2),(.raw (.func (.func 189) #[] #[])),(.raw (.func (.func 190) #[] #[]))] p0.kind ([0,0,1,1,1,1,1,2]:List Int) v5 hx ?_
   refine Qa 2 ?_
   obtain rfl:=Qq hm
   exact hJ _ _
  clear hm
  refine Qw 8 hs (rfl) (fun hm=>?_) (fun hm=>?_)
  ·refine Qa 4 ?_
   obtain rfl:=Qq hm
   exact hJ _ _
  refine Qa 4 ?_
  obtain rfl:=Qq hm
  exact hJ _ _
 clear hs
 refine Qy hm (Qz _) (fun hm=>?_) (fun hm=>?_)
 ·refine Qd (R_G (Qa 1 (Qe (Qo ?_))))
  obtain rfl:=Qq hm
  exact ⟨trivial,Qk⟩
 refine Qs (Qd (Qd ?_))
 obtain ⟨v9,hs,hm⟩:=Qh hm
 refine Yx (fun d=>⟨sl d 68 [(2,(.ptr 0 0)),(60,(Qm v9))],[(.box [(Qg p0.kind),(La p0.shape),(Qg p0.buffer),(La p0.starts),(Qg p0.axis),(Qg p0.amount),(La p0.perm),(.dat (.lst (Qc.toDs p0.kids)))])]⟩) ?_ (fun d=>?_)
 ·replace hm:=hs
  clear hs
  refine Qhl ?_
  refine Qa 4 ?_
  refine Qw 38 hm (ZN _ _) (fun hm=>?_) (fun hm=>?_)
  ·refine Qa 4 ?_
   obtain ⟨v10,hs,hm⟩:=Qh hm
   refine YC (j:=14) (fun d=>⟨sl d 68 [(1,(.dat (.lst ((List.map (fun l=>Dat.lst ((List.map Qi) l))) p1)))),(2,(.ptr 0 0)),(38,(Qm true)),(48,(Qm v10))],[(.box [(Qg p0.kind),(La p0.shape),(Qg p0.buffer),(La p0.starts),(Qg p0.axis),(Qg p0.amount),(La p0.perm),(.dat (.lst (Qc.toDs p0.kids)))])]⟩) (fun d=>?_) (fun hJ=>?_)
   ·clear hs
    refine Qa 1 ?_
    refine Qw 49 hm (Qz _) (fun hm=>?_) (fun hm=>?_)
    ·refine Qa 11 ?_
     refine Qe ⟨by kernel_rfl,?_⟩
     obtain rfl:=Qq hm
     exact Qp
    refine Qa 3 ?_
    obtain ⟨v11,hx,hm⟩:=Qh hm
    refine QaP 1 (fun l=>Dat.lst ((List.map Qi) l)) p1 p0.buffer v11 (es:=(List.map (fun l=>Dat.lst ((List.map Qi) l))) p1) (d:=(Lb v11)) rfl hx rfl rfl ?_
    refine Qa 3 ?_
    obtain ⟨v12,hx,hm⟩:=Qh hm
    have hq:=Je _ _ hx []
    refine Qr hq ?_
    refine Qa 3 ?_
    refine Qe ⟨by kernel_rfl,?_⟩
    obtain rfl:=Qq hm
    exact Qp
   clear hm
   refine Qw 42 hs (rfl) (fun hm=>?_) (fun hm=>?_)
   ·refine Qa 6 ?_
    obtain rfl:=Qq hm
    exact hJ _ _
   refine Qa 3 ?_
   refine QP (fun l=>Dat.lst ((List.map Qi) l)) p1 (es:=(List.map (fun l=>Dat.lst ((List.map Qi) l))) p1) rfl ?_
   refine Qa 2 ?_
   obtain rfl:=Qq hm
   exact hJ _ _
  refine Qa 22 ?_
  refine Qe ⟨by kernel_rfl,?_⟩
  obtain rfl:=Qq hm
  exact Qp
 clear hs
 refine Qy hm (Qz _) (fun hm=>?_) (fun hm=>?_)
 ·refine Qd (R_G (Qa 1 (Qe (Qo ?_))))
  obtain rfl:=Qq hm
  exact ⟨trivial,Qk⟩
 refine Qs (Qd ?_)
 refine QaB ?_
 refine Qa 2 ?_
 obtain ⟨_,hl13,hm⟩:=Qh hm
 replace hl13:=Z7 hl13
 refine Qhk 8 3 [(Qi 0),(.raw .nilFunc),(.raw .nilFunc),(Qi 0),(.raw (.func (.func 178) #[] #[])),(.raw (.func (.func 179) #[] #[])),(Qi 1),(.raw (.func (.func 180) #[] #[])),(.raw (.func (.func 181) #[] #[])),(Qi 1),(.raw (.func (.func 182) #[] #[])),(.raw (.func (.func 183) #[] #[])),(Qi 1),(.raw (.func (.func 184) #[] #[])),(.raw (.func (.func 185) #[] #[])),(Qi 1),(.raw (.func (.func 186) #[] #[])),(.raw (.func (.func 187) #[] #[])),(Qi 1),(.raw (.func (.func 178) #[] #[])),(.raw (.func (.func 188) #[] #[])),(Qi 2),(.raw (.func (.func 189) #[] #[])),(.raw (.func (.func 190) #[] #[]))] p0.kind hl13 ?_
 refine Qa 1 ?_
 by_cases hc:p0.kind=((0:Nat):Int)
 ·replace hm:=QbS (show p0.kind=0 from hc) hm
  exact (QfV hm).elim
 replace hm:=QbR (show ¬ p0.kind=0 from hc) hm
 by_cases hc:p0.kind=((1:Nat):Int)
 ·replace hm:=QbS (show p0.kind=1 from hc) hm
  refine QeW 1 3 1 [(Qi 0),(.raw .nilFunc),(.raw .nilFunc),(Qi 0),(.raw (.func (.func 178) #[] #[])),(.raw (.func (.func 179) #[] #[])),(Qi 1),(.raw (.func (.func 180) #[] #[])),(.raw (.func (.func 181) #[] #[])),(Qi 1),(.raw (.func (.func 182) #[] #[])),(.raw (.func (.func 183) #[] #[])),(Qi 1),(.raw (.func (.func 184) #[] #[])),(.raw (.func (.func 185) #[] #[])),(Qi 1),(.raw (.func (.func 186) #[] #[])),(.raw (.func (.func 187) #[] #[])),(Qi 1),(.raw (.func (.func 178) #[] #[])),(.raw (.func (.func 188) #[] #[])),(Qi 2),(.raw (.func (.func 189) #[] #[])),(.raw (.func (.func 190) #[] #[]))] p0.kind (.raw (.func (.func 178) #[] #[])) hc ?_
  refine Qa 1 ?_
  obtain ⟨v14,hx,hm⟩:=Qh hm
  have hq:=Qd7 _ _ hx []
  refine Qr hq ?_
  refine Qa 1 ?_
  refine Qe ⟨by kernel_rfl,?_⟩
  refine Qo ?_
  obtain rfl:=Qq hm
  exact ⟨trivial,Qk⟩
 replace hm:=QbR (show ¬ p0.kind=1 from hc) hm
 by_cases hc:p0.kind=((2:Nat):Int)
 ·replace hm:=QbS (show p0.kind=2 from hc) hm
  refine QeW 2 3 1 [(Qi 0),(.raw .nilFunc),(.raw .nilFunc),(Qi 0),(.raw (.func (.func 178) #[] #[])),(.raw (.func (.func 179) #[] #[])),(Qi 1),(.raw (.func (.func 180) #[] #[])),(.raw (.func (.func 181) #[] #[])),(Qi 1),(.raw (.func (.func 182) #[] #[])),(.raw (.func (.func 183) #[] #[])),(Qi 1),(.raw (.func (.func 184) #[] #[])),(.raw (.func (.func 185) #[] #[])),(Qi 1),(.raw (.func (.func 186) #[] #[])),(.raw (.func (.func 187) #[] #[])),(Qi 1),(.raw (.func (.func 178) #[] #[])),(.raw (.func (.func 188) #[] #[])),(Qi 2),(.raw (.func (.func 189) #[] #[])),(.raw (.func (.func 190) #[] #[]))] p0.kind (.raw (.func (.func 180) #[] #[])) hc ?_
  refine Qa 1 ?_
  obtain ⟨v15,hx,hm⟩:=Qh hm
  have hq:=QeZ _ _ hx []
  refine Qr hq ?_
  refine Qa 1 ?_
  refine Qe ⟨by kernel_rfl,?_⟩
  refine Qo ?_
  obtain rfl:=Qq hm
  exact ⟨trivial,Qk⟩
 replace hm:=QbR (show ¬ p0.kind=2 from hc) hm
 by_cases hc:p0.kind=((3:Nat):Int)
 ·replace hm:=QbS (show p0.kind=3 from hc) hm
  refine QeW 3 3 1 [(Qi 0),(.raw .nilFunc),(.raw .nilFunc),(Qi 0),(.raw (.func (.func 178) #[] #[])),(.raw (.func (.func 179) #[] #[])),(Qi 1),(.raw (.func (.func 180) #[] #[])),(.raw (.func (.func 181) #[] #[])),(Qi 1),(.raw (.func (.func 182) #[] #[])),(.raw (.func (.func 183) #[] #[])),(Qi 1),(.raw (.func (.func 184) #[] #[])),(.raw (.func (.func 185) #[] #[])),(Qi 1),(.raw (.func (.func 186) #[] #[])),(.raw (.func (.func 187) #[] #[])),(Qi 1),(.raw (.func (.func 178) #[] #[])),(.raw (.func (.func 188) #[] #[])),(Qi 2),(.raw (.func (.func 189) #[] #[])),(.raw (.func (.func 190) #[] #[]))] p0.kind (.raw (.func (.func 182) #[] #[])) hc ?_
  refine Qa 1 ?_
  obtain ⟨v16,hx,hm⟩:=Qh hm
  have hq:=Qek _ _ hx []
  refine Qr hq ?_
  refine Qa 1 ?_
  refine Qe ⟨by kernel_rfl,?_⟩
  refine Qo ?_
  obtain rfl:=Qq hm
  exact ⟨trivial,Qk⟩
 replace hm:=QbR (show ¬ p0.kind=3 from hc) hm
 by_cases hc:p0.kind=((4:Nat):Int)
 ·replace hm:=QbS (show p0.kind=4 from hc) hm
  refine QeW 4 3 1 [(Qi 0),(.raw .nilFunc),(.raw .nilFunc),(Qi 0),(.raw (.func (.func 178) #[] #[])),(.raw (.func (.func 179) #[] #[])),(Qi 1),(.raw (.func (.func 180) #[] #[])),(.raw (.func (.func 181) #[] #[])),(Qi 1),(.raw (.func (.func 182) #[] #[])),(.raw (.func (.func 183) #[] #[])),(Qi 1),(.raw (.func (.func 184) #[] #[])),(.raw (.func (.func 185) #[] #[])),(Qi 1),(.raw (.func (.func 186) #[] #[])),(.raw (.func (.func 187) #[] #[])),(Qi 1),(.raw (.func (.func 178) #[] #[])),(.raw (.func (.func 188) #[] #[])),(Qi 2),(.raw (.func (.func 189) #[] #[])),(.raw (.func (.func 190) #[] #[]))] p0.kind (.raw (.func (.func 184) #[] #[])) hc ?_
  refine Qa 1 ?_
  obtain ⟨v17,hx,hm⟩:=Qh hm
  have hq:=QeY _ _ hx []
  refine Qr hq ?_
  refine Qa 1 ?_
  refine Qe ⟨by kernel_rfl,?_⟩
  refine Qo ?_
  obtain rfl:=Qq hm
  exact ⟨trivial,Qk⟩
 replace hm:=QbR (show ¬ p0.kind=4 from hc) hm
 by_cases hc:p0.kind=((5:Nat):Int)
 ·replace hm:=QbS (show p0.kind=5 from hc) hm
  refine QeW 5 3 1 [(Qi 0),(.raw .nilFunc),(.raw .nilFunc),(Qi 0),(.raw (.func (.func 178) #[] #[])),(.raw (.func (.func 179) #[] #[])),(Qi 1),(.raw (.func (.func 180) #[] #[])),(.raw (.func (.func 181) #[] #[])),(Qi 1),(.raw (.func (.func 182) #[] #[])),(.raw (.func (.func 183) #[] #[])),(Qi 1),(.raw (.func (.func 184) #[] #[])),(.raw (.func (.func 185) #[] #[])),(Qi 1),(.raw (.func (.func 186) #[] #[])),(.raw (.func (.func 187) #[] #[])),(Qi 1),(.raw (.func (.func 178) #[] #[])),(.raw (.func (.func 188) #[] #[])),(Qi 2),(.raw (.func (.func 189) #[] #[])),(.raw (.func (.func 190) #[] #[]))] p0.kind (.raw (.func (.func 186) #[] #[])) hc ?_
  refine Qa 1 ?_
  obtain ⟨v18,hx,hm⟩:=Qh hm
  have hq:=QdJ _ _ hx []
  refine Qr hq ?_
  refine Qa 1 ?_
  refine Qe ⟨by kernel_rfl,?_⟩
  refine Qo ?_
  obtain rfl:=Qq hm
  exact ⟨trivial,Qk⟩
 replace hm:=QbR (show ¬ p0.kind=5 from hc) hm
 by_cases hc:p0.kind=((6:Nat):Int)
 ·replace hm:=QbS (show p0.kind=6 from hc) hm
  refine QeW 6 3 1 [(Qi 0),(.raw .nilFunc),(.raw .nilFunc),(Qi 0),(.raw (.func (.func 178) #[] #[])),(.raw (.func (.func 179) #[] #[])),(Qi 1),(.raw (.func (.func 180) #[] #[])),(.raw (.func (.func 181) #[] #[])),(Qi 1),(.raw (.func (.func 182) #[] #[])),(.raw (.func (.func 183) #[] #[])),(Qi 1),(.raw (.func (.func 184) #[] #[])),(.raw (.func (.func 185) #[] #[])),(Qi 1),(.raw (.func (.func 186) #[] #[])),(.raw (.func (.func 187) #[] #[])),(Qi 1),(.raw (.func (.func 178) #[] #[])),(.raw (.func (.func 188) #[] #[])),(Qi 2),(.raw (.func (.func 189) #[] #[])),(.raw (.func (.func 190) #[] #[]))] p0.kind (.raw (.func (.func 178) #[] #[])) hc ?_
  refine Qa 1 ?_
  obtain ⟨v19,hx,hm⟩:=Qh hm
  have hq:=Qd7 _ _ hx []
  refine Qr hq ?_
  refine Qa 1 ?_
  refine Qe ⟨by kernel_rfl,?_⟩
  refine Qo ?_
  obtain rfl:=Qq hm
  exact ⟨trivial,Qk⟩
 replace hm:=QbR (show ¬ p0.kind=6 from hc) hm
 by_cases hc:p0.kind=((7:Nat):Int)
 ·replace hm:=QbS (show p0.kind=7 from hc) hm
  refine QeW 7 3 1 [(Qi 0),(.raw .nilFunc),(.raw .nilFunc),(Qi 0),(.raw (.func (.func 178) #[] #[])),(.raw (.func (.func 179) #[] #[])),(Qi 1),(.raw (.func (.func 180) #[] #[])),(.raw (.func (.func 181) #[] #[])),(Qi 1),(.raw (.func (.func 182) #[] #[])),(.raw (.func (.func 183) #[] #[])),(Qi 1),(.raw (.func (.func 184) #[] #[])),(.raw (.func (.func 185) #[] #[])),(Qi 1),(.raw (.func (.func 186) #[] #[])),(.raw (.func (.func 187) #[] #[])),(Qi 1),(.raw (.func (.func 178) #[] #[])),(.raw (.func (.func 188) #[] #[])),(Qi 2),(.raw (.func (.func 189) #[] #[])),(.raw (.func (.func 190) #[] #[]))] p0.kind (.raw (.func (.func 189) #[] #[])) hc ?_
  refine Qa 1 ?_
  obtain ⟨v20,hx,hm⟩:=Qh hm
  have hq:=Qd8 _ _ hx []
  refine Qr hq ?_
  refine Qa 1 ?_
  refine Qe ⟨by kernel_rfl,?_⟩
  refine Qo ?_
  obtain rfl:=Qq hm
  exact ⟨trivial,Qk⟩
 replace hm:=QbR (show ¬ p0.kind=7 from hc) hm
 exact (QfV hm).elim
mutual
def Yw (x:(Int × (List Int) × Int × (List Int) × Int × Int × (List Int) × (List Qc) × Int × (List Int) × Int × (List Int) × Int × Int × (List Int) × (List Qc) × (List (List Int)) × Int)):Option (Bool) :=
 match x with
 | (q0,q1,q2,q3,q4,q5,q6,q7,q8,q9,q10,q11,q12,q13,q14,q15,q16,q17) =>
 Jb ((⟨q0,q1,q2,q3,q4,q5,q6,q7⟩:Qc),q16,(W (q17 - 1)))>>=fun (v1:Bool) =>
 some (!v1)
 partial_fixpoint
def QH (x:((List Qc) × Int × (List Int) × Int × (List Int) × Int × Int × (List Int) × (List (List Int)) × Int × Int)):Option ((Int × (List Int) × Int × (List Int) × Int × Int × (List Int) × (List Qc) × Int) ⊕ Unit) :=
 match x with
 | (q0,q1,q2,q3,q4,q5,q6,q7,q8,q9,v201) =>
 if v201 < (q0.length:Int) then
  idx q0 v201>>=fun v610 =>
  Yw (v610.kind,v610.shape,v610.buffer,v610.starts,v610.axis,v610.amount,v610.perm,v610.kids,q1,q2,q3,q4,q5,q6,q7,q0,q8,q9)>>=fun (v611:Bool) =>
  if v611=true then
   some (Sum.inl (v610.kind,v610.shape,v610.buffer,v610.starts,v610.axis,v610.amount,v610.perm,v610.kids,v201))
  else
  QH (q0,q1,q2,q3,q4,q5,q6,q7,q8,q9,(W (v201+1)))
 else
 some (Sum.inr ())
 partial_fixpoint
def Q4 (x:((List Qc) × Int × (List Int) × Int × (List Int) × Int × Int × (List Int) × (List (List Int)) × Int)):Option ((Int × (List Int) × Int × (List Int) × Int × Int × (List Int) × (List Qc) × Int) ⊕ Unit) :=
 match x with
 | (q0,q1,q2,q3,q4,q5,q6,q7,q8,q9) =>
 (
 QH (q0,q1,q2,q3,q4,q5,q6,q7,q8,q9,0)>>=fun (out:(Int × (List Int) × Int × (List Int) × Int × Int × (List Int) × (List Qc) × Int) ⊕ Unit) =>
 match out with
 | .inl (v601,v602,v603,v604,v605,v606,v607,v608,v609) =>
  some (Sum.inl (v601,v602,v603,v604,v605,v606,v607,v608,v609))
 | .inr (_) =>
  some (Sum.inr ())
 )
 partial_fixpoint
def Q2 (x:((List Qc) × Int × (List Int) × Int × (List Int) × Int × Int × (List Int) × (List (List Int)) × Int)):Option ((Int × (List Int) × Int × (List Int) × Int × Int × (List Int) × (List Qc) × Bool) ⊕ Unit) :=
 match x with
 | (q0,q1,q2,q3,q4,q5,q6,q7,q8,q9) =>
 (
 Q4 (q0,q1,q2,q3,q4,q5,q6,q7,q8,q9)>>=fun (out:(Int × (List Int) × Int × (List Int) × Int × Int × (List Int) × (List Qc) × Int) ⊕ Unit) =>
 match out with
 | .inl (v1,v2,v3,v4,v5,v6,v7,v8,v9) =>
  some (Sum.inl (v1,v2,v3,v4,v5,v6,v7,v8,(decide (v9≥0))))
 | .inr (_) =>
  some (Sum.inr ())
 )
 partial_fixpoint
def Jb (x:(Qc × (List (List Int)) × Int)):Option Bool :=
 match x with
 | (p0,p1,p2) =>
 (if p2 > 0 then
  Xa (p0,p1)>>=fun (v2:Bool) =>
  some v2
 else
 some false
 )>>=fun (v1:Bool) =>
 if v1=true then
  (
  Q2 (p0.kids,p0.kind,p0.shape,p0.buffer,p0.starts,p0.axis,p0.amount,p0.perm,p1,p2)>>=fun (out:(Int × (List Int) × Int × (List Int) × Int × Int × (List Int) × (List Qc) × Bool) ⊕ Unit) =>
  match out with
  | .inl (v3,v4,v5,v6,v7,v8,v9,v10,v11) =>
   some (!v11)
  | .inr (_) =>
   some true
  )
 else
 some false
 partial_fixpoint
end
def Y1:(Int × (List Int) × Int × (List Int) × Int × Int × (List Int) × (List Qc) × Int × (List Int) × Int × (List Int) × Int × Int × (List Int) × (List Qc) × (List (List Int)) × Int)→Bool→Prop:=fun x r=>match x with
 | (q0,q1,q2,q3,q4,q5,q6,q7,q8,q9,q10,q11,q12,q13,q14,q15,q16,q17)=>PC prog env 51 [(.dat (.agg [(Qi q0),(Lb q1),(Qi q2),(Lb q3),(Qi q4),(Qi q5),(Lb q6),(.lst (Qc.toDs q7))])),(.ptr 1 0),(.ptr 2 0)] [(.box [(Qg q8),(La q9),(Qg q10),(La q11),(Qg q12),(Qg q13),(La q14),(.dat (.lst (Qc.toDs q15)))]),(.box [(.dat (.lst ((List.map (fun l=>Dat.lst ((List.map Qi) l))) q16)))]),(.box [(Qg q17)])] (match r with|v5001=>(Qm v5001)) (match r with|v5001=>[(.box [(Qg q8),(La q9),(Qg q10),(La q11),(Qg q12),(Qg q13),(La q14),(.dat (.lst (Qc.toDs q15)))]),(.box [(.dat (.lst ((List.map (fun l=>Dat.lst ((List.map Qi) l))) q16)))]),(.box [(Qg q17)]),(.box [(Qg q0),(La q1),(Qg q2),(La q3),(Qg q4),(Qg q5),(La q6),(.dat (.lst (Qc.toDs q7)))])])
def Zg:((List Qc) × Int × (List Int) × Int × (List Int) × Int × Int × (List Int) × (List (List Int)) × Int × Int)→((Int × (List Int) × Int × (List Int) × Int × Int × (List Int) × (List Qc) × Int) ⊕ Unit)→Prop:=fun x r=>match x with
 | (q0,q1,q2,q3,q4,q5,q6,q7,q8,q9,v201)=>∀ st,prune 3 ((QB (QL [1,0,1,0,0] (QN f80))).bind (env.hint 80).keepAt) st=⟨kp 19 [(0,(.dat (.lst (Qc.toDs q0)))),(1,(.fn 51 [(.ptr 1 0),(.ptr 2 0)])),(7,(Qg (q0.length:Int))),(8,(Qg v201))],[(.box [(Qg q1),(La q2),(Qg q3),(La q4),(Qg q5),(Qg q6),(La q7),(.dat (.lst (Qc.toDs q0)))]),(.box [(.dat (.lst ((List.map (fun l=>Dat.lst ((List.map Qi) l))) q8)))]),(.box [(Qg q9)])]⟩ →
  RL prog env (env.hint 80) true (QL [1,0,1,0,0] (QN f80)) 3 st (fun e s=>match r with|.inl (v601,v602,v603,v604,v605,v606,v607,v608,v609)=>e=.ret∧∃ d,s=⟨sl d 19 [(4,(Qg v609))],[(.box [(Qg q1),(La q2),(Qg q3),(La q4),(Qg q5),(Qg q6),(La q7),(.dat (.lst (Qc.toDs q0)))]),(.box [(.dat (.lst ((List.map (fun l=>Dat.lst ((List.map Qi) l))) q8)))]),(.box [(Qg q9)]),(.box [(Qg v601),(La v602),(Qg v603),(La v604),(Qg v605),(Qg v606),(La v607),(.dat (.lst (Qc.toDs v608)))])]⟩|.inr (_)=>e=.exit 0∧∃ d,s=⟨sl d 19 [],[(.box [(Qg q1),(La q2),(Qg q3),(La q4),(Qg q5),(Qg q6),(La q7),(.dat (.lst (Qc.toDs q0)))]),(.box [(.dat (.lst ((List.map (fun l=>Dat.lst ((List.map Qi) l))) q8)))]),(.box [(Qg q9)])]⟩)
def QX:((List Qc) × Int × (List Int) × Int × (List Int) × Int × Int × (List Int) × (List (List Int)) × Int)→((Int × (List Int) × Int × (List Int) × Int × Int × (List Int) × (List Qc) × Int) ⊕ Unit)→Prop:=fun x r=>match x with
 | (q0,q1,q2,q3,q4,q5,q6,q7,q8,q9)=>PC prog env 80 [(.dat (.lst (Qc.toDs q0))),(.fn 51 [(.ptr 1 0),(.ptr 2 0)])] [(.box [(Qg q1),(La q2),(Qg q3),(La q4),(Qg q5),(Qg q6),(La q7),(.dat (.lst (Qc.toDs q0)))]),(.box [(.dat (.lst ((List.map (fun l=>Dat.lst ((List.map Qi) l))) q8)))]),(.box [(Qg q9)])] (match r with|.inl (v5001,v5002,v5003,v5004,v5005,v5006,v5007,v5008,v5009)=>(Qg v5009)|.inr (_)=>(Qg (-1))) (match r with|.inl (v5001,v5002,v5003,v5004,v5005,v5006,v5007,v5008,v5009)=>[(.box [(Qg q1),(La q2),(Qg q3),(La q4),(Qg q5),(Qg q6),(La q7),(.dat (.lst (Qc.toDs q0)))]),(.box [(.dat (.lst ((List.map (fun l=>Dat.lst ((List.map Qi) l))) q8)))]),(.box [(Qg q9)]),(.box [(Qg v5001),(La v5002),(Qg v5003),(La v5004),(Qg v5005),(Qg v5006),(La v5007),(.dat (.lst (Qc.toDs v5008)))])]|.inr (_)=>[(.box [(Qg q1),(La q2),(Qg q3),(La q4),(Qg q5),(Qg q6),(La q7),(.dat (.lst (Qc.toDs q0)))]),(.box [(.dat (.lst ((List.map (fun l=>Dat.lst ((List.map Qi) l))) q8)))]),(.box [(Qg q9)])])
def QT:((List Qc) × Int × (List Int) × Int × (List Int) × Int × Int × (List Int) × (List (List Int)) × Int)→((Int × (List Int) × Int × (List Int) × Int × Int × (List Int) × (List Qc) × Bool) ⊕ Unit)→Prop:=fun x r=>match x with
 | (q0,q1,q2,q3,q4,q5,q6,q7,q8,q9)=>PC prog env 50 [(.dat (.lst (Qc.toDs q0))),(.fn 51 [(.ptr 1 0),(.ptr 2 0)])] [(.box [(Qg q1),(La q2),(Qg q3),(La q4),(Qg q5),(Qg q6),(La q7),(.dat (.lst (Qc.toDs q0)))]),(.box [(.dat (.lst ((List.map (fun l=>Dat.lst ((List.map Qi) l))) q8)))]),(.box [(Qg q9)])] (match r with|.inl (v5001,v5002,v5003,v5004,v5005,v5006,v5007,v5008,v5009)=>(Qm v5009)|.inr (_)=>(Qm false)) (match r with|.inl (v5001,v5002,v5003,v5004,v5005,v5006,v5007,v5008,v5009)=>[(.box [(Qg q1),(La q2),(Qg q3),(La q4),(Qg q5),(Qg q6),(La q7),(.dat (.lst (Qc.toDs q0)))]),(.box [(.dat (.lst ((List.map (fun l=>Dat.lst ((List.map Qi) l))) q8)))]),(.box [(Qg q9)]),(.box [(Qg v5001),(La v5002),(Qg v5003),(La v5004),(Qg v5005),(Qg v5006),(La v5007),(.dat (.lst (Qc.toDs v5008)))])]|.inr (_)=>[(.box [(Qg q1),(La q2),(Qg q3),(La q4),(Qg q5),(Qg q6),(La q7),(.dat (.lst (Qc.toDs q0)))]),(.box [(.dat (.lst ((List.map (fun l=>Dat.lst ((List.map Qi) l))) q8)))]),(.box [(Qg q9)])])
def QbK:(Qc × (List (List Int)) × Int)→Bool→Prop:=fun x r=>match x,r with
 | (p0,p1,p2),r0=>∀ H,PC prog env 27 ([(Qc.ex p0),(.lst ((List.map (fun l=>Dat.lst ((List.map Qi) l))) p1)),(Qi p2)].map .dat) H (Qm r0) H
theorem g_core_within_1_b964f:(∀ x r,Yw x=some r→Y1 x r)∧(∀ x r,Jb x=some r→QbK x r)∧(∀ x r,Q2 x=some r→QT x r)∧(∀ x r,Q4 x=some r→QX x r)∧(∀ x r,QH x=some r→Zg x r):=by
 refine Yw.mutual_partial_correctness Y1 QbK QT QX Zg ?_ ?_ ?_ ?_ ?_
 ·intro Jb QcZ x r hm
  unfold Y1
  obtain ⟨q0,q1,q2,q3,q4,q5,q6,q7,q8,q9,q10,q11,q12,q13,q14,q15,q16,q17⟩:=x
  refine PC_sxB (fn:=f51) rfl ?_
  refine Qd (R_G (Qa 2 (Qe (Qd (R_G (Qa 4 ?_))))))
  obtain ⟨v1,hx,hm⟩:=Qh hm
  have hq:=QcZ _ _ hx []
  refine Qr hq ?_
  refine Qa 2 (Qe (Qo ?_))
  obtain rfl:=Qq hm
  exact ⟨trivial,QM (by kernel_rfl) (by kernel_rfl)⟩
 ·intro Q2 Zy x r0 hm
  unfold QbK
  obtain ⟨p0,p1,p2⟩:=x
  intro H
  refine PC_sx (ds:=[(Qc.ex p0),(.lst ((List.map (fun l=>Dat.lst ((List.map Qi) l))) p1)),(Qi p2)]) (fn:=f27) rfl ?_
  refine Qd (R_G (Qa 4 (Qe (Qd ?_))))
  refine QcY ?_
  refine Qa 3 ?_
  obtain ⟨v1,hs,hm⟩:=Qh hm
  refine YC (j:=7) (fun d=>⟨sl d 21 [(3,(.ptr 0 0)),(4,(.ptr 1 0)),(5,(.ptr 2 0)),(6,(Qm false)),(13,(Qm v1))],[(.box [(Qg p0.kind),(La p0.shape),(Qg p0.buffer),(La p0.starts),(Qg p0.axis),(Qg p0.amount),(La p0.perm),(.dat (.lst (Qc.toDs p0.kids)))]),(.box [(.dat (.lst ((List.map (fun l=>Dat.lst ((List.map Qi) l))) p1)))]),(.box [(Qg p2)])]⟩) (fun d=>?_) (fun hJ=>?_)
  ·clear hs
   refine Qa 1 ?_
   refine Qw 14 hm (Qz _) (fun hm=>?_) (fun hm=>?_)
   ·refine Qa 3 ?_
    obtain ⟨out,hx,hm⟩:=Qh hm
    rcases out with ⟨v3,v4,v5,v6,v7,v8,v9,v10,v11⟩|_
    ·have hq:=Zy _ _ hx
     dsimp only [QT] at hq
     refine Q0 hq ?_
     refine Qa 3 ?_
     refine Qe ⟨by kernel_rfl,?_⟩
     refine Qo ?_
     obtain rfl:=Qq hm
     exact ⟨trivial,Qk⟩
    ·have hq:=Zy _ _ hx
     dsimp only [QT] at hq
     refine Q0 hq ?_
     refine Qa 3 ?_
     refine Qe ⟨by kernel_rfl,?_⟩
     refine Qo ?_
     obtain rfl:=Qq hm
     exact ⟨trivial,Qk⟩
   refine Qa 7 ?_
   refine Qe ⟨by kernel_rfl,?_⟩
   refine Qo ?_
   obtain rfl:=Qq hm
   exact ⟨trivial,Qk⟩
  clear hm
  refine Qw 9 hs (rfl) (fun hm=>?_) (fun hm=>?_)
  ·refine Qa 2 ?_
   obtain ⟨v2,hx,hm⟩:=Qh hm
   have hq:=QgD _ _ hx []
   refine Qr hq ?_
   refine Qa 1 ?_
   obtain rfl:=Qq hm
   exact hJ _ _
  refine Qa 4 ?_
  obtain rfl:=Qq hm
  exact hJ _ _
 ·intro Q4 ZD x r hm
  unfold QT
  obtain ⟨q0,q1,q2,q3,q4,q5,q6,q7,q8,q9⟩:=x
  refine PC_sxB (fn:=f50) rfl ?_
  refine Qd (R_G (Qa 1 (Qe (Qd (R_G (Qa 2 ?_))))))
  obtain ⟨out,hx,hm⟩:=Qh hm
  rcases out with ⟨v1,v2,v3,v4,v5,v6,v7,v8,v9⟩|_
  ·have hq:=ZD _ _ hx
   dsimp only [QX] at hq
   refine Q0 hq ?_
   refine Qa 2 (Qe (Qo ?_))
   obtain rfl:=Qq hm
   exact ⟨trivial,QM (by kernel_rfl) (by kernel_rfl)⟩
  ·have hq:=ZD _ _ hx
   dsimp only [QX] at hq
   refine Q0 hq ?_
   refine Qa 2 (Qe (Qo ?_))
   obtain rfl:=Qq hm
   exact ⟨trivial,QM (by kernel_rfl) (by kernel_rfl)⟩
 ·intro QH Q3 x r hm
  unfold QX
  obtain ⟨q0,q1,q2,q3,q4,q5,q6,q7,q8,q9⟩:=x
  refine PC_sxB (fn:=f80) rfl ?_
  refine Qd (R_G (Qa 1 (Qe (Qd (Qd (R_G (Qa 1 ?_)))))))
  refine QP Qc.toD q0 (es:=Qc.toDs q0) (Qc.toDs_eq _) ?_
  refine Qa 1 (Qe (Qu ?_))
  obtain ⟨out,hs,hm⟩:=Qh hm
  refine Zk ?_
  rcases out with ⟨v601,v602,v603,v604,v605,v606,v607,v608,v609⟩|_
  ·refine RL_use (Q3 _ _ hs) (by kernel_rfl) ?_
   clear hs
   intro e s hp
   obtain ⟨rfl,d,rfl⟩:=hp
   obtain rfl:=Qq hm
   exact ⟨trivial,QM (by kernel_rfl) (by kernel_rfl)⟩
  ·refine RL_use (Q3 _ _ hs) (by kernel_rfl) ?_
   clear hs
   intro e s hp
   obtain ⟨rfl,d,rfl⟩:=hp
   refine Qd (R_G (Qa 1 (Qe (Qo ?_))))
   obtain rfl:=Qq hm
   exact ⟨trivial,QM (by kernel_rfl) (by kernel_rfl)⟩
 ·intro Yw QH QbC Q3 x r hm
  unfold Zg
  obtain ⟨q0,q1,q2,q3,q4,q5,q6,q7,q8,q9,v201⟩:=x
  intro st hst
  refine RL_at hst ?_
  clear hst
  refine Qd (R_G (Qa 1 (Qe (Qd ?_))))
  refine Qy hm (rfl) (fun hm=>?_) (fun hm=>?_)
  ·refine Qs (Qd (Qu (Qd (R_G (Qa 2 (Qe (Qd (R_G (Qa 3 ?_)))))))))
   obtain ⟨v610,hx,hm⟩:=Qh hm
   refine QaP 8 Qc.toD q0 v201 v610 (es:=Qc.toDs q0) (d:=(Qc.ex v610)) (Qc.toDs_eq _) hx (Qc.toD_eq v610) rfl ?_
   refine Qa 1 ?_
   obtain ⟨v611,hx,hm⟩:=Qh hm
   have hq:=QbC _ _ hx
   dsimp only [Y1] at hq
   refine Q0 hq ?_
   refine Qe ?_
   refine Qy hm (Qz _) (fun hm=>?_) (fun hm=>?_)
   ·refine Qd (R_G (Qa 2 (Qe (Qo ?_))))
    obtain rfl:=Qq hm
    exact ⟨rfl,Qp⟩
   refine Qs (R_G (Qa 2 (Qe ?_)))
   exact Q3 _ _ hm _ (by kernel_rfl)
  refine Zh ?_
  obtain rfl:=Qq hm
  exact ⟨rfl,Qp⟩
theorem QbC:∀ x r,Yw x=some r→Y1 x r:=g_core_within_1_b964f.1
theorem QcZ:∀ x r,Jb x=some r→QbK x r:=g_core_within_1_b964f.2.1
theorem Zy:∀ x r,Q2 x=some r→QT x r:=g_core_within_1_b964f.2.2.1
theorem ZD:∀ x r,Q4 x=some r→QX x r:=g_core_within_1_b964f.2.2.2.1
theorem Q3:∀ x r,QH x=some r→Zg x r:=g_core_within_1_b964f.2.2.2.2
def Qbr (x:(Qc × (List (List Int)))):Option Bool :=
 match x with
 | (p0,p1) =>
 Jb (p0,p1,300)>>=fun (v1:Bool) =>
 some v1
def Qe3:(Qc × (List (List Int)))→Bool→Prop:=fun x r=>match x,r with
 | (p0,p1),r0=>∀ H,PC prog env 14 ([(Qc.ex p0),(.lst ((List.map (fun l=>Dat.lst ((List.map Qi) l))) p1))].map .dat) H (Qm r0) H
theorem Qgo:∀ x r,Qbr x=some r→Qe3 x r:=by
 intro x r0 hm
 unfold Qbr at hm
 unfold Qe3
 obtain ⟨p0,p1⟩:=x
 intro H
 refine PC_sx (ds:=[(Qc.ex p0),(.lst ((List.map (fun l=>Dat.lst ((List.map Qi) l))) p1))]) (fn:=f14) rfl ?_
 refine Qd (R_G (Qa 2 (Qe (Qd (R_G (Qa 2 ?_))))))
 obtain ⟨v1,hx,hm⟩:=Qh hm
 have hq:=QcZ _ _ hx []
 refine Qr hq ?_
 refine Qa 1 (Qe (Qo ?_))
 obtain rfl:=Qq hm
 exact ⟨trivial,Qk⟩
def ZH (x:((List Qj) × (List Qb) × (List ByteArray) × (List (ByteArray × Int)) × (List Qb) × (List Qb) × Int × (List Int) × Int × (List Int) × Int × Int × (List Int) × (List Qc) × (List Qj) × (List Qj) × Int × (List Int) × Int × (List Int) × Int × Int × (List Int) × (List Qc) × Int × (List Int) × Int × (List Int) × Int × Int × (List Int) × (List Qc) × Int)):Option ((ByteArray × (List Int) × (List Int) × (List Int) × (List Int)) ⊕ Unit) :=
 match x with
 | (v44,p0,v47,v15,v16,v17,v18,v19,v20,v21,v22,v23,v24,v25,v26,v27,v28,v29,v30,v31,v32,v33,v34,v35,v36,v37,v38,v39,v40,v41,v42,v43,v248) =>
 if v248 < (v44.length:Int) then
  idx v44 v248>>=fun v653 =>
  Qb6 (p0,v653.name)>>=fun ((v654,v655):(Qt × Bool)) =>
  (if v653.name≠ByteArray.empty then
   (if v655=false then
    some true
   else
   JT (v654,v653.value)>>=fun (v658:Bool) =>
   some (!v658)
   )>>=fun (v657:Bool) =>
   if v657=true then
    some true
   else
   QbE (v653.name,v47)>>=fun (v659:Bool) =>
   some (!v659)
  else
  some false
  )>>=fun (v656:Bool) =>
  if v656=true then
   some (Sum.inl (v653.name,v653.value.shape,v653.value.data,v654.shape,v654.data))
  else
  ZH (v44,p0,v47,v15,v16,v17,v18,v19,v20,v21,v22,v23,v24,v25,v26,v27,v28,v29,v30,v31,v32,v33,v34,v35,v36,v37,v38,v39,v40,v41,v42,v43,(W (v248+1)))
 else
 some (Sum.inr ())
 partial_fixpoint
def QbY:((List Qj) × (List Qb) × (List ByteArray) × (List (ByteArray × Int)) × (List Qb) × (List Qb) × Int × (List Int) × Int × (List Int) × Int × Int × (List Int) × (List Qc) × (List Qj) × (List Qj) × Int × (List Int) × Int × (List Int) × Int × Int × (List Int) × (List Qc) × Int × (List Int) × Int × (List Int) × Int × Int × (List Int) × (List Qc) × Int)→((ByteArray × (List Int) × (List Int) × (List Int) × (List Int)) ⊕ Unit)→Prop:=fun x r=>match x with
 | (v44,p0,v47,v15,v16,v17,v18,v19,v20,v21,v22,v23,v24,v25,v26,v27,v28,v29,v30,v31,v32,v33,v34,v35,v36,v37,v38,v39,v40,v41,v42,v43,v248)=>∀ st,prune 10 ((QB (QL [1,1,1,1,1,1,1,0,1,0,0] (QN f3))).bind (env.hint 3).keepAt) st=⟨kp 100 [(0,(.dat (.lst ((List.map Qb.toD) p0)))),(6,(.ptr 9 0)),(8,(.dat (.lst ((List.map strD) v47)))),(9,(Qg v248))],[(.map (smE v15)),(.tok 59 v16.length),(.box [(.vec 1 ((List.map Qb.toD) v16)),(.mapv 0)]),(.tok 59 (([]:List Qb).length)),(.box [(.vec 1 ((List.map Qb.toD) v17)),(.mapv 0)]),(.box [(Qg v18),(La v19),(Qg v20),(La v21),(Qg v22),(Qg v23),(La v24),(.dat (.lst (Qc.toDs v25))),(.dat (.lst ((List.map Qj.toD) v26)))]),(.tok 48 v27.length),(.box [(.ptr 4 0),(.vec 6 ((List.map Qj.toD) v27))]),(.box [(Qg v28),(La v29),(Qg v30),(La v31),(Qg v32),(Qg v33),(La v34),(.dat (.lst (Qc.toDs v35)))]),(.box [(Qg v36),(La v37),(Qg v38),(La v39),(Qg v40),(Qg v41),(La v42),(.dat (.lst (Qc.toDs v43))),(.dat (.lst ((List.map Qj.toD) v44)))])]⟩ →
  RL prog env (env.hint 3) true (QL [1,1,1,1,1,1,1,0,1,0,0] (QN f3)) 10 st (fun e s=>match r with|.inl (v648,v649,v650,v651,v652)=>e=.ret∧∃ d,s=⟨sl d 100 [(4,(Qm false))],[(.map (smE v15)),(.tok 59 v16.length),(.box [(.vec 1 ((List.map Qb.toD) v16)),(.mapv 0)]),(.tok 59 (([]:List Qb).length)),(.box [(.vec 1 ((List.map Qb.toD) v17)),(.mapv 0)]),(.box [(Qg v18),(La v19),(Qg v20),(La v21),(Qg v22),(Qg v23),(La v24),(.dat (.lst (Qc.toDs v25))),(.dat (.lst ((List.map Qj.toD) v26)))]),(.tok 48 v27.length),(.box [(.ptr 4 0),(.vec 6 ((List.map Qj.toD) v27))]),(.box [(Qg v28),(La v29),(Qg v30),(La v31),(Qg v32),(Qg v33),(La v34),(.dat (.lst (Qc.toDs v35)))]),(.box [(Qg v36),(La v37),(Qg v38),(La v39),(Qg v40),(Qg v41),(La v42),(.dat (.lst (Qc.toDs v43))),(.dat (.lst ((List.map Qj.toD) v44)))]),(.box [(.dat (strD v648)),(La v649),(La v650)]),(.box [(La v651),(La v652)])]⟩|.inr (_)=>e=.exit 0∧∃ d,s=⟨sl d 100 [(6,(.ptr 9 0))],[(.map (smE v15)),(.tok 59 v16.length),(.box [(.vec 1 ((List.map Qb.toD) v16)),(.mapv 0)]),(.tok 59 (([]:List Qb).length)),(.box [(.vec 1 ((List.map Qb.toD) v17)),(.mapv 0)]),(.box [(Qg v18),(La v19),(Qg v20),(La v21),(Qg v22),(Qg v23),(La v24),(.dat (.lst (Qc.toDs v25))),(.dat (.lst ((List.map Qj.toD) v26)))]),(.tok 48 v27.length),(.box [(.ptr 4 0),(.vec 6 ((List.map Qj.toD) v27))]),(.box [(Qg v28),(La v29),(Qg v30),(La v31),(Qg v32),(Qg v33),(La v34),(.dat (.lst (Qc.toDs v35)))]),(.box [(Qg v36),(La v37),(Qg v38),(La v39),(Qg v40),(Qg v41),(La v42),(.dat (.lst (Qc.toDs v43))),(.dat (.lst ((List.map Qj.toD) v44)))])]⟩)
theorem X5:∀ x r,ZH x=some r→QbY x r:=by
 refine ZH.partial_correctness _ (fun ZH X5 x r hm=>?_)
 unfold QbY
 obtain ⟨v44,p0,v47,v15,v16,v17,v18,v19,v20,v21,v22,v23,v24,v25,v26,v27,v28,v29,v30,v31,v32,v33,v34,v35,v36,v37,v38,v39,v40,v41,v42,v43,v248⟩:=x
 intro st hst
 refine RL_at hst ?_
 clear hst
 refine Qd (Qd (R_G (Qa 3 ?_)))
 refine QP Qj.toD v44 (es:=(List.map Qj.toD) v44) rfl ?_
 refine Qa 1 (Qe ?_)
 refine Qy hm (rfl) (fun hm=>?_) (fun hm=>?_)
 ·refine Qs (Qd (Qu (Qd (R_G (Qa 3 ?_)))))
  refine Zj 3 Qj.toD hm rfl (fun _=>rfl) (fun v653 hm=>?_)
  refine Qa 3 (Qe (Qd (R_G (Qa 3 ?_))))
  obtain ⟨⟨v654,v655⟩,hx,hm⟩:=Qh hm
  have hq:=QgL _ _ hx []
  refine Qr hq ?_
  refine Qa 6 (Qe (Qd ?_))
  obtain ⟨v656,hs,hm⟩:=Qh hm
  refine Yx (fun d=>⟨sl d 100 [(0,(.dat (.lst ((List.map Qb.toD) p0)))),(6,(.ptr 9 0)),(8,(.dat (.lst ((List.map strD) v47)))),(9,(Qg v248)),(94,(Qm v656))],[(.map (smE v15)),(.tok 59 v16.length),(.box [(.vec 1 ((List.map Qb.toD) v16)),(.mapv 0)]),(.tok 59 (([]:List Qb).length)),(.box [(.vec 1 ((List.map Qb.toD) v17)),(.mapv 0)]),(.box [(Qg v18),(La v19),(Qg v20),(La v21),(Qg v22),(Qg v23),(La v24),(.dat (.lst (Qc.toDs v25))),(.dat (.lst ((List.map Qj.toD) v26)))]),(.tok 48 v27.length),(.box [(.ptr 4 0),(.vec 6 ((List.map Qj.toD) v27))]),(.box [(Qg v28),(La v29),(Qg v30),(La v31),(Qg v32),(Qg v33),(La v34),(.dat (.lst (Qc.toDs v35)))]),(.box [(Qg v36),(La v37),(Qg v38),(La v39),(Qg v40),(Qg v41),(La v42),(.dat (.lst (Qc.toDs v43))),(.dat (.lst ((List.map Qj.toD) v44)))]),(.box [(.dat (strD v653.name)),(La v653.value.shape),(La v653.value.data)]),(.box [(La v654.shape),(La v654.data)])]⟩) ?_ (fun d=>?_)
  ·replace hm:=hs
   clear hs
   refine QcY ?_
   refine Qa 2 ?_
   refine Zt rfl (fun _=>QfM (a:=v653.name) (b:=ByteArray.empty) rfl (by kernel_rfl) (by kernel_rfl)) ?_
   refine Qa 1 ?_
   refine Qw 77 hm (rfl) (fun hm=>?_) (fun hm=>?_)
   ·refine Qa 3 ?_
    obtain ⟨v657,hs,hm⟩:=Qh hm
    refine YC (j:=13) (fun d=>⟨sl d 100 [(0,(.dat (.lst ((List.map Qb.toD) p0)))),(6,(.ptr 9 0)),(8,(.dat (.lst ((List.map strD) v47)))),(9,(Qg v248)),(10,(.ptr 10 0)),(77,(Qm true)),(86,(Qm v657))],[(.map (smE v15)),(.tok 59 v16.length),(.box [(.vec 1 ((List.map Qb.toD) v16)),(.mapv 0)]),(.tok 59 (([]:List Qb).length)),(.box [(.vec 1 ((List.map Qb.toD) v17)),(.mapv 0)]),(.box [(Qg v18),(La v19),(Qg v20),(La v21),(Qg v22),(Qg v23),(La v24),(.dat (.lst (Qc.toDs v25))),(.dat (.lst ((List.map Qj.toD) v26)))]),(.tok 48 v27.length),(.box [(.ptr 4 0),(.vec 6 ((List.map Qj.toD) v27))]),(.box [(Qg v28),(La v29),(Qg v30),(La v31),(Qg v32),(Qg v33),(La v34),(.dat (.lst (Qc.toDs v35)))]),(.box [(Qg v36),(La v37),(Qg v38),(La v39),(Qg v40),(Qg v41),(La v42),(.dat (.lst (Qc.toDs v43))),(.dat (.lst ((List.map Qj.toD) v44)))]),(.box [(.dat (strD v653.name)),(La v653.value.shape),(La v653.value.data)]),(.box [(La v654.shape),(La v654.data)])]⟩) (fun d=>?_) (fun hJ=>?_)
    ·clear hs
     refine Qa 1 ?_
     refine Qw 87 hm (Qz _) (fun hm=>?_) (fun hm=>?_)
     ·refine Qa 7 ?_
      refine Qe ⟨by kernel_rfl,?_⟩
      obtain rfl:=Qq hm
      exact Qp
     refine Qa 3 ?_
     obtain ⟨v659,hx,hm⟩:=Qh hm
     have hq:=QfY _ _ hx []
     refine Qr hq ?_
     refine Qa 3 ?_
     refine Qe ⟨by kernel_rfl,?_⟩
     obtain rfl:=Qq hm
     exact Qp
    clear hm
    refine Qw 80 hs (Xp _) (fun hm=>?_) (fun hm=>?_)
    ·refine Qa 6 ?_
     obtain rfl:=Qq hm
     exact hJ _ _
    refine Qa 3 ?_
    obtain ⟨v658,hx,hm⟩:=Qh hm
    have hq:=Qgc _ _ hx []
    refine Qr hq ?_
    refine Qa 2 ?_
    obtain rfl:=Qq hm
    exact hJ _ _
   refine Qa 17 ?_
   refine Qe ⟨by kernel_rfl,?_⟩
   obtain rfl:=Qq hm
   exact Qp
  clear hs
  refine Qy hm (Qz _) (fun hm=>?_) (fun hm=>?_)
  ·refine Qd (R_G (Qa 1 (Qe (Qo ?_))))
   obtain rfl:=Qq hm
   exact ⟨rfl,Qp⟩
  refine Qs (R_G (Qa 3 (Qe ?_)))
  exact X5 _ _ hm _ (prune_of2 [(.map (smE v15)),(.tok 59 v16.length),(.box [(.vec 1 ((List.map Qb.toD) v16)),(.mapv 0)]),(.tok 59 (([]:List Qb).length)),(.box [(.vec 1 ((List.map Qb.toD) v17)),(.mapv 0)]),(.box [(Qg v18),(La v19),(Qg v20),(La v21),(Qg v22),(Qg v23),(La v24),(.dat (.lst (Qc.toDs v25))),(.dat (.lst ((List.map Qj.toD) v26)))]),(.tok 48 v27.length),(.box [(.ptr 4 0),(.vec 6 ((List.map Qj.toD) v27))]),(.box [(Qg v28),(La v29),(Qg v30),(La v31),(Qg v32),(Qg v33),(La v34),(.dat (.lst (Qc.toDs v35)))]),(.box [(Qg v36),(La v37),(Qg v38),(La v39),(Qg v40),(Qg v41),(La v42),(.dat (.lst (Qc.toDs v43))),(.dat (.lst ((List.map Qj.toD) v44)))])] (fun _=>(pg_cons (purge_sm _ _ _) (pg_cons (by kernel_rfl) (pg_cons (by kernel_rfl) (pg_cons (by kernel_rfl) (pg_cons (by kernel_rfl) (pg_cons (by kernel_rfl) (pg_cons (by kernel_rfl) (pg_cons (by kernel_rfl) (pg_cons (by kernel_rfl) (pg_cons (by kernel_rfl) pg_nil))))))))))) rfl)
 refine Zh ?_
 obtain rfl:=Qq hm
 exact ⟨rfl,Qp⟩
def XZ (x:((List Qb) × Qf)):Option Bool :=
 match x with
 | (p0,p1) =>
 (QbO ()>>=fun (v2:Bool) =>
 (if v2=false then
  some true
 else
 Qb5 (p0,300)>>=fun (v4:Bool) =>
 some (!v4)
 )>>=fun (v3:Bool) =>
 (if v3=true then
  some true
 else
 Qa4 p0>>=fun (v6:Bool) =>
 some (!v6)
 )>>=fun (v5:Bool) =>
 if v5=true then
  some true
 else
 Qa3 ((⟨p1.kind,p1.fn,p1.axis,p1.name,p1.nums,p1.kids⟩:Qf),60)>>=fun (v7:Bool) =>
 some (!v7)
 )>>=fun (v1:Bool) =>
 if v1=true then
  QbO ()>>=fun (v8:Bool) =>
  some v8
 else
 (
 XK p0>>=fun (out:((List (ByteArray × Int)) × (List Qb) × ByteArray × (List Int) × (List Int) × (List Qb)) ⊕ ((List (ByteArray × Int)) × (List Qb) × (List Qb))) =>
 match out with
 | .inl (v9,v10,v11,v12,v13,v14) =>
  some false
 | .inr ((v15,v16,v17)) =>
  J9 (p1.kind,p1.fn,p1.axis,p1.name,p1.nums,p1.kids,v15,v16,v17)>>=fun ((v18,v19,v20,v21,v22,v23,v24,v25,v26,v27,v28,v29,v30,v31,v32,v33,v34,v35,v36,v37,v38,v39,v40,v41,v42,v43,v44,v45):(Int × (List Int) × Int × (List Int) × Int × Int × (List Int) × (List Qc) × (List Qj) × (List Qj) × Int × (List Int) × Int × (List Int) × Int × Int × (List Int) × (List Qc) × Int × (List Int) × Int × (List Int) × Int × Int × (List Int) × (List Qc) × (List Qj) × Int)) =>
  if v45≠0 then
   (if v36=0 then
    some ((v44.length:Int) == 0)
   else
   some false
   )>>=fun (v46:Bool) =>
   some v46
  else
  Qa1 (⟨p1.kind,p1.fn,p1.axis,p1.name,p1.nums,p1.kids⟩:Qf)>>=fun (v47:(List ByteArray)) =>
  (
  ZH (v44,p0,v47,v15,v16,v17,v18,v19,v20,v21,v22,v23,v24,v25,v26,v27,v28,v29,v30,v31,v32,v33,v34,v35,v36,v37,v38,v39,v40,v41,v42,v43,0)>>=fun (out:(ByteArray × (List Int) × (List Int) × (List Int) × (List Int)) ⊕ Unit) =>
  match out with
  | .inl (v648,v649,v650,v651,v652) =>
   some false
  | .inr (_) =>
   QaX (⟨(⟨v36,v37,v38,v39,v40,v41,v42,v43⟩:Qc),v44⟩:ZM)>>=fun (v660:(List (List Int))) =>
   Qbr ((⟨v36,v37,v38,v39,v40,v41,v42,v43⟩:Qc),v660)>>=fun (v661:Bool) =>
   some v661
  )
 )
def QcJ:((List Qb) × Qf)→Bool→Prop:=fun x r=>match x,r with
 | (p0,p1),r0=>∀ H,PC prog env 3 ([(.lst ((List.map Qb.toD) p0)),(Qf.ex p1)].map .dat) H (Qm r0) H
theorem w_law15_ElabRight:∀ x r,XZ x=some r→QcJ x r:=by
 intro x r0 hm
 unfold XZ at hm
 unfold QcJ
 obtain ⟨p0,p1⟩:=x
 intro H
 refine PC_sx (ds:=[(.lst ((List.map Qb.toD) p0)),(Qf.ex p1)]) (fn:=f3) rfl ?_
 refine Qd (R_G (Qa 2 (Qe (Qd (Qd ?_)))))
 obtain ⟨v1,hs,hm⟩:=Qh hm
 refine Yx (fun d=>⟨sl d 100 [(0,(.dat (.lst ((List.map Qb.toD) p0)))),(3,(.iptr [(Qi p1.kind),(Qi p1.fn),(Qi p1.axis),(strD p1.name),(Lb p1.nums),(.lst (Qf.toDs p1.kids))])),(29,(Qm v1))],[]⟩) ?_ (fun d=>?_)
 ·replace hm:=hs
  clear hs
  refine QcY ?_
  obtain ⟨v2,hx,hm⟩:=Qh hm
  have hq:=QeP _ _ hx []
  refine Qr hq ?_
  refine Qa 2 ?_
  obtain ⟨v3,hs,hm⟩:=Qh hm
  refine YC (j:=7) (fun d=>⟨sl d 100 [(0,(.dat (.lst ((List.map Qb.toD) p0)))),(3,(.iptr [(Qi p1.kind),(Qi p1.fn),(Qi p1.axis),(strD p1.name),(Lb p1.nums),(.lst (Qf.toDs p1.kids))])),(19,(Qm v3))],[]⟩) (fun d=>?_) (fun hJ=>?_)
  ·clear hs
   refine Qa 1 ?_
   obtain ⟨v5,hs,hm⟩:=Qh hm
   refine YC (j:=12) (fun d=>⟨sl d 100 [(0,(.dat (.lst ((List.map Qb.toD) p0)))),(3,(.iptr [(Qi p1.kind),(Qi p1.fn),(Qi p1.axis),(strD p1.name),(Lb p1.nums),(.lst (Qf.toDs p1.kids))])),(24,(Qm v5))],[]⟩) (fun d=>?_) (fun hJ=>?_)
   ·clear hs
    refine Qa 1 ?_
    refine Qw 25 hm (Qz _) (fun hm=>?_) (fun hm=>?_)
    ·refine Qa 4 ?_
     refine Qe ⟨by kernel_rfl,?_⟩
     obtain rfl:=Qq hm
     exact Qp
    refine Qa 1 ?_
    obtain ⟨v7,hx,hm⟩:=Qh hm
    have hq:=Qgg _ _ hx []
    refine Qr hq ?_
    refine Qa 2 ?_
    refine Qe ⟨by kernel_rfl,?_⟩
    obtain rfl:=Qq hm
    exact Qp
   clear hm
   refine Qw 20 hs (Qz _) (fun hm=>?_) (fun hm=>?_)
   ·refine Qa 4 ?_
    obtain rfl:=Qq hm
    exact hJ _ _
   refine Qa 1 ?_
   obtain ⟨v6,hx,hm⟩:=Qh hm
   have hq:=Qgh _ _ hx []
   refine Qr hq ?_
   refine Qa 2 ?_
   obtain rfl:=Qq hm
   exact hJ _ _
  clear hm
  refine Qw 15 hs (Xp _) (fun hm=>?_) (fun hm=>?_)
  ·refine Qa 4 ?_
   obtain rfl:=Qq hm
   exact hJ _ _
  refine Qa 1 ?_
  obtain ⟨v4,hx,hm⟩:=Qh hm
  have hq:=QgK _ _ hx []
  refine Qr hq ?_
  refine Qa 2 ?_
  obtain rfl:=Qq hm
  exact hJ _ _
 clear hs
 refine Qy hm (Qz _) (fun hm=>?_) (fun hm=>?_)
 ·refine Qd (R_G ?_)
  obtain ⟨v8,hx,hm⟩:=Qh hm
  have hq:=QeP _ _ hx []
  refine Qr hq ?_
  refine Qa 1 (Qe (Qo ?_))
  obtain rfl:=Qq hm
  exact ⟨trivial,Qk⟩
 refine Qs (Qd (R_G (Qa 1 ?_)))
 obtain ⟨out,hx,hm⟩:=Qh hm
 rcases out with ⟨v9,v10,v11,v12,v13,v14⟩|⟨v15,v16,v17⟩
 ·have hq:=Qcx _ _ hx
  dsimp only [JE] at hq
  refine Q0 hq ?_
  refine Qa 1 (Qe (Qd (Qd (R_G (Qa 2 (Qe ?_))))))
  refine Qbd (by kernel_rfl) ?_
  refine Qd (R_G (Qa 1 (Qe (Qo ?_))))
  obtain rfl:=Qq hm
  exact ⟨trivial,Qk⟩
 ·have hq:=Qcx _ _ hx
  dsimp only [JE] at hq
  refine Q0 hq ?_
  refine Qa 1 (Qe (Qd (Qd (R_G (Qa 2 (Qe ?_))))))
  refine Xh (by kernel_rfl) ?_
  refine Qs (Qd (R_G (Qa 2 ?_)))
  obtain ⟨⟨v18,v19,v20,v21,v22,v23,v24,v25,v26,v27,v28,v29,v30,v31,v32,v33,v34,v35,v36,v37,v38,v39,v40,v41,v42,v43,v44,v45⟩,hx,hm⟩:=Qh hm
  have hq:=Qfg _ _ hx
  dsimp only [Qbl] at hq
  refine Q0 hq ?_
  refine Qa 6 (Qe (Qd (Qd (R_G (Qa 2 (Qe ?_))))))
  refine Qy hm (ne_dec _ _) (fun hm=>?_) (fun hm=>?_)
  ·refine Qd ?_
   obtain ⟨v46,hs,hm⟩:=Qh hm
   refine Yx (fun d=>⟨sl d 100 [(4,(Qm v46))],[(.map (smE v15)),(.tok 59 v16.length),(.box [(.vec 1 ((List.map Qb.toD) v16)),(.mapv 0)]),(.tok 59 (([]:List Qb).length)),(.box [(.vec 1 ((List.map Qb.toD) v17)),(.mapv 0)]),(.box [(Qg v18),(La v19),(Qg v20),(La v21),(Qg v22),(Qg v23),(La v24),(.dat (.lst (Qc.toDs v25))),(.dat (.lst ((List.map Qj.toD) v26)))]),(.tok 48 v27.length),(.box [(.ptr 4 0),(.vec 6 ((List.map Qj.toD) v27))]),(.box [(Qg v28),(La v29),(Qg v30),(La v31),(Qg v32),(Qg v33),(La v34),(.dat (.lst (Qc.toDs v35)))]),(.box [(Qg v36),(La v37),(Qg v38),(La v39),(Qg v40),(Qg v41),(La v42),(.dat (.lst (Qc.toDs v43))),(.dat (.lst ((List.map Qj.toD) v44)))])]⟩) ?_ (fun d=>?_)
   ·replace hm:=hs
    clear hs
    refine R_G (Qa 5 ?_)
    refine Qw 47 hm (ZN _ _) (fun hm=>?_) (fun hm=>?_)
    ·refine Qa 2 ?_
     refine QP Qj.toD v44 (es:=(List.map Qj.toD) v44) rfl ?_
     refine Qa 3 (Qe ?_)
     obtain rfl:=Qq hm
     exact Qp
    refine Qa 6 (Qe ?_)
    obtain rfl:=Qq hm
    exact Qp
   clear hs
   refine Qo ?_
   obtain rfl:=Qq hm
   exact ⟨trivial,Qk⟩
  refine Qs (Qd (R_G (Qa 1 ?_)))
  obtain ⟨v47,hx,hm⟩:=Qh hm
  have hq:=Qge _ _ hx []
  refine Qr hq ?_
  refine Qa 1 (Qe (Qd (Qd (R_G (Qa 1 (Qe (Qu ?_)))))))
  obtain ⟨out,hs,hm⟩:=Qh hm
  refine Zk ?_
  rcases out with ⟨v648,v649,v650,v651,v652⟩|_
  ·refine RL_use (X5 _ _ hs) (prune_of2 [(.map (smE v15)),(.tok 59 v16.length),(.box [(.vec 1 ((List.map Qb.toD) v16)),(.mapv 0)]),(.tok 59 (([]:List Qb).length)),(.box [(.vec 1 ((List.map Qb.toD) v17)),(.mapv 0)]),(.box [(Qg v18),(La v19),(Qg v20),(La v21),(Qg v22),(Qg v23),(La v24),(.dat (.lst (Qc.toDs v25))),(.dat (.lst ((List.map Qj.toD) v26)))]),(.tok 48 v27.length),(.box [(.ptr 4 0),(.vec 6 ((List.map Qj.toD) v27))]),(.box [(Qg v28),(La v29),(Qg v30),(La v31),(Qg v32),(Qg v33),(La v34),(.dat (.lst (Qc.toDs v35)))]),(.box [(Qg v36),(La v37),(Qg v38),(La v39),(Qg v40),(Qg v41),(La v42),(.dat (.lst (Qc.toDs v43))),(.dat (.lst ((List.map Qj.toD) v44)))])] (fun _=>(pg_cons (purge_sm _ _ _) (pg_cons (by kernel_rfl) (pg_cons (by kernel_rfl) (pg_cons (by kernel_rfl) (pg_cons (by kernel_rfl) (pg_cons (by kernel_rfl) (pg_cons (by kernel_rfl) (pg_cons (by kernel_rfl) (pg_cons (by kernel_rfl) (pg_cons (by kernel_rfl) pg_nil))))))))))) rfl) ?_
   clear hs
   intro e s hp
   obtain ⟨rfl,d,rfl⟩:=hp
   obtain rfl:=Qq hm
   exact ⟨trivial,Qk⟩
  ·refine RL_use (X5 _ _ hs) (prune_of2 [(.map (smE v15)),(.tok 59 v16.length),(.box [(.vec 1 ((List.map Qb.toD) v16)),(.mapv 0)]),(.tok 59 (([]:List Qb).length)),(.box [(.vec 1 ((List.map Qb.toD) v17)),(.mapv 0)]),(.box [(Qg v18),(La v19),(Qg v20),(La v21),(Qg v22),(Qg v23),(La v24),(.dat (.lst (Qc.toDs v25))),(.dat (.lst ((List.map Qj.toD) v26)))]),(.tok 48 v27.length),(.box [(.ptr 4 0),(.vec 6 ((List.map Qj.toD) v27))]),(.box [(Qg v28),(La v29),(Qg v30),(La v31),(Qg v32),(Qg v33),(La v34),(.dat (.lst (Qc.toDs v35)))]),(.box [(Qg v36),(La v37),(Qg v38),(La v39),(Qg v40),(Qg v41),(La v42),(.dat (.lst (Qc.toDs v43))),(.dat (.lst ((List.map Qj.toD) v44)))])] (fun _=>(pg_cons (purge_sm _ _ _) (pg_cons (by kernel_rfl) (pg_cons (by kernel_rfl) (pg_cons (by kernel_rfl) (pg_cons (by kernel_rfl) (pg_cons (by kernel_rfl) (pg_cons (by kernel_rfl) (pg_cons (by kernel_rfl) (pg_cons (by kernel_rfl) (pg_cons (by kernel_rfl) pg_nil))))))))))) rfl) ?_
   clear hs
   intro e s hp
   obtain ⟨rfl,d,rfl⟩:=hp
   refine Qd ?_
   refine QaB ?_
   refine Qa 3 ?_
   obtain ⟨v660,hx,hm⟩:=Qh hm
   have hq:=Qf8 _ _ hx []
   refine Qr hq ?_
   obtain ⟨v661,hx,hm⟩:=Qh hm
   have hq:=Qgo _ _ hx []
   refine Qr hq ?_
   refine Qa 1 ?_
   refine Qe ⟨by kernel_rfl,?_⟩
   refine Qo ?_
   obtain rfl:=Qq hm
   exact ⟨trivial,Qk⟩
set_option linter.unusedSimpArgs false
theorem Equal_L1:∀ (s t p q:List Int),s.length=t.length→p.length=q.length→Sm (p++s).length→Yh (p++s,q++t,(p.length:Int))=some (if s=t then .inr () else .inl ())
 | [],[],p,q,_,_,hs=>by
  rw [Yh]; simp only [Y3,if_false,if_true]
 | x::s,y::t,p,q,h1,h2,hs=>by
  rw [Yh]
  have ih:=Equal_L1 s t (p++[x]) (q++[y]) (by simpa using h1) (by simp [h2]) (by rw [← QV]; exact hs)
  rw [← QV,← QV] at ih
  simp only [Ym,if_true,Zp,Ql,mid_W hs,ih]
  rw [h2,Zp]
  by_cases he:x=y <;> simp [he,Ql]
 | [],_::_,_,_,h,_,_=>by cases h
 | _::_,[],_,_,h,_,_=>by cases h
theorem Equal_ok (a b:List Int) (hs:Sm a.length):QaZ (a,b)=some (decide (a=b)):=by
 simp only [QaZ]
 by_cases h:a.length=b.length
 ·have e:=Equal_L1 a b [] [] h rfl hs
  have e2:¬ ((a.length:Int)≠(b.length:Int)):=by omega
  simp only [e2,if_false]
  have e3:Yh (a,b,0)=_:=e
  rw [e3]
  by_cases hab:a=b
  ·subst hab; simp
  ·rw [if_neg hab,decide_eq_false hab]; rfl
 ·have e2:((a.length:Int)≠(b.length:Int)):=by omega
  have e3:a≠b:=fun e=>h (by rw [e])
  rw [if_pos e2,decide_eq_false e3]

def prodI (l:List Int):Int:=l.foldl (· * ·) 1
def negB (l:List Int):Bool:=l.any fun d=>decide (d < 0)
def bigB (l:List Int):Bool:=l.any fun d=>decide (d > 65536)
def prodR (l:List Int):Int × Int:=if negB l then (0,6) else if bigB l then (0,7) else if prodI l > 65536 then (0,7) else (prodI l,0)
def checkR (l:List Int):Int:=if negB l then 6 else if l.length > 16∨bigB l=true∨prodI l > 65536 then 7 else 0
def cellsR (l:List Int):Int:=if checkR l=0 then prodI l else 0
theorem foldl_mul:∀ (l:List Int) (x:Int),l.foldl (· * ·) x=x * l.foldl (· * ·) 1
 | [],x=>by simp
 | d::l,x=>by rw [List.foldl_cons,foldl_mul l (x * d),List.foldl_cons,foldl_mul l (1 * d),Int.one_mul,Int.mul_assoc]
theorem prodI_cons (d:Int) (l:List Int):prodI (d::l)=d * prodI l:=by rw [prodI,List.foldl_cons,foldl_mul,Int.one_mul]; rfl
theorem prodI_nil:prodI []=1:=rfl
theorem prodI_append (a b:List Int):prodI (a++b)=prodI a * prodI b:=by rw [prodI,prodI,prodI,List.foldl_append,foldl_mul]
theorem prodI_pos:∀ {l:List Int},(∀ d∈l,1≤d)→1≤prodI l
 | [],_=>by simp [prodI]
 | d::l,h=>by
  have h1:=prodI_pos (l:=l) (fun x hx=>h x (List.mem_cons_of_mem _ hx))
  have h2:=h d (List.mem_cons_self ..)
  rw [prodI_cons]
  have:=Int.mul_le_mul h2 h1 (by omega) (by omega)
  omega
theorem prodI_zero {l:List Int} (h:(0:Int)∈l):prodI l=0:=by
 obtain ⟨s,t,rfl⟩:=List.append_of_mem h
 rw [prodI_append,prodI_cons]; simp
theorem negB_cons (d:Int) (l:List Int):negB (d::l)=(decide (d < 0) || negB l):=rfl
theorem bigB_cons (d:Int) (l:List Int):bigB (d::l)=(decide (d > 65536) || bigB l):=rfl

theorem Prod_L1:∀ (s p:List Int) (z:Bool),Sm (p++s).length→ZA (p++s,z,(p.length:Int))=some (if negB s then .inl () else .inr (z || s.any (· == 0)))
 | [],p,z,hs=>by
  rw [ZA]; simp only [Y3,if_false]; simp [negB]
 | x::s,p,z,hs=>by
  rw [ZA]
  have ih:=fun z=>Prod_L1 s (p++[x]) z (by rw [← QV]; exact hs)
  rw [← QV] at ih
  simp only [Ym,if_true,Zp,Ql,mid_W hs,ih,negB_cons]
  by_cases hn:x < 0
  ·simp [hn]
  ·cases z <;> by_cases hz:x=0 <;> simp [hn,hz]
theorem Prod_L2:∀ (s p:List Int) (z:Bool),Sm (p++s).length→ZJ (p++s,z,(p.length:Int))=some (if bigB s then .inl () else .inr ())
 | [],p,z,hs=>by
  rw [ZJ]; simp only [Y3,if_false]; simp [bigB]
 | x::s,p,z,hs=>by
  rw [ZJ]
  have ih:=Prod_L2 s (p++[x]) z (by rw [← QV]; exact hs)
  rw [← QV] at ih
  simp only [Ym,if_true,Zp,Ql,mid_W hs,ih,bigB_cons]
  by_cases hn:x > 65536 <;> simp [hn]
theorem Prod_L3:∀ (s p:List Int) (m:Int),Sm (p++s).length→(∀ d∈s,1≤d∧d≤65536)→1≤m→m≤65536→ZK (p++s,m,(p.length:Int))=some (if m * prodI s > 65536 then .inl () else .inr (m * prodI s))
 | [],p,m,hs,hd,h1,h2=>by
  rw [ZK]; simp only [Y3,if_false,prodI_nil,Int.mul_one]
  rw [if_neg (by omega)]
 | x::s,p,m,hs,hd,h1,h2=>by
  rw [ZK]
  have hx:=hd x (List.mem_cons_self ..)
  have b1:=Int.mul_le_mul h2 hx.2 (by omega) (by omega)
  have b2:=Int.mul_le_mul h1 hx.1 (by omega) (by omega)
  have hw:W (m * x)=m * x:=W_ok (by omega) (by omega)
  have hds:∀ d∈s,1≤d∧d≤65536:=fun d h=>hd d (List.mem_cons_of_mem _ h)
  simp only [Ym,if_true,Zp,Ql,mid_W hs,hw,prodI_cons]
  rw [← Int.mul_assoc]
  by_cases hn:m * x > 65536
  ·have hp:=prodI_pos (l:=s) (fun d h=>(hds d h).1)
   have:m * x * 1≤m * x * prodI s:=Int.mul_le_mul_of_nonneg_left hp (by omega)
   rw [if_pos hn,if_pos (by omega)]
  ·have ih:=Prod_L3 s (p++[x]) (m * x) (by rw [← QV]; exact hs) hds (by omega) (by omega)
   rw [← QV] at ih
   rw [if_neg hn,ih]
theorem neg_all {l:List Int} (h:negB l=false):∀ d∈l,0≤d:=fun d hd=>by
 have:=List.any_eq_false.1 h d hd
 simp at this; omega
theorem big_all {l:List Int} (h:bigB l=false):∀ d∈l,d≤65536:=fun d hd=>by
 have:=List.any_eq_false.1 h d hd
 simp at this; omega
theorem Product_ok (l:List Int) (hs:Sm l.length):XV l=some (prodR l):=by
 have e1:ZA (l,false,0)=_:=Prod_L1 l [] false hs
 have e2:∀ z,ZJ (l,z,0)=_:=fun z=>Prod_L2 l [] z hs
 simp only [XV,e1,Ql,prodR]
 by_cases hn:negB l=true
 ·simp [hn]
 ·have hn':negB l=false:=by simpa using hn
  simp only [hn',Bool.false_eq_true,if_false,Bool.false_or,e2,Ql]
  by_cases hb:bigB l=true
  ·simp [hb]
  ·have hb':bigB l=false:=by simpa using hb
   simp only [hb',Bool.false_eq_true,if_false]
   by_cases hz:(l.any (· == 0))=true
   ·have:prodI l=0:=prodI_zero (by simpa using hz)
    simp [hz,this]
   ·have hz':l.any (· == 0)=false:=(Bool.not_eq_true _).mp hz
    have e3:ZK (l,1,0)=_:=Prod_L3 l [] 1 hs (fun d hd=>by
     have h1:=neg_all hn' d hd
     have h2:=big_all hb' d hd
     have h3:d≠0:=fun e=>by have:=List.any_eq_false.1 hz' d hd; simp [e] at this
     omega) (by omega) (by omega)
    simp only [hz',Bool.false_eq_true,if_false,e3,Ql,Int.one_mul]
    by_cases hp:prodI l > 65536 <;> simp [hp]
theorem Check_L1:∀ (s p:List Int),Sm (p++s).length→Yg (p++s,(p.length:Int))=some (if negB s then .inl () else .inr ())
 | [],p,hs=>by
  rw [Yg]; simp only [Y3,if_false]; simp [negB]
 | x::s,p,hs=>by
  rw [Yg]
  have ih:=Check_L1 s (p++[x]) (by rw [← QV]; exact hs)
  rw [← QV] at ih
  simp only [Ym,if_true,Zp,Ql,mid_W hs,ih,negB_cons]
  by_cases hn:x < 0 <;> simp [hn]
theorem Check_ok (l:List Int) (hs:Sm l.length):JS l=some (checkR l):=by
 have e1:Yg (l,0)=_:=Check_L1 l [] hs
 simp only [JS,e1,Ql,checkR,Product_ok l hs]
 by_cases hn:negB l=true
 ·simp [hn]
 ·simp only [hn,if_false,prodR,Bool.false_eq_true]
  by_cases hl:l.length > 16
  ·have:(l.length:Int) > 16:=by omega
   simp [hl,this,Ql]
  ·have:¬ (l.length:Int) > 16:=by omega
   by_cases hb:bigB l=true
   ·simp [hl,this,hb,Ql]
   ·by_cases hp:prodI l > 65536 <;> simp [hl,this,hb,hp,Ql]
def remL (l:List Int) (k:Nat):List Int:=l.take k++l.drop (k+1)
def insL (l:List Int) (k:Nat) (v:Int):List Int:=l.take k++v::l.drop k
def repL (l:List Int) (k:Nat) (v:Int):List Int:=l.take k++v::l.drop (k+1)
theorem checkR_zero {l:List Int}:checkR l=0↔(∀ d∈l,0≤d∧d≤65536)∧l.length≤16∧prodI l≤65536:=by
 unfold checkR
 constructor
 ·intro h
  cases hn:negB l
  ·rw [hn,if_neg (by decide)] at h
   split at h
   ·cases h
   ·rename_i h2
    have hb:bigB l=false:=by
     cases hb:bigB l
     ·rfl
     ·exact absurd (Or.inr (Or.inl hb)) h2
    exact ⟨fun d hd=>⟨neg_all hn d hd,big_all hb d hd⟩,by have:=fun h=>h2 (Or.inl h); omega,by have:=fun h=>h2 (Or.inr (Or.inr h)); omega⟩
  ·rw [hn] at h; cases h
 ·rintro ⟨h1,h2,h3⟩
  have hn:negB l=false:=List.any_eq_false.2 fun d hd=>by have:=h1 d hd; simp; omega
  have hb:bigB l=false:=List.any_eq_false.2 fun d hd=>by have:=h1 d hd; simp; omega
  rw [hn,hb,if_neg (by decide),if_neg]
  rintro (h|h|h)
  ·omega
  ·cases h
  ·omega
theorem prod_rep (l:List Int) (i:Nat) (x:Int):prodI (repL l i x)=x * prodI (remL l i):=by
 rw [repL,remL,prodI_append,prodI_cons,prodI_append,Int.mul_left_comm]
theorem rep_self {l:List Int} {i:Nat} (hi:i < l.length):repL l i l[i]=l:=by
 rw [repL,← List.drop_eq_getElem_cons hi,List.take_append_drop]
theorem rep_mem {l:List Int} {i:Nat} {x d:Int}:d∈repL l i x↔d=x∨d∈remL l i:=by
 simp only [repL,remL,List.mem_append,List.mem_cons]
 constructor
 ·rintro (h|h|h)
  ·exact .inr (.inl h)
  ·exact .inl h
  ·exact .inr (.inr h)
 ·rintro (h|h|h)
  ·exact .inr (.inl h)
  ·exact .inl h
  ·exact .inr (.inr h)
theorem rep_len {l:List Int} {i:Nat} {x:Int} (hi:i < l.length):(repL l i x).length=l.length:=by simp [repL]; omega
theorem rem_mem {l:List Int} {i:Nat} {d:Int} (h:d∈remL l i):d∈l:=by
 simp only [remL,List.mem_append] at h
 rcases h with h|h
 ·exact List.mem_of_mem_take h
 ·exact List.mem_of_mem_drop h
theorem prodI_nonneg:∀ {l:List Int},(∀ d∈l,0≤d)→0≤prodI l
 | [],_=>by simp [prodI]
 | d::l,h=>by
  rw [prodI_cons]
  exact Int.mul_nonneg (h d (List.mem_cons_self ..)) (prodI_nonneg fun x hx=>h x (List.mem_cons_of_mem _ hx))
theorem part_right {l:List Int} {i:Nat} {x y:Int} (hi:i < l.length) (h:checkR (repL l i y)=0) (h0:0≤x) (hx:x≤y):checkR (repL l i x)=0:=by
 obtain ⟨h1,h2,h3⟩:=checkR_zero.1 h
 have hr:∀ d∈remL l i,0≤d∧d≤65536:=fun d hd=>h1 d (rep_mem.2 (.inr hd))
 have hy:=h1 y (rep_mem.2 (.inl rfl))
 refine checkR_zero.2 ⟨fun d hd=>?_,?_,?_⟩
 ·rcases rep_mem.1 hd with rfl|hd
  ·omega
  ·exact hr d hd
 ·rw [rep_len hi] at h2 ⊢; exact h2
 ·rw [prod_rep] at h3 ⊢
  have:=Int.mul_le_mul_of_nonneg_right hx (prodI_nonneg fun d hd=>(hr d hd).1)
  omega
theorem rep_other {a b:List Int} {i:Nat} (ha:i < a.length) (hb:i < b.length) (hrem:remL a i=remL b i) (x:Int):repL a i x=repL b i x:=by
 have e1:a.take i=b.take i:=by
  have:=congrArg (List.take i) hrem
  simpa [remL,List.take_append_of_le_length,Nat.le_of_lt ha,Nat.le_of_lt hb,List.length_take,List.take_take] using this
 have e2:a.drop (i+1)=b.drop (i+1):=by
  have h3:a.take i++a.drop (i+1)=b.take i++b.drop (i+1):=hrem
  rw [e1] at h3
  exact List.append_cancel_left h3
 rw [repL,repL,e1,e2]
def Dims (X:List Int):Prop:=∀ d∈X,0≤d∧d≤65536
theorem getD_in {X:List Int} {k:Nat} (h:Dims X) (hk:k < X.length):0≤X.getD k 0∧X.getD k 0≤65536:=by
 rw [List.getD_eq_getElem?_getD,List.getElem?_eq_getElem hk]; exact h _ (List.getElem_mem hk)
theorem idx_getD {X:List Int} {k:Nat} (hk:k < X.length):idx X (k:Int)=some (X.getD k 0):=by
 rw [idx_ok hk,List.getD_eq_getElem?_getD,List.getElem?_eq_getElem hk]; rfl
inductive Below:List Int→List Int→Prop
 | nil:Below [] []
 | cons {x y:Int} {s t:List Int} (h0:0≤x) (h1:x≤y) (h:Below s t):Below (x::s) (y::t)
theorem Below.len {s t:List Int} (h:Below s t):s.length=t.length:=by
 induction h with
 | nil=>rfl
 | cons _ _ _ ih=>simp [ih]
theorem Below.prod {s t:List Int} (h:Below s t):0≤prodI s∧prodI s≤prodI t:=by
 induction h with
 | nil=>simp [prodI]
 | cons h0 h1 _ ih =>
  rw [prodI_cons,prodI_cons]
  exact ⟨Int.mul_nonneg h0 ih.1,Int.mul_le_mul h1 ih.2 ih.1 (by omega)⟩
theorem Below.dims {s t:List Int} (h:Below s t) (ht:Dims t):Dims s:=by
 induction h with
 | nil=>intro d hd; cases hd
 | @cons x y s t h0 h1 _ ih =>
  intro d hd
  rcases List.mem_cons.1 hd with rfl|hd
  ·have:=ht y (List.mem_cons_self ..); omega
  ·exact ih (fun z hz=>ht z (List.mem_cons_of_mem _ hz)) d hd
theorem Below.right {s t:List Int} (h:Below s t) (ht:checkR t=0):checkR s=0:=by
 obtain ⟨h1,h2,h3⟩:=checkR_zero.1 ht
 have:=h.prod
 exact checkR_zero.2 ⟨h.dims h1,by rw [h.len]; exact h2,by omega⟩
theorem prodI_ones:∀ n:Nat,prodI (List.replicate n 1)=1
 | 0=>rfl
 | n+1=>by rw [List.replicate_succ,prodI_cons,prodI_ones n]; rfl
theorem check_ones {n:Nat} (h:n≤16):checkR (List.replicate n 1)=0 :=
 checkR_zero.2 ⟨fun d hd=>by rw [List.eq_of_mem_replicate hd]; omega,by simpa using h,by rw [prodI_ones]; omega⟩
theorem Cont1_L1:∀ (s p:List Int),Sm (p++s).length→∃ r,QJ (p++s,(p.length:Int))=some r∧(negB s=true→∃ j:Nat,r=.inl (j:Int))∧(negB s=false→r=.inr ())
 | [],p,hs=>by
  rw [QJ]; simp only [Y3,if_false]; exact ⟨_,rfl,fun h=>(by cases h),fun _=>rfl⟩
 | x::s,p,hs=>by
  rw [QJ]
  obtain ⟨r,h1,h2,h3⟩:=Cont1_L1 s (p++[x]) (by rw [← QV]; exact hs)
  rw [← QV] at h1
  simp only [Ym,if_true,Zp,Ql,mid_W hs,Qbx,negB_cons]
  by_cases hn:x < 0
  ·simp only [hn,decide_true,if_true]; exact ⟨_,rfl,fun _=>⟨_,rfl⟩,fun h=>by simp at h⟩
  ·simp only [hn,decide_false,Bool.false_eq_true,if_false,Bool.false_or]; exact ⟨r,h1,h2,h3⟩
theorem Cont1_ok (l:List Int) (hs:Sm l.length):Q8 l=some (negB l):=by
 obtain ⟨r,h1,h2,h3⟩:=Cont1_L1 l [] hs
 have e:QJ (l,0)=some r:=h1
 simp only [Q8,Zw,e,Ql]
 cases hn:negB l
 ·rw [h3 hn]; rfl
 ·obtain ⟨j,rfl⟩:=h2 hn; simp [Ql]
theorem Cont2_L1:∀ (s p:List Int),Sm (p++s).length→∃ r,QK (p++s,(p.length:Int))=some r∧(bigB s=true→∃ j:Nat,r=.inl (j:Int))∧(bigB s=false→r=.inr ())
 | [],p,hs=>by
  rw [QK]; simp only [Y3,if_false]; exact ⟨_,rfl,fun h=>(by cases h),fun _=>rfl⟩
 | x::s,p,hs=>by
  rw [QK]
  obtain ⟨r,h1,h2,h3⟩:=Cont2_L1 s (p++[x]) (by rw [← QV]; exact hs)
  rw [← QV] at h1
  simp only [Ym,if_true,Zp,Ql,mid_W hs,Qby,bigB_cons]
  by_cases hn:x > 65536
  ·simp only [hn,decide_true,if_true]; exact ⟨_,rfl,fun _=>⟨_,rfl⟩,fun h=>by simp at h⟩
  ·simp only [hn,decide_false,Bool.false_eq_true,if_false,Bool.false_or]; exact ⟨r,h1,h2,h3⟩
theorem Cont2_ok (l:List Int) (hs:Sm l.length):Q9 l=some (bigB l):=by
 obtain ⟨r,h1,h2,h3⟩:=Cont2_L1 l [] hs
 have e:QK (l,0)=some r:=h1
 simp only [Q9,Zx,e,Ql]
 cases hn:bigB l
 ·rw [h3 hn]; rfl
 ·obtain ⟨j,rfl⟩:=h2 hn; simp [Ql]
def errR (l:List Int):Int:=if negB l then 6 else if bigB l then 7 else 0
theorem sizecheck_ok (l:List Int) (hs:Sm l.length):JJ l=some (errR l):=by
 simp only [JJ,Cont1_ok l hs,Cont2_ok l hs,Ql,errR]
 by_cases h1:negB l=true
 ·simp [h1]
 ·by_cases h2:bigB l=true <;> simp [h1,h2]
theorem Index_L1 (v:Int):∀ (s p:List Int),Sm (p++s).length→∃ r,Ze (p++s,v,(p.length:Int))=some r∧(s.any (v == ·)=true→∃ j:Nat,r=.inl (j:Int))∧(s.any (v == ·)=false→r=.inr ())
 | [],p,hs=>by
  rw [Ze]; simp only [Y3,if_false]; exact ⟨_,rfl,fun h=>(by cases h),fun _=>rfl⟩
 | x::s,p,hs=>by
  rw [Ze]
  obtain ⟨r,h1,h2,h3⟩:=Index_L1 v s (p++[x]) (by rw [← QV]; exact hs)
  rw [← QV] at h1
  simp only [Ym,if_true,Zp,Ql,mid_W hs]
  by_cases hn:v=x
  ·rw [if_pos hn]; exact ⟨_,rfl,fun _=>⟨_,rfl⟩,fun h=>by simp [hn] at h⟩
  ·rw [if_neg hn]; exact ⟨r,h1,fun h=>h2 (by simpa [hn] using h),fun h=>h3 (by simpa [hn] using h)⟩
theorem Contains_ok (l:List Int) (v:Int) (hs:Sm l.length):Yr (l,v)=some (l.any (v == ·)):=by
 obtain ⟨r,h1,h2,h3⟩:=Index_L1 v l [] hs
 have e:Ze (l,v,0)=some r:=h1
 simp only [Yr,Xw,e,Ql]
 cases hn:l.any (v == ·)
 ·rw [h3 hn]; rfl
 ·obtain ⟨j,rfl⟩:=h2 hn; simp [Ql]
theorem Mul_ok {a b:Int} (ha:1≤a∧a≤65536) (hb:1≤b∧b≤65536):Qcv (a,b,65536)=some (if a * b > 65536 then (0,false) else (a * b,true)):=by
 have m1:=Int.mul_le_mul ha.2 hb.2 (by omega) (by omega)
 have m2:=Int.mul_le_mul ha.1 hb.1 (by omega) (by omega)
 have hq0:(65536:Int).tdiv b=65536 / b:=Int.tdiv_eq_ediv_of_nonneg (by omega)
 have hq1:(65536:Int) / b≤65536:=Int.ediv_le_self _ (by omega)
 have hq2:0≤(65536:Int) / b:=Int.ediv_nonneg (by omega) (by omega)
 have hq:quoM 65536 b=some (65536 / b):=by
  rw [quoM,if_neg (by omega),hq0,W_ok (by omega) (by omega)]
 have hlt:(a > 65536 / b)=(a * b > 65536):=by
  have:=Int.ediv_lt_iff_lt_mul (a:=65536) (b:=a) (c:=b) (by omega)
  simp only [gt_iff_lt,eq_iff_iff]
  exact this
 simp only [Qcv,show ¬ a < 0 by omega,show ¬ b < 0 by omega,show ¬ a > 65536 by omega,show ¬ b > 65536 by omega,show b > 0 by omega,if_false,if_true,hq,Ql,hlt,decide_false,Bool.false_eq_true]
 by_cases h:a * b > 65536
 ·simp [h]
 ·simp only [h,decide_false,Ql,Bool.false_eq_true,if_false]; rw [W_ok (by omega) (by omega)]
theorem foldP_L1:∀ (s p:List Int) (m:Int),Sm (p++s).length→(∀ d∈s,1≤d∧d≤65536)→1≤m→m≤65536 →
  ∃ r,QU (p++s,m,(p.length:Int))=some r∧(m * prodI s > 65536→∃ v,r=.inl v)∧(¬ m * prodI s > 65536→r=.inr (m * prodI s))
 | [],p,m,hs,hd,h1,h2=>by
  rw [QU]; simp only [Y3,if_false,prodI_nil,Int.mul_one]
  exact ⟨_,rfl,fun h=>(by omega),fun _=>rfl⟩
 | x::s,p,m,hs,hd,h1,h2=>by
  rw [QU]
  have hx:=hd x (List.mem_cons_self ..)
  have hds:∀ d∈s,1≤d∧d≤65536:=fun d h=>hd d (List.mem_cons_of_mem _ h)
  have b2:=Int.mul_le_mul h1 hx.1 (by omega) (by omega)
  simp only [Ym,if_true,Zp,Ql,mid_W hs,QaG,Mul_ok ⟨h1,h2⟩ hx,prodI_cons]
  rw [← Int.mul_assoc]
  by_cases hn:m * x > 65536
  ·have hp:=prodI_pos (l:=s) (fun d h=>(hds d h).1)
   have:m * x * 1≤m * x * prodI s:=Int.mul_le_mul_of_nonneg_left hp (by omega)
   simp only [hn,if_true,Ql]
   exact ⟨_,rfl,fun _=>⟨_,rfl⟩,fun h=>absurd h (by omega)⟩
  ·obtain ⟨r,e1,e2,e3⟩:=foldP_L1 s (p++[x]) (m * x) (by rw [← QV]; exact hs) hds (by omega) (by omega)
   rw [← QV] at e1
   simp only [hn,if_false,Ql,Bool.true_eq_false]
   exact ⟨r,e1,e2,e3⟩
theorem sProduct_ok (l:List Int) (hs:Sm l.length):Jv l=some (prodR l):=by
 simp only [Jv,sizecheck_ok l hs,Ql,Yj,prodR,errR]
 by_cases hn:negB l=true
 ·simp [hn,Ql]
 ·have hn':negB l=false:=(Bool.not_eq_true _).mp hn
  by_cases hb:bigB l=true
  ·simp [hn,hb,Ql]
  ·have hb':bigB l=false:=(Bool.not_eq_true _).mp hb
   simp only [hn',hb',Bool.false_eq_true,if_false,if_true,Contains_ok l 0 hs,Ql]
   by_cases hz:l.any ((0:Int) == ·)=true
   ·have h0:(0:Int)∈l:=by
     obtain ⟨x,hx,he⟩:=List.any_eq_true.1 hz
     have:(0:Int)=x:=by simpa using he
     rw [this]; exact hx
    have:=prodI_zero h0
    simp [hz,this,Ql]
   ·have hall:∀ d∈l,1≤d∧d≤65536:=fun d hd=>by
     have h1:=neg_all hn' d hd
     have h2:=big_all hb' d hd
     have h3:d≠0:=fun e=>hz (List.any_eq_true.2 ⟨d,hd,by simp [e]⟩)
     omega
    obtain ⟨r,e1,e2,e3⟩:=foldP_L1 l [] 1 hs hall (by omega) (by omega)
    have e4:QU (l,1,0)=some r:=e1
    rw [Int.one_mul] at e2 e3
    simp only [hz,if_false,Ql,Yk,e4,ne_eq,not_true]
    by_cases hp:prodI l > 65536
    ·obtain ⟨v,rfl⟩:=e2 hp; simp [hp,Ql]
    ·rw [e3 hp]; simp [hp,Ql]
theorem shapeCheck_ok (l:List Int) (hs:Sm l.length):Zo l=some (checkR l):=by
 simp only [Zo,sProduct_ok l hs,Ql,prodR,checkR]
 by_cases hn:negB l=true
 ·simp [hn,Ql]
 ·by_cases hl:l.length > 16
  ·have h16:(l.length:Int) > 16:=by omega
   by_cases hb:bigB l=true
   ·simp [hn,hb,hl,h16,Ql]
   ·by_cases hp:prodI l > 65536 <;> simp [hn,hb,hp,hl,h16,Ql]
  ·have h16:¬ (l.length:Int) > 16:=by omega
   by_cases hb:bigB l=true
   ·simp [hn,hb,hl,h16,Ql]
   ·by_cases hp:prodI l > 65536 <;> simp [hn,hb,hp,hl,h16,Ql]
theorem Sm_le {n:Nat} (h:n≤1000):Sm n:=Sm_of (show n≤1000 from h)
theorem Clone_ok (l:List Int) (hl:l.length≤1000):QA l=some l:=by
 rw [QA,app_ok (by simp [room]; omega)]; rfl
theorem app1 {l:List Int} {v:Int} (hl:l.length≤100000):app 8 l [v]=some (l++[v]):=app_ok (by simp [room]; omega)
def zeroRule:Qn:=⟨[],[],[],[],0,0,[]⟩
theorem failed_ok (e:Int):Zv e=some (zeroRule,e):=rfl
def absI (v:Int):Int:=if v < 0 then -v else v
def bigM (v:Int):Bool:=decide (v > 65536) || decide (v < -65536)
theorem Mag_ok (v:Int):XE v=some (if bigM v then (0,7) else (absI v,0)):=by
 simp only [XE,bigM]
 by_cases h1:v > 65536
 ·simp [h1,Ql]
 ·by_cases h2:v < -65536
  ·simp [h1,h2,Ql]
  ·have w:W (0 - v)=0 - v:=W_ok (by omega) (by omega)
   have e:(if v < 0 - v then 0 - v else v)=absI v:=by unfold absI; split <;> split <;> omega
   simp only [h1,h2,if_false,decide_false,Ql,Bool.false_eq_true,Bool.or_false,w,e]
def seenL (a:List Int) (n:Nat):List Int:=if a=[] then List.replicate n 1 else a
theorem seen_ok (a:List Int) (n:Nat):Qau (a,(n:Int))=some (if a=[]∧n > 16 then ([],7) else (seenL a n,0)):=by
 simp only [Qau,QcN,Xo]
 cases a with
 | cons x a=>rw [if_pos (by simp)]; simp [seenL]
 | nil =>
  rw [if_neg (by simp)]
  by_cases h:n > 16
  ·rw [if_pos (show (n:Int) > 16 by omega)]; simp [h]
  ·rw [if_neg (show ¬ (n:Int) > 16 by omega),if_pos ⟨by simp,by omega,by omega⟩]
   simp [h,Ql,seenL]
theorem seen_check {a:List Int} {n:Nat} (h:checkR a=0) (hn:¬ (a=[]∧n > 16)):checkR (seenL a n)=0:=by
 unfold seenL
 split
 ·rename_i he; exact check_ones (Nat.le_of_not_lt fun hc=>hn ⟨he,hc⟩)
 ·exact h
def stI (v d:Int):Int:=if v < 0 then d - absI v else 0
theorem zip_mid {f:Int→Int→Int} {p q:List Int} {x y:Int} (h:p.length=q.length):List.zipWith f (p++[x]) (q++[y])=List.zipWith f p q++[f x y]:=by
 rw [List.zipWith_append h]; rfl
theorem take_L1 (sc:Bool):∀ (s t p q:List Int),s.length=t.length→p.length=q.length→(p++s).length≤1000→Dims t →
  ∃ o,Yy (⟨p++s,sc⟩,q++t,p.map absI,List.zipWith stI p q,(p.length:Int))=some o ∧
   (s.any bigM=true→∃ m n,o=.inl ([],[],[],[],0,0,[],7,m,n))∧(s.any bigM=false→o=.inr ((p++s).map absI,List.zipWith stI (p++s) (q++t)))
 | [],[],p,q,_,h2,h3,h4=>by
  rw [Yy]; simp only [Y3,if_false]
  exact ⟨_,rfl,(fun h=>by simp at h),(fun _=>by simp)⟩
 | x::s,y::t,p,q,h1,h2,h3,h4=>by
  have hy:=h4 y (List.mem_cons_self ..)
  have hlp:(p.map absI).length≤100000:=by simp at h3 ⊢; omega
  have hlq:(List.zipWith stI p q).length≤100000:=by simp at h3 ⊢; omega
  have hi:idx (q++y::t) (p.length:Int)=some y:=by rw [h2]; exact Zp
  rw [Yy]
  simp only [Ym,if_true,Zp,hi,Ql,Mag_ok]
  cases hb:bigM x with
  | true =>
   simp only [if_true,ne_eq,failed_ok,Ql,zeroRule]
   rw [if_pos (by decide)]
   exact ⟨_,rfl,fun _=>⟨_,_,rfl⟩,fun h=>by simp [hb] at h⟩
  | false =>
   obtain ⟨o,e,ho⟩:=take_L1 sc s t (p++[x]) (q++[y]) (by simpa using h1) (by simp [h2]) (by rw [← QV]; exact h3) (fun d hd=>h4 d (List.mem_cons_of_mem _ hd))
   rw [← QV,← QV,zip_mid h2,List.map_append] at e
   rw [← QV,← QV] at ho
   have hx:-65536≤x∧x≤65536:=by simp [bigM] at hb; omega
   have ha:0≤absI x∧absI x≤65536:=by unfold absI; split <;> omega
   simp only [Bool.false_eq_true,if_false,app1 hlp,app1 hlq,mid_W (Sm_le h3),Ql]
   rw [if_neg (by decide)]
   have hbs:(x::s).any bigM=s.any bigM:=by simp [hb]
   rw [hbs]
   by_cases hn:x < 0
   ·have w:W (y - absI x)=stI x y:=by rw [W_ok (by omega) (by omega)]; simp [stI,hn]
    rw [if_pos hn,w]
    exact ⟨o,e,ho⟩
   ·have w:stI x y=0:=by simp [stI,hn]
    rw [if_neg hn]
    rw [w] at e
    exact ⟨o,e,ho⟩
 | [],_::_,_,_,h,_,_,_=>by cases h
 | _::_,[],_,_,h,_,_,_=>by cases h
def takeE (l a:List Int):Int:=if a=[]∧l.length > 16 then 7 else if l.length≠(seenL a l.length).length then 5 else if l.any bigM then 7 else checkR (l.map absI)
def takeR (l a:List Int):Qn × Int:=if takeE l a=0 then (⟨[],seenL a l.length,l.map absI,List.zipWith stI l (seenL a l.length),-1,0,[]⟩,0) else (zeroRule,takeE l a)
theorem Take_ok (l:List Int) (sc:Bool) (a:List Int) (hl:l.length≤1000) (ha:checkR a=0):Qb8 (⟨l,sc⟩,a)=some (takeR l a):=by
 simp only [Qb8,seen_ok,Ql,takeR,takeE]
 by_cases h1:a=[]∧l.length > 16
 ·rw [if_pos h1]; simp [h1,failed_ok,Ql]
 ·rw [if_neg h1]
  have hc:=seen_check ha h1
  simp only [ne_eq,not_true,if_false]
  generalize seenL a l.length=r at hc ⊢
  obtain ⟨r1,r2,r3⟩:=checkR_zero.1 hc
  by_cases h2:l.length=r.length
  ·have h2':¬ ¬ (l.length:Int)=(r.length:Int):=by omega
   rw [if_neg h2']
   obtain ⟨o,e,ho1,ho2⟩:=take_L1 sc l r [] [] h2 rfl (by simp; omega) r1
   have e':Yy (⟨l,sc⟩,r,[],[],0)=some o:=e
   rw [e']
   simp only [Ql,h2,not_true,if_false,h1]
   cases hb:l.any bigM with
   | true=>obtain ⟨m,n,rfl⟩:=ho1 hb; simp [zeroRule]
   | false =>
    rw [ho2 hb]
    have hm:(l.map absI).length≤1000:=by simp; omega
    have hr:r.length≤1000:=by omega
    simp only [List.nil_append,Jj,Ql,Qad,shapeCheck_ok _ (Sm_le hm),Clone_ok _ hm,Clone_ok _ hr,XO,Bool.false_eq_true,if_false]
    by_cases h4:checkR (l.map absI)=0
    ·simp [h4,show ¬ 16 < r.length by omega]
    ·simp [h4,zeroRule,show ¬ 16 < r.length by omega]
  ·have h2':(l.length:Int)≠(r.length:Int):=by omega
   rw [if_pos h2']; simp [h1,h2,failed_ok,Ql]
def dropD (d v:Int):Int:=d - (if absI v > d then d else absI v)
def dropS (d v:Int):Int:=if v < 0 then 0 else (if absI v > d then d else absI v)
theorem dropped_ok {d:Int} (hd:0≤d∧d≤65536) (v:Int):Qat (d,v)=some (dropD d v,dropS d v):=by
 simp only [Qat,Mag_ok,Ql]
 have hr:∀ k:Int,0≤k→k≤d→W (d - k)=d - k:=fun k h1 h2=>W_ok (by omega) (by omega)
 have ha:0≤absI v:=by unfold absI; split <;> omega
 cases hb:bigM v with
 | true =>
  have h1:absI v > d:=by simp [bigM] at hb; unfold absI; split <;> omega
  have w:W 0=0:=by have:=hr d hd.1 (by omega); simpa using this
  by_cases hn:v < 0 <;> simp [Ql,h1,hn,dropD,dropS,w]
 | false =>
  by_cases h1:absI v > d
  ·have w:W 0=0:=by have:=hr d hd.1 (by omega); simpa using this
   by_cases hn:v < 0 <;> simp [Ql,h1,hn,dropD,dropS,w]
  ·have w:=hr (absI v) ha (by omega)
   by_cases hn:v < 0 <;> simp [Ql,h1,hn,dropD,dropS,w]
theorem set_at {α:Type} {p s:List α} {x y:α} {n:Nat} (h:n=p.length):(p++x::s).set n y=p++y::s:=by subst h; simp
theorem drop_L1 (sc:Bool) (v7 v8:List Int):∀ (s p q t:List Int),s.length≤t.length→p.length=q.length→(q++t).length≤1000→v7.length=(q++t).length→v8.length=(q++t).length→Dims t →
  YT (⟨p++s,sc⟩,q++t,v7,v8,List.zipWith dropD q p++t,List.zipWith dropS q p++List.replicate t.length 0,(p.length:Int))
   = some (List.zipWith dropD q p++(List.zipWith dropD t s++t.drop s.length),List.zipWith dropS q p++(List.zipWith dropS t s++List.replicate (t.length - s.length) 0))
 | [],p,q,t,_,h2,h3,h4,h5,h6=>by
  rw [YT]; simp only [Y3,if_false]; simp
 | x::s,p,q,y::t,h1,h2,h3,h4,h5,h6=>by
  have hy:=h6 y (List.mem_cons_self ..)
  have hz:(List.zipWith dropD q p).length=p.length:=by simp; omega
  have hz2:(List.zipWith dropS q p).length=p.length:=by simp; omega
  have hi:idx (q++y::t) (p.length:Int)=some y:=by rw [h2]; exact Zp
  have g1:(List.zipWith dropD q p++y::t).length=v7.length:=by rw [h4]; simp; omega
  have g2:(List.zipWith dropS q p++List.replicate (y::t).length 0).length=v8.length:=by rw [h5]; simp; omega
  have j1:p.length < (List.zipWith dropD q p++y::t).length:=by simp; omega
  have j2:p.length < (List.zipWith dropS q p++List.replicate (y::t).length 0).length:=by simp; omega
  have s1:(List.zipWith dropD q p++y::t).set p.length (dropD y x)=List.zipWith dropD (q++[y]) (p++[x])++t:=by
   rw [zip_mid h2.symm,set_at hz.symm]; simp
  have s2:(List.zipWith dropS q p++List.replicate (y::t).length 0).set p.length (dropS y x)=List.zipWith dropS (q++[y]) (p++[x])++List.replicate t.length 0:=by
   rw [zip_mid h2.symm,List.length_cons,List.replicate_succ,set_at hz2.symm]; simp
  have ih:=drop_L1 sc v7 v8 s (p++[x]) (q++[y]) t (by simpa using h1) (by simp [h2]) (by rw [← QV]; exact h3) (by rw [← QV]; exact h4) (by rw [← QV]; exact h5) (fun d hd=>h6 d (List.mem_cons_of_mem _ hd))
  rw [← QV,← QV] at ih
  have hw:W ((p.length:Int)+1)=((p++[x]).length:Int):=by simp at h1 h3; rw [W_ok (by omega) (by omega)]; simp
  have m1:setM (List.zipWith dropD q p++y::t) (p.length:Int) (dropD y x)=some (List.zipWith dropD (q++[y]) (p++[x])++t):=by
   rw [setM,if_pos ⟨by omega,by simpa using j1⟩,Int.toNat_natCast,s1]
  have m2:setM (List.zipWith dropS q p++List.replicate (y::t).length 0) (p.length:Int) (dropS y x)=some (List.zipWith dropS (q++[y]) (p++[x])++List.replicate t.length 0):=by
   rw [setM,if_pos ⟨by omega,by simpa using j2⟩,Int.toNat_natCast,s2]
  have k1:Z3 ((List.zipWith dropD q p++y::t).length=v7.length)=some ():=if_pos g1
  have k2:Z3 ((List.zipWith dropS q p++List.replicate (y::t).length 0).length=v8.length)=some ():=if_pos g2
  rw [YT]
  simp only [Ym,if_true,Zp,hi,Ql,dropped_ok hy,k1,k2,idx_ok j1,idx_ok j2,m1,m2,hw,ih]
  rw [zip_mid h2.symm,zip_mid h2.symm]
  simp
 | _::_,_,_,[],h,_,_,_,_,_=>by simp at h
def dropE (l a:List Int):Int:=if a=[]∧l.length > 16 then 7 else if l.length > (seenL a l.length).length then 5 else 0
def dropL (l r:List Int):List Int:=List.zipWith dropD r l++r.drop l.length
def dropF (l r:List Int):List Int:=List.zipWith dropS r l++List.replicate (r.length - l.length) 0
def dropR (l a:List Int):Qn × Int:=if dropE l a=0 then (⟨[],seenL a l.length,dropL l (seenL a l.length),dropF l (seenL a l.length),-1,0,[]⟩,0) else (zeroRule,dropE l a)
theorem dropD_in {d:Int} (hd:0≤d) (v:Int):0≤dropD d v∧dropD d v≤d:=by
 have ha:0≤absI v:=by unfold absI; split <;> omega
 unfold dropD; split <;> omega
theorem below_drop:∀ (l r:List Int),l.length≤r.length→Dims r→Below (dropL l r) r
 | [],r,_,h=>by
  have:dropL [] r=r:=by simp [dropL]
  rw [this]
  induction r with
  | nil=>exact .nil
  | cons y r ih=>exact .cons (h y (List.mem_cons_self ..)).1 (Int.le_refl _) (ih (by simp) (fun d hd=>h d (List.mem_cons_of_mem _ hd)) (by simp [dropL]))
 | x::l,y::r,h1,h=>by
  have e:dropL (x::l) (y::r)=dropD y x::dropL l r:=by simp [dropL]
  have hy:=h y (List.mem_cons_self ..)
  have hd:=dropD_in hy.1 x
  rw [e]
  exact .cons hd.1 hd.2 (below_drop l r (by simpa using h1) fun d hd=>h d (List.mem_cons_of_mem _ hd))
 | _::_,[],h,_=>by simp at h
theorem Drop_ok (l:List Int) (sc:Bool) (a:List Int) (hl:l.length≤1000) (ha:checkR a=0):Qbi (⟨l,sc⟩,a)=some (dropR l a):=by
 by_cases h1:a=[]∧l.length > 16
 ·simp only [Qbi,seen_ok,Ql,dropR,dropE]
  rw [if_pos h1]; simp [h1,failed_ok,Ql]
 ·have hs:Qau (a,(l.length:Int))=some (seenL a l.length,0):=by rw [seen_ok,if_neg h1]
  have hc:=seen_check ha h1
  unfold dropR dropE
  generalize seenL a l.length=r at hs hc ⊢
  simp only [Qbi,hs,Ql,ne_eq,not_true,if_false]
  obtain ⟨r1,r2,r3⟩:=checkR_zero.1 hc
  by_cases h2:l.length > r.length
  ·rw [if_pos (show (l.length:Int) > (r.length:Int) by omega)]; simp [h1,h2,failed_ok,Ql]
  ·have hr:r.length≤1000:=by omega
   have hm:makeM 8 (r.length:Int) 0=some (List.replicate r.length (0:Int)):=by
    rw [makeM,if_pos ⟨by omega,by simp [room]; omega,by omega⟩]; simp
   have e:=drop_L1 sc r (List.replicate r.length 0) l [] [] r (by omega) rfl (by simpa using hr) rfl (by simp) r1
   have e':YT (⟨l,sc⟩,r,r,List.replicate r.length 0,r,List.replicate r.length 0,0)=some (dropL l r,dropF l r):=e
   have hb:=below_drop l r (by omega) r1
   have hd:(dropL l r).length≤1000:=by rw [hb.len]; omega
   have hf:(dropF l r).length=r.length:=by simp [dropF]; omega
   rw [if_neg (show ¬ (l.length:Int) > (r.length:Int) by omega)]
   simp only [Clone_ok _ hr,hm,Ql,e',Jk,Qaf,Z3,hb.len,if_true,shapeCheck_ok _ (Sm_le hd),hb.right hc,ne_eq,not_true,if_false,Clone_ok _ hd,XP,hf,List.length_replicate,h1,h2]
theorem gEqual_L1:∀ (s t p q:List Int),s.length=t.length→p.length=q.length→Sm (p++s).length→Zb (p++s,q++t,(p.length:Int))=some (if s=t then .inr () else .inl ())
 | [],[],p,q,_,_,hs=>by
  rw [Zb]; simp only [Y3,if_false,if_true]
 | x::s,y::t,p,q,h1,h2,hs=>by
  rw [Zb]
  have ih:=gEqual_L1 s t (p++[x]) (q++[y]) (by simpa using h1) (by simp [h2]) (by rw [← QV]; exact hs)
  rw [← QV,← QV] at ih
  simp only [Ym,if_true,Zp,Ql,mid_W hs,ih]
  rw [h2,Zp]
  by_cases he:x=y <;> simp [he,Ql]
 | [],_::_,_,_,h,_,_=>by cases h
 | _::_,[],_,_,h,_,_=>by cases h
theorem gEqual_ok (a b:List Int) (hs:Sm a.length):Yl (a,b)=some (decide (a=b)):=by
 simp only [Yl]
 by_cases h:a.length=b.length
 ·have e:=gEqual_L1 a b [] [] h rfl hs
  have e2:¬ ((a.length:Int)≠(b.length:Int)):=by omega
  simp only [e2,if_false]
  have e3:Zb (a,b,0)=_:=e
  rw [e3]
  by_cases hab:a=b
  ·subst hab; simp
  ·rw [if_neg hab,decide_eq_false hab]; rfl
 ·have e2:((a.length:Int)≠(b.length:Int)):=by omega
  have e3:a≠b:=fun e=>h (by rw [e])
  rw [if_pos e2,decide_eq_false e3]
theorem sEqual_ok (a b:List Int) (hs:Sm a.length):ZU (a,b)=some (decide (a=b)):=by
 simp only [ZU,gEqual_ok a b hs,Ql]
theorem sEqual_ok' (a b:List Int) (hs:Sm b.length):ZU (a,b)=some (decide (a=b)):=by
 by_cases h:a.length=b.length
 ·exact sEqual_ok a b (by rw [h]; exact hs)
 ·have e2:((a.length:Int)≠(b.length:Int)):=by omega
  have e3:a≠b:=fun e=>h (by rw [e])
  simp only [ZU,Yl]
  rw [if_pos e2,decide_eq_false e3]; rfl
theorem Sum2_ok {a b:Int} (ha:0≤a∧a≤65536) (hb:0≤b∧b≤65536):Qcw [a,b]=some (if a+b > 65536 then (0,7) else (a+b,0)):=by
 have hs:Sm [a,b].length:=by unfold Sm; simp
 have he:errR [a,b]=0:=by
  have h1:negB [a,b]=false:=by simp [negB]; omega
  have h2:bigB [a,b]=false:=by simp [bigB]; omega
  simp [errR,h1,h2]
 have w0:W (0+a)=a:=by rw [W_ok (by omega) (by omega)]; omega
 have w1:W (a+b)=a+b:=W_ok (by omega) (by omega)
 have i0:idx [a,b] 0=some a:=rfl
 have i1:idx [a,b] 1=some b:=rfl
 have c0:W (0+1)=1:=W_ok (by omega) (by omega)
 have c1:W (1+1)=2:=W_ok (by omega) (by omega)
 have hf:Q1 ([a,b],0,0)=some (if a+b > 65536 then .inl (a+b) else .inr (a+b)):=by
  rw [Q1]
  simp only [List.length_cons,List.length_nil,i0,Ql,Qbw,w0,show a≤65536 from ha.2,decide_true,Bool.true_eq_false,if_false,c0]
  rw [if_pos (by omega),Q1]
  simp only [List.length_cons,List.length_nil,i1,Ql,Qbw,w1,c1]
  rw [if_pos (by omega)]
  by_cases h:a+b > 65536
  ·have h':¬ a+b≤65536:=by omega
   simp [h,h']
  ·have h':a+b≤65536:=by omega
   simp only [h',decide_true,Bool.true_eq_false,if_false]
   rw [Q1]
   simp [h]
 simp only [Qcw,YU,sizecheck_ok _ hs,he,Ql,YV,hf]
 by_cases h:a+b > 65536 <;> simp [h,Ql]
theorem sub_lo {l:List Int} {k:Nat} (h:k≤l.length):sub l 0 (k:Int)=some (l.take k):=by
 rw [sub,if_pos ⟨by omega,by omega,by omega⟩]; simp
theorem sub_hi {l:List Int} {k:Nat} (h:k≤l.length):sub l (k:Int) (l.length:Int)=some (l.drop k):=by
 rw [sub,if_pos ⟨by omega,by omega,by omega⟩]; simp
theorem Concat_ok (ls:List (List Int)) (h1:ls.length≤1000) (h2:ls.flatten.length≤1000000):Z9 ls=some ls.flatten:=if_pos ⟨h1,h2⟩
theorem W_nat {k:Nat} (h:k≤1000000):W ((k:Int)+1)=((k+1:Nat):Int):=W_succ (by omega)
theorem Insert_ok (l:List Int) (k:Nat) (v:Int) (hk:k≤l.length) (hl:l.length≤1000):Qav (l,(k:Int),v)=some (insL l k v,0):=by
 have c:=Concat_ok [l.take k,[v],l.drop k] (by simp) (by simp; omega)
 have a1:¬ ((k:Int) < 0):=by omega
 have a2:¬ ((k:Int) > (l.length:Int)):=by omega
 have a3:¬ ((k:Int) > (k:Int)):=by omega
 simp only [Qav,Qbj,Y8,Ql,sub_lo hk,sub_hi hk,YX,c,a1,a2,a3,if_false,decide_false,Bool.false_eq_true]
 simp [insL]
theorem Replace_ok (l:List Int) (k:Nat) (v:Int) (hk:k < l.length) (hl:l.length≤1000):YB (l,(k:Int),v)=some (repL l k v,0):=by
 have c:=Concat_ok [l.take k,[v],l.drop (k+1)] (by simp) (by simp; omega)
 have a0:¬ ((k:Int)≥(l.length:Int)):=by omega
 have a1:¬ ((k:Int) < 0):=by omega
 have a2:¬ (((k+1:Nat):Int) > (l.length:Int)):=by omega
 have a3:¬ ((k:Int) > ((k+1:Nat):Int)):=by omega
 simp only [YB,Qbj,W_nat (show k≤1000000 by omega),Y9,Ql,sub_lo (show k≤l.length by omega),sub_hi (show k+1≤l.length by omega),YX,c,a0,a1,a2,a3,if_false,decide_false,Bool.false_eq_true]
 simp [repL]
theorem Remove_ok (l:List Int) (k:Nat) (hk:k < l.length) (hl:l.length≤1000):Xf (l,(k:Int))=some (remL l k,0):=by
 have c:=Concat_ok [l.take k,[],l.drop (k+1)] (by simp) (by simp; omega)
 have a0:¬ ((k:Int)≥(l.length:Int)):=by omega
 have a1:¬ ((k:Int) < 0):=by omega
 have a2:¬ (((k+1:Nat):Int) > (l.length:Int)):=by omega
 have a3:¬ ((k:Int) > ((k+1:Nat):Int)):=by omega
 simp only [Xf,W_nat (show k≤1000000 by omega),Y7,Ql,sub_lo (show k≤l.length by omega),sub_hi (show k+1≤l.length by omega),QaE,c,a0,a1,a2,a3,if_false,decide_false,Bool.false_eq_true]
 simp [remL]
theorem insL_len (p:List Int) (k:Nat) (v:Int):(insL p k v).length=p.length+1:=by simp [insL]; omega
theorem remL_len {l:List Int} {k:Nat} (hk:k < l.length):(remL l k).length+1=l.length:=by simp [remL]; omega
def sumAt (X Y:List Int) (k:Nat):Int:=X.getD k 0+Y.getD k 0
def tailE (X Y:List Int) (k:Nat):Int:=if remL X k≠remL Y k then 5 else if checkR (repL X k (sumAt X Y k))≠0 then 7 else 0
theorem big_rep {X:List Int} {k:Nat} {n:Int} (hX:Dims X) (h0:0≤n) (hn:n > 65536):checkR (repL X k n)≠0:=fun h=>by
 have:=(checkR_zero.1 h).1 n (rep_mem.2 (.inl rfl)); omega
theorem check_rep {X:List Int} {k:Nat} {n:Int} (hX:Dims X) (h0:0≤n) (h:checkR (repL X k n)≠0):checkR (repL X k n)=7:=by
 have hn:negB (repL X k n)=false:=List.any_eq_false.2 fun d hd=>by
  have:0≤d:=by
   rcases rep_mem.1 hd with rfl|h
   ·exact h0
   ·exact (hX d (rem_mem h)).1
  simp; omega
 unfold checkR at h ⊢
 rw [hn] at h ⊢
 simp only [Bool.false_eq_true,if_false] at h ⊢
 split
 ·rfl
 ·rename_i h2; rw [if_neg h2] at h; exact absurd rfl h
theorem cat_tail {p0:Int} {a b X Y:List Int} {k R:Nat} (hR:(max (max (a.length:Int) (b.length:Int)) 1)=(R:Int)) (hk:k < R) (hR16:R≤16) (hax:(if p0=-1 then some (W ((R:Int) - 1)) else some p0)=some (k:Int))
  (hX:Yd (a,b,(R:Int),(k:Int))=some (X,0)) (hY:Yd (b,a,(R:Int),(k:Int))=some (Y,0)) (lX:X.length=R) (lY:Y.length=R) (dX:Dims X) (dY:Dims Y) :
  YY (p0,a,b)=some (if tailE X Y k=0 then ⟨X,Y,repL X k (sumAt X Y k),[],k,0,[]⟩ else zeroRule,tailE X Y k):=by
 have hkX:k < X.length:=by omega
 have hkY:k < Y.length:=by omega
 have gX:=getD_in dX hkX
 have gY:=getD_in dY hkY
 have eX:Xf (X,(k:Int))=_:=Remove_ok X k hkX (by omega)
 have eY:Xf (Y,(k:Int))=_:=Remove_ok Y k hkY (by omega)
 have rX:=remL_len hkX
 have e0:∀ n:Int,YB (X,(k:Int),n)=some (repL X k n,0):=fun n=>Replace_ok X k n hkX (by omega)
 simp only [YY,hR,hax,Ql,hX,hY]
 rw [if_neg (show ¬ ((k:Int)≥(R:Int)) by omega)]
 simp only [ne_eq,not_true,if_false,Ql,bne_self_eq_false,Bool.false_eq_true,QbQ,eX,eY,sEqual_ok _ _ (Sm_le (show (remL X k).length≤1000 by omega)),idx_getD hkX,idx_getD hkY,Sum2_ok gX gY,e0]
 unfold tailE
 by_cases h1:remL X k=remL Y k
 ·rw [decide_eq_true h1]
  simp only [Bool.true_eq_false,if_false,h1,not_true,ne_eq]
  by_cases h2:X.getD k 0+Y.getD k 0 > 65536
  ·have h3:checkR (repL X k (sumAt X Y k))≠0:=big_rep dX (by unfold sumAt; omega) h2
   simp only [h2,if_true,Ql,h3,not_false_eq_true,failed_ok]
   rfl
  ·simp only [h2,if_false,Ql,not_true,Y6,Qac,Clone_ok Y (show Y.length≤1000 by omega),X1,Xk]
   have e5:(repL X k (X.getD k 0+Y.getD k 0)).length≤1000:=by rw [rep_len hkX]; omega
   rw [shapeCheck_ok _ (Sm_le e5),Clone_ok _ e5]
   have e6:X.getD k 0+Y.getD k 0=sumAt X Y k:=rfl
   rw [e6]
   by_cases h4:checkR (repL X k (sumAt X Y k))=0
   ·simp [h4,Ql]
   ·have h7:=check_rep dX (by unfold sumAt; omega) h4
    simp [h7,Ql,zeroRule]
 ·rw [decide_eq_false h1]
  simp [h1,Ql,failed_ok]
theorem ins_mem {l:List Int} {i:Nat} {x d:Int} (h:d∈insL l i x):d=x∨d∈l:=by
 simp only [insL,List.mem_append,List.mem_cons] at h
 rcases h with h|h|h
 ·exact .inr (List.mem_of_mem_take h)
 ·exact .inl h
 ·exact .inr (List.mem_of_mem_drop h)
def widR (a b:List Int) (R k:Nat):List Int:=if a.length=R then a else if a.length+1=R then insL a k 1 else repL b k 1
theorem widR_dims {a b:List Int} {R k:Nat} (ha:Dims a) (hb:Dims b):Dims (widR a b R k):=by
 intro d hd
 unfold widR at hd
 split at hd
 ·exact ha d hd
 ·split at hd
  ·rcases ins_mem hd with rfl|h
   ·omega
   ·exact ha d h
  ·rcases rep_mem.1 hd with rfl|h
   ·omega
   ·exact hb d (rem_mem h)
theorem widR_len {a b:List Int} {R k:Nat} (hk:k < R) (h:a.length=R∨a.length+1=R∨b.length=R):(widR a b R k).length=R:=by
 unfold widR
 split
 ·assumption
 ·split
  ·rw [insL_len]; assumption
  ·rw [rep_len (by omega)]; omega
theorem wid_ok {a b:List Int} {R k:Nat} (hk:k < R) (hR:R≤16) (h:a.length=R∨a.length+1=R∨(a.length=0∧b.length=R)):Yd (a,b,(R:Int),(k:Int))=some (widR a b R k,0):=by
 have wR:W ((R:Int) - 1)=(R:Int) - 1:=W_ok (by omega) (by omega)
 simp only [Yd,wR,widR]
 by_cases h1:a.length=R
 ·rw [if_pos (by omega),if_pos h1,Clone_ok a (by omega)]; rfl
 ·rw [if_neg (by omega),if_neg h1]
  by_cases h2:a.length+1=R
  ·rw [if_pos (by omega),if_pos h2,Insert_ok a k 1 (by omega) (by omega)]; rfl
  ·rw [if_neg (by omega),if_neg h2,if_pos (by omega),Replace_ok b k 1 (by omega) (by omega)]; rfl
theorem wid_bad {a b:List Int} {R k:Nat} (hR:R≤16) (h1:a.length≠R) (h2:a.length+1≠R) (h3:a.length≠0):Yd (a,b,(R:Int),(k:Int))=some ([],4):=by
 by_cases hz:R=0
 ·subst hz
  have wR:W (((0:Nat):Int) - 1)=-1:=W_ok (by omega) (by omega)
  simp only [Yd,wR]
  rw [if_neg (by omega),if_neg (by omega),if_neg (by omega)]
 ·have wR:W ((R:Int) - 1)=(R:Int) - 1:=W_ok (by omega) (by omega)
  simp only [Yd,wR]
  rw [if_neg (by omega),if_neg (by omega),if_neg (by omega)]

def catR (p0:Int) (a b:List Int):Qn × Int :=
 let R:=max (max a.length b.length) 1
 let k:=(if p0=-1 then (R:Int) - 1 else p0).toNat
 if p0≥(R:Int) then (zeroRule,4)
 else if (a.length≠R∧a.length+1≠R∧a.length≠0)∨(b.length≠R∧b.length+1≠R∧b.length≠0) then (zeroRule,4)
 else if tailE (widR a b R k) (widR b a R k) k=0 then (⟨widR a b R k,widR b a R k,repL (widR a b R k) k (sumAt (widR a b R k) (widR b a R k) k),[],k,0,[]⟩,0)
 else (zeroRule,tailE (widR a b R k) (widR b a R k) k)
theorem Cat_ok {p0:Int} {a b:List Int} (hp:-1≤p0) (la:a.length≤16) (lb:b.length≤16) (da:Dims a) (db:Dims b):YY (p0,a,b)=some (catR p0 a b):=by
 unfold catR
 obtain ⟨R,hRdef⟩:∃ R,R=max (max a.length b.length) 1:=⟨_,rfl⟩
 have hR:(max (max (a.length:Int) (b.length:Int)) 1)=(R:Int):=by omega
 have hR16:R≤16:=by omega
 have wR:W ((R:Int) - 1)=(R:Int) - 1:=W_ok (by omega) (by omega)
 simp only [← hRdef]
 by_cases hbig:p0≥(R:Int)
 ·rw [if_pos hbig]
  simp only [YY,hR,show ¬ p0=-1 by omega,if_false,Ql,hbig,if_true,failed_ok]
 obtain ⟨k,hk⟩:∃ k:Nat,(k:Int)=if p0=-1 then (R:Int) - 1 else p0:=by
  by_cases h:p0=-1
  ·exact ⟨R - 1,by rw [if_pos h]; omega⟩
  ·exact ⟨p0.toNat,by rw [if_neg h]; omega⟩
 have hkR:k < R:=by by_cases h:p0=-1 <;> simp [h] at hk <;> omega
 have hax1:(if p0=-1 then some (W ((R:Int) - 1)) else some p0)=some (k:Int):=by
  rw [wR,hk]; by_cases h:p0=-1 <;> simp [h]
 rw [if_neg hbig,← hk,Int.toNat_natCast]
 by_cases hbad:(a.length≠R∧a.length+1≠R∧a.length≠0)∨(b.length≠R∧b.length+1≠R∧b.length≠0)
 ·rw [if_pos hbad]
  simp only [YY,hR,hax1,Ql]
  rw [if_neg (show ¬ ((k:Int)≥(R:Int)) by omega)]
  rcases hbad with ⟨h1,h2,h3⟩|⟨h1,h2,h3⟩
  ·have hb:b.length=R:=by omega
   rw [wid_bad hR16 h1 h2 h3,wid_ok hkR hR16 (.inl hb)]; rfl
  ·have ha:a.length=R:=by omega
   rw [wid_bad hR16 h1 h2 h3,wid_ok hkR hR16 (.inl ha)]; rfl
 ·have hA:a.length=R∨a.length+1=R∨(a.length=0∧b.length=R):=by omega
  have hB:b.length=R∨b.length+1=R∨(b.length=0∧a.length=R):=by omega
  rw [if_neg hbad,cat_tail hR hkR hR16 hax1 (wid_ok hkR hR16 hA) (wid_ok hkR hR16 hB) (widR_len hkR (by omega)) (widR_len hkR (by omega)) (widR_dims da db) (widR_dims db da)]
  split <;> rename_i h
  ·rw [h]
  ·rfl
theorem guardT {h:Decidable True}:@Z3 True h=some ():=if_pos trivial
theorem Clone64_ok (l:List Int) (hl:l.length≤1000):Ye l=some l:=by
 rw [Ye,app_ok (by simp [room]; omega)]; rfl
theorem room_ok (n:Nat) (h:n≤1000):Z3 (0≤(n:Int)∧(n:Int) * (8:Int)≤(room:Int)∧(n:Int)≤9223372036854775807)=some ():=if_pos ⟨by omega,by simp [room]; omega,by omega⟩
def setOf (l:List Int):List Int:=l.foldl insK []
theorem setOf_snoc (l:List Int) (x:Int):setOf (l++[x])=insK (setOf l) x:=by simp [setOf]
theorem mem_insK {l:List Int} {x y:Int}:y∈insK l x↔y∈l∨y=x:=by
 unfold insK
 split
 ·rename_i h
  constructor
  ·exact .inl
  ·rintro (h'|rfl)
   ·exact h'
   ·exact h
 ·simp
theorem insK_nodup {l:List Int} {x:Int} (h:l.Nodup):(insK l x).Nodup:=by
 unfold insK
 split
 ·exact h
 ·rename_i hx
  rw [List.nodup_append]
  exact ⟨h,by simp,fun a ha b hb=>by rw [List.mem_singleton] at hb; subst hb; exact fun e=>hx (e ▸ ha)⟩
theorem snocInd {α:Type} {P:List α→Prop} (h0:P []) (h1:∀ l x,P l→P (l++[x])) (l:List α):P l:=by
 have:∀ m:List α,P m.reverse:=fun m=>by
  induction m with
  | nil=>exact h0
  | cons x m ih=>rw [List.reverse_cons]; exact h1 _ _ ih
 have:=this l.reverse
 rwa [List.reverse_reverse] at this
theorem mem_setOf (l:List Int):∀ y,y∈setOf l↔y∈l:=by
 induction l using snocInd with
 | h0=>intro y; simp [setOf]
 | h1 l x ih=>intro y; rw [setOf_snoc,mem_insK,ih]; simp
theorem setOf_nodup (l:List Int):(setOf l).Nodup:=by
 induction l using snocInd with
 | h0=>simp [setOf]
 | h1 l x ih=>rw [setOf_snoc]; exact insK_nodup ih
def inR (n:Nat) (v:Int):Bool:=decide (0≤v) && decide (v < (n:Int))
theorem conv_L1 (q1:List Int) (q2:Bool) (n:Nat):∀ (s p:List Int),(p++s).length≤1000→∃ o,QS (p++s,q1,q2,(n:Int),setOf p,p,(p.length:Int))=some o ∧
  (s.all (inR n)=true→o=.inr (setOf (p++s),p++s))∧(s.all (inR n)=false→∃ a m,o=.inl (a,6,m))
 | [],p,hs=>by
  rw [QS]; simp only [Y3,if_false]
  exact ⟨_,rfl,(fun _=>by simp),(fun h=>by simp at h)⟩
 | x::s,p,hs=>by
  rw [QS]
  have hlp:p.length≤100000:=by simp at hs; omega
  simp only [Ym,if_true,Zp,Ql,YW,mid_W (Sm_le hs)]
  by_cases h1:x < 0
  ·simp only [h1,if_true,Ql,ne_eq]
   rw [if_pos (by decide)]
   exact ⟨_,rfl,(fun h=>by simp [inR,show ¬ 0≤x by omega] at h),(fun _=>⟨_,_,rfl⟩)⟩
  ·by_cases h2:x≥(n:Int)
   ·simp only [h1,if_false,Ql,h2,decide_true,if_true,ne_eq]
    rw [if_pos (by decide)]
    exact ⟨_,rfl,(fun h=>by simp [inR,show ¬ x < (n:Int) by omega] at h),(fun _=>⟨_,_,rfl⟩)⟩
   ·obtain ⟨o,e,ho⟩:=conv_L1 q1 q2 n s (p++[x]) (by rw [← QV]; exact hs)
    rw [← QV,setOf_snoc] at e
    rw [← QV] at ho
    have hx:inR n x=true:=by simp [inR]; omega
    have ha:(x::s).all (inR n)=s.all (inR n):=by simp [hx]
    rw [ha]
    simp only [h1,if_false,Ql,h2,decide_false,Bool.false_eq_true,ne_eq,not_true,app1 hlp,e]
    exact ⟨o,rfl,ho⟩
def maxF (l:List Int) (m:Int):Int:=l.foldl (fun a x=>if a < x then x else a) m
def maxL (l:List Int):Int:=match l with|[]=>0|x::s=>maxF s x
theorem max_L1:∀ (s p:List Int) (m:Int),(p++s).length≤1000→Zn (p++s,m,(p.length:Int))=some (maxF s m)
 | [],p,m,hs=>by
  rw [Zn]; simp only [Y3,if_false]; rfl
 | x::s,p,m,hs=>by
  rw [Zn]
  have ih:=max_L1 s (p++[x]) (if m < x then x else m) (by rw [← QV]; exact hs)
  rw [← QV] at ih
  simp only [Ym,if_true,Zp,Ql,mid_W (Sm_le hs),ih]; rfl
theorem Max_ok {l:List Int} (hl:l.length≤1000) (h0:l≠[]):YK l=some (maxL l):=by
 cases l with
 | nil=>exact absurd rfl h0
 | cons x s =>
  have e:Zn (x::s,x,1)=some (maxF s x):=max_L1 s [x] x hl
  have hi:idx (x::s) 0=some x:=rfl
  simp only [YK,hi,Ql,e]
  rw [if_neg (by simp; omega)]; rfl
theorem maxF_ge:∀ (l:List Int) (m:Int),m≤maxF l m∧(∀ x∈l,x≤maxF l m)∧(maxF l m=m∨maxF l m∈l)
 | [],m=>⟨Int.le_refl _,by simp,.inl rfl⟩
 | y::l,m=>by
  obtain ⟨h1,h2,h3⟩:=maxF_ge l (if m < y then y else m)
  have e:maxF (y::l) m=maxF l (if m < y then y else m):=rfl
  rw [e]
  have hm:m≤(if m < y then y else m)∧y≤(if m < y then y else m)∧((if m < y then y else m)=m∨(if m < y then y else m)=y):=by split <;> omega
  refine ⟨by omega,fun x hx=>?_,?_⟩
  ·rcases List.mem_cons.1 hx with rfl|hx
   ·omega
   ·exact h2 x hx
  ·rcases h3 with h3|h3
   ·rcases hm.2.2 with h|h
    ·left; omega
    ·right; rw [h3,h]; exact List.mem_cons_self ..
   ·right; exact List.mem_cons_of_mem _ h3
theorem maxL_ge {l:List Int} (h0:l≠[]):(∀ x∈l,x≤maxL l)∧maxL l∈l:=by
 cases l with
 | nil=>exact absurd rfl h0
 | cons y l =>
  obtain ⟨h1,h2,h3⟩:=maxF_ge l y
  refine ⟨fun x hx=>?_,?_⟩
  ·rcases List.mem_cons.1 hx with rfl|hx
   ·exact h1
   ·exact h2 x hx
  ·show maxF l y∈y::l
   rcases h3 with h3|h3
   ·rw [h3]; exact List.mem_cons_self ..
   ·exact List.mem_cons_of_mem _ h3
def permE (v:List Int) (n:Nat):Int:=if v.length≠n then 5 else if v.all (inR n)=false then 6 else if n > 0∧((setOf v).length:Int)≠maxL v+1 then 6 else 0
theorem Permutation_ok (v:List Int) (sc:Bool) (n:Nat) (hv:v.length≤1000):XL (⟨v,sc⟩,(n:Int))=some (if permE v n=0 then (v,0) else ([],permE v n)):=by
 simp only [XL,Jw,permE]
 by_cases h1:v.length=n
 ·subst h1
  obtain ⟨o,e,h2,h3⟩:=conv_L1 v sc v.length v [] (by simp; omega)
  have e':QS (v,v,sc,(v.length:Int),[],[],0)=some o:=e
  simp only [if_false,Clone64_ok v (by omega),Ql,ne_eq,not_true,Z2,room_ok _ (show v.length≤1000 by omega),e']
  cases ha:v.all (inR v.length) with
  | false =>
   obtain ⟨a,m,rfl⟩:=h3 ha
   simp [Ql]
  | true =>
   rw [h2 ha]
   simp only [List.nil_append,Bool.true_eq_false,if_false,Ql]
   by_cases h4:v.length > 0
   ·have hn:v≠[]:=by intro h; subst h; simp at h4
    have hm:0≤maxL v∧maxL v < v.length:=by
     have:=List.all_eq_true.1 ha _ (maxL_ge hn).2
     simpa [inR] using this
    have w:W (maxL v+1)=maxL v+1:=W_ok (by omega) (by omega)
    simp only [show (v.length:Int) > 0 by omega,if_true,Max_ok (show v.length≤1000 by omega) hn,Ql,w,h4,true_and]
    by_cases h5:((setOf v).length:Int)=maxL v+1 <;> simp [h5]
   ·simp only [h4,Ql,show ¬ (v.length:Int) > 0 by omega,if_false,false_and,if_true]; rfl
 ·have h1':(v.length:Int)≠(n:Int):=by omega
  simp only [h1',if_true,Ql,ne_eq,not_false_eq_true,h1]
  simp
def padTo (l:List Int) (j:Nat):List Int:=l++List.replicate (j+1 - l.length) 65536
def minI (a b:Int):Int:=if b < a then b else a
def stepP (l:List Int) (j:Nat) (x:Int):List Int:=(padTo l j).set j (minI ((padTo l j).getD j 0) x)
def permF:List Int→List Int→List Int→List Int
 | l,j::p,x::a=>permF (stepP l j.toNat x) p a
 | l,_,_=>l
def permL (p a:List Int):List Int:=permF [] p a
theorem padTo_len (l:List Int) (j:Nat):(padTo l j).length=max l.length (j+1):=by simp [padTo]; omega
theorem stepP_len (l:List Int) (j:Nat) (x:Int):(stepP l j x).length=max l.length (j+1):=by simp [stepP,padTo_len]
theorem pad_L2 (j:Nat) (hj:j < 100) (p1:List Int) (v204:Int) (p0:List Int):∀ (m:Nat) (l:List Int) (g:Nat),m=j+1 - l.length→l.length≤1000→∃ g',Yc ((j:Int),p1,v204,p0,g,l,l.length)=some (g',padTo l j,(padTo l j).length)
 | 0,l,g,hm,hl=>by
  have h:¬ (l.length:Int)≤(j:Int):=by omega
  rw [Yc]
  simp only [h,if_false]
  refine ⟨g,?_⟩
  have:padTo l j=l:=by unfold padTo; rw [← hm]; simp
  rw [this]
 | m+1,l,g,hm,hl=>by
  have h:(l.length:Int)≤(j:Int):=by omega
  obtain ⟨g',e⟩:=pad_L2 j hj p1 v204 p0 m (l++[65536]) (gb g ([65536]:List Int).isEmpty) (by simp; omega) (by simp; omega)
  rw [Yc]
  have hg:Z3 (l.length=l.length)=some ():=if_pos rfl
  simp only [h,if_true,hg,Ql,app1 (show l.length≤100000 by omega),e]
  have hp:padTo (l++[65536]) j=padTo l j:=by
   unfold padTo
   rw [List.append_assoc,List.length_append,List.length_singleton,show j+1 - l.length=(j+1 - (l.length+1))+1 by omega,List.replicate_succ]; rfl
  rw [hp]
  exact ⟨g',rfl⟩
theorem perm_L1:∀ (s t p q l:List Int) (g:Nat),s.length=t.length→p.length=q.length→(p++s).length≤100→(∀ x∈s,0≤x∧x < 100)→l.length≤100 →
  ∃ g',ZL (p++s,q++t,g,l,l.length,(p.length:Int))=some (g',permF l s t,(permF l s t).length)
 | [],[],p,q,l,g,_,h2,h3,h4,h5=>by
  rw [ZL]; simp only [Y3,if_false]
  exact ⟨g,rfl⟩
 | j::s,x::t,p,q,l,g,h1,h2,h3,h4,h5=>by
  have hj:=h4 j (List.mem_cons_self ..)
  obtain ⟨k,rfl⟩:=Int.eq_ofNat_of_zero_le hj.1
  obtain ⟨g1,e1⟩:=pad_L2 k (by omega) (q++x::t) (p.length:Int) (p++(k:Int)::s) (k+1 - l.length) l g rfl (by omega)
  obtain ⟨g2,e2⟩:=perm_L1 s t (p++[(k:Int)]) (q++[x]) (stepP l k x) g1 (by simpa using h1) (by simp [h2]) (by rw [← QV]; exact h3) (fun y hy=>h4 y (List.mem_cons_of_mem _ hy)) (by rw [stepP_len]; omega)
  rw [← QV,← QV] at e2
  have hk:k < (padTo l k).length:=by rw [padTo_len]; omega
  have hi:idx (q++x::t) (p.length:Int)=some x:=by rw [h2]; exact Zp
  have hs:setM (padTo l k) (k:Int) (minI ((padTo l k).getD k 0) x)=some (stepP l k x):=by
   rw [setM,if_pos ⟨by omega,by simpa using hk⟩,Int.toNat_natCast]; rfl
  have hg:Z3 ((padTo l k).length=(padTo l k).length)=some ():=if_pos rfl
  have hlen:(padTo l k).length=(stepP l k x).length:=by rw [padTo_len,stepP_len]
  rw [ZL]
  have hmin:(if x < (padTo l k).getD k 0 then x else (padTo l k).getD k 0)=minI ((padTo l k).getD k 0) x:=rfl
  simp only [Ym,if_true,Zp,hi,Ql,e1,hg,idx_getD hk,hmin,hs,mid_W (Sm_le (show (p++(k:Int)::s).length≤1000 by omega))]
  rw [hlen,e2]
  exact ⟨g2,rfl⟩
 | [],_::_,_,_,_,_,h,_,_,_,_=>by cases h
 | _::_,[],_,_,_,_,h,_,_,_,_=>by cases h
theorem permF_len:∀ (s t l:List Int),(∀ x∈s,0≤x∧x < 100)→l.length≤100→(permF l s t).length≤100
 | [],_,l,_,h=>by unfold permF; exact h
 | _::_,[],l,_,h=>by unfold permF; exact h
 | j::s,x::t,l,hs,h=>by
  have hj:=hs j (List.mem_cons_self ..)
  rw [permF]
  exact permF_len s t _ (fun y hy=>hs y (List.mem_cons_of_mem _ hy)) (by rw [stepP_len]; omega)
def transE (v a:List Int):Int:=if permE v a.length=0 then checkR (permL v a) else permE v a.length
def transR (v a:List Int):Qn × Int:=if transE v a=0 then (⟨[],a,permL v a,[],-1,0,v⟩,0) else (zeroRule,transE v a)
theorem permE_zero {v:List Int} {n:Nat} (h:permE v n=0):v.length=n∧(∀ x∈v,0≤x∧x < (n:Int))∧(n > 0→((setOf v).length:Int)=maxL v+1):=by
 unfold permE at h
 by_cases h1:v.length=n
 ·rw [if_neg (by omega)] at h
  cases ha:v.all (inR n) with
  | false=>rw [if_pos ha] at h; cases h
  | true =>
   rw [if_neg (by rw [ha]; decide)] at h
   refine ⟨h1,fun x hx=>by have:=List.all_eq_true.1 ha x hx; simpa [inR] using this,fun hn=>?_⟩
   by_cases h5:((setOf v).length:Int)=maxL v+1
   ·exact h5
   ·rw [if_pos ⟨hn,h5⟩] at h; cases h
 ·rw [if_pos h1] at h; cases h
theorem permuted_ok (v a:List Int) (ha:a.length≤16) (hl:v.length=a.length) (hv:∀ x∈v,0≤x∧x < (a.length:Int)):XW (v,a)=some (if checkR (permL v a)=0 then (⟨[],a,permL v a,[],-1,0,v⟩,0) else (zeroRule,checkR (permL v a))):=by
 have hv':∀ x∈v,0≤x∧x < 100:=fun x hx=>by have:=hv x hx; omega
 obtain ⟨g,e⟩:=perm_L1 v a [] [] [] 0 hl rfl (by simp; omega) hv' (by simp)
 have e':ZL (v,a,0,[],([]:List Int).length,0)=some (g,permL v a,(permL v a).length):=e
 have hL:(permL v a).length≤100:=permF_len v a [] hv' (by simp)
 have hg:Z3 ((permL v a).length=(permL v a).length)=some ():=if_pos rfl
 simp only [XW,e',Ql,Qaa,hg,shapeCheck_ok _ (Sm_le (show (permL v a).length≤1000 by omega)),Clone_ok a (by omega),Clone_ok _ (show (permL v a).length≤1000 by omega),Xn]
 by_cases h:checkR (permL v a)=0
 ·simp [h,guardT]
 ·simp [h,zeroRule,guardT]
theorem Transpose_ok (v:List Int) (sc:Bool) (a:List Int) (hv:v.length≤1000) (ha:a.length≤16):Ju (⟨v,sc⟩,a)=some (transR v a):=by
 simp only [Ju,Permutation_ok v sc a.length hv,Ql,transR,transE]
 by_cases h:permE v a.length=0
 ·obtain ⟨h1,h2,h3⟩:=permE_zero h
  simp only [h,if_true,ne_eq,not_true,if_false,permuted_ok v a ha h1 h2,Ql]
 ·simp [h,failed_ok,Ql]
theorem dimN_L1:∀ (s p:List Int),Sm (p++s).length→∃ r,QE (p++s,(p.length:Int))=some r∧(negB s=true→∃ j:Nat,r=.inl (j:Int))∧(negB s=false→r=.inr ())
 | [],p,hs=>by
  rw [QE]; simp only [Y3,if_false]; exact ⟨_,rfl,fun h=>(by cases h),fun _=>rfl⟩
 | x::s,p,hs=>by
  rw [QE]
  obtain ⟨r,h1,h2,h3⟩:=dimN_L1 s (p++[x]) (by rw [← QV]; exact hs)
  rw [← QV] at h1
  simp only [Ym,if_true,Zp,Ql,mid_W hs,Jl,negB_cons]
  by_cases hn:x < 0
  ·simp only [hn,decide_true,if_true]; exact ⟨_,rfl,fun _=>⟨_,rfl⟩,fun h=>by simp at h⟩
  ·simp only [hn,decide_false,Bool.false_eq_true,if_false,Bool.false_or]; exact ⟨r,h1,h2,h3⟩
theorem dimN_ok (l:List Int) (hs:Sm l.length):QY l=some (negB l):=by
 obtain ⟨r,h1,h2,h3⟩:=dimN_L1 l [] hs
 have e:QE (l,0)=some r:=h1
 simp only [QY,Zd,e,Ql]
 cases hn:negB l
 ·rw [h3 hn]; rfl
 ·obtain ⟨j,rfl⟩:=h2 hn; simp [Ql]
theorem dimC_L1 (sc:Bool):∀ (s p:List Int),(p++s).length≤1000→negB s=false→∃ o,QR (p++s,sc,p,(p.length:Int))=some o ∧
  (bigB s=true→∃ m,o=.inl (7,m))∧(bigB s=false→o=.inr (p++s))
 | [],p,hs,_=>by
  rw [QR]; simp only [Y3,if_false]
  exact ⟨_,rfl,(fun h=>by simp [bigB] at h),(fun _=>by simp)⟩
 | x::s,p,hs,hn=>by
  rw [QR]
  have hlp:p.length≤100000:=by simp at hs; omega
  rw [negB_cons,Bool.or_eq_false_iff] at hn
  have hx:¬ x < 0:=by simpa using hn.1
  simp only [Ym,if_true,Zp,Ql,mid_W (Sm_le hs),QaF,hx,if_false,bigB_cons]
  by_cases hb:x > 65536
  ·simp only [hb,if_true,Ql,ne_eq]
   rw [if_pos (by decide)]
   exact ⟨_,rfl,(fun _=>⟨_,rfl⟩),(fun h=>by simp at h)⟩
  ·obtain ⟨o,e,ho⟩:=dimC_L1 sc s (p++[x]) (by rw [← QV]; exact hs) hn.2
   rw [← QV] at e ho
   simp only [hb,if_false,Ql,ne_eq,not_true,app1 hlp,e,decide_false,Bool.false_or]
   exact ⟨o,rfl,ho⟩
theorem Dimensions_ok (l:List Int) (sc:Bool) (hl:l.length≤1000):X3 ⟨l,sc⟩=some (if checkR l=0 then (l,0) else ([],checkR l)):=by
 simp only [X3,dimN_ok l (Sm_le hl),Ql]
 cases hn:negB l with
 | true =>
  have hc:checkR l=6:=by rw [checkR,hn]; rfl
  simp [hc]
 | false =>
  obtain ⟨o,e,h1,h2⟩:=dimC_L1 sc l [] hl hn
  have e':QR (l,sc,[],0)=some o:=e
  simp only [Bool.false_eq_true,if_false,Z1,room_ok _ hl,Ql,e']
  cases hb:bigB l with
  | true =>
   obtain ⟨m,rfl⟩:=h1 hb
   have hc:checkR l=7:=by rw [checkR,hn,hb]; simp
   simp [hc,Ql]
  | false =>
   rw [h2 hb]
   simp only [List.nil_append,Ql,shapeCheck_ok l (Sm_le hl)]
   by_cases hc:checkR l=0 <;> simp [hc]
def reshR (l a:List Int):Qn × Int:=if checkR l=0 then (⟨[],a,l,[],-1,0,[]⟩,0) else (zeroRule,checkR l)
theorem Reshape_ok (l:List Int) (sc:Bool) (a:List Int) (hl:l.length≤1000) (ha:a.length≤1000):Qap (⟨l,sc⟩,a)=some (reshR l a):=by
 simp only [Qap,Dimensions_ok l sc hl,Ql,reshR]
 by_cases h:checkR l=0
 ·simp [h,Qae,shapeCheck_ok l (Sm_le hl),Clone_ok l hl,Clone_ok a ha,Ql]
 ·simp [h,failed_ok,Ql]
theorem Cells_ok (l:List Int) (hs:Sm l.length):QaY l=some (cellsR l):=by
 simp only [QaY,Check_ok l hs,Ql,Product_ok l hs,cellsR]
 by_cases hc:checkR l=0
 ·have:(prodR l).1=prodI l:=by
   unfold checkR at hc
   unfold prodR
   by_cases hn:negB l=true
   ·simp [hn] at hc
   ·by_cases hb:bigB l=true
    ·simp [hn,hb] at hc
    ·by_cases hp:prodI l > 65536
     ·simp [hn,hb,hp] at hc
     ·simp [hn,hb,hp]
  simp [hc,this]
 ·simp [hc]
theorem check_nil:checkR []=0:=rfl
def okR (r:Qn):Prop:=checkR r.left=0∧checkR r.right=0∧checkR r.shape=0
theorem okR_zero:okR zeroRule:=⟨check_nil,check_nil,check_nil⟩
theorem okR_take {l a:List Int} (ha:checkR a=0):okR (takeR l a).1:=by
 unfold takeR
 split
 ·rename_i h
  unfold takeE at h
  by_cases h1:a=[]∧l.length > 16
  ·rw [if_pos h1] at h; cases h
  ·rw [if_neg h1] at h
   split at h
   ·cases h
   ·split at h
    ·cases h
    ·exact ⟨check_nil,seen_check ha h1,h⟩
 ·exact okR_zero
theorem okR_drop {l a:List Int} (ha:checkR a=0):okR (dropR l a).1:=by
 unfold dropR
 split
 ·rename_i h
  unfold dropE at h
  by_cases h1:a=[]∧l.length > 16
  ·rw [if_pos h1] at h; cases h
  ·rw [if_neg h1] at h
   have hc:=seen_check ha h1
   split at h
   ·cases h
   ·exact ⟨check_nil,hc,(below_drop l _ (by omega) (checkR_zero.1 hc).1).right hc⟩
 ·exact okR_zero
theorem okR_resh {v a:List Int} (ha:checkR a=0):okR (reshR v a).1:=by
 unfold reshR
 split
 ·rename_i h; exact ⟨check_nil,ha,h⟩
 ·exact okR_zero
theorem getD_el {X:List Int} {k:Nat} (h:k < X.length):X.getD k 0=X[k]:=by simp [List.getD_eq_getElem?_getD,h]
theorem okR_cat {p0:Int} {a b:List Int} (hp:-1≤p0) (ha:checkR a=0) (hb:checkR b=0):okR (catR p0 a b).1:=by
 obtain ⟨da,la,_⟩:=checkR_zero.1 ha
 obtain ⟨db,lb,_⟩:=checkR_zero.1 hb
 unfold catR
 obtain ⟨R,hR⟩:∃ R,R=max (max a.length b.length) 1:=⟨_,rfl⟩
 simp only [← hR]
 split
 ·exact okR_zero
 ·rename_i hk
  obtain ⟨k,ek⟩:∃ k,k=(if p0=-1 then (R:Int) - 1 else p0).toNat:=⟨_,rfl⟩
  have hkR:k < R:=by rw [ek]; split <;> omega
  rw [← ek]
  split
  ·exact okR_zero
  ·rename_i hbad
   split
   ·rename_i ht
    have lX:(widR a b R k).length=R:=widR_len hkR (by omega)
    have lY:(widR b a R k).length=R:=widR_len hkR (by omega)
    have dX:Dims (widR a b R k):=widR_dims da db
    have dY:Dims (widR b a R k):=widR_dims db da
    generalize widR a b R k=X at *
    generalize widR b a R k=Y at *
    unfold tailE at ht
    by_cases c1:remL X k=remL Y k
    ·rw [if_neg (fun h=>h c1)] at ht
     by_cases c2:checkR (repL X k (sumAt X Y k))=0
     ·have gX:=getD_in dX (show k < X.length by omega)
      have gY:=getD_in dY (show k < Y.length by omega)
      have kX:k < X.length:=by omega
      have kY:k < Y.length:=by omega
      refine ⟨?_,?_,c2⟩
      ·have:=part_right (x:=X.getD k 0) (by omega) c2 gX.1 (by unfold sumAt; omega)
       rw [getD_el kX,rep_self kX] at this; exact this
      ·have:=part_right (x:=Y.getD k 0) (by omega) c2 gY.1 (by unfold sumAt; omega)
       rw [rep_other kX kY c1,getD_el kY,rep_self kY] at this; exact this
     ·rw [if_pos c2] at ht; cases ht
    ·rw [if_pos c1] at ht; cases ht
   ·exact okR_zero
theorem stepP_get (l:List Int) (j:Nat) (x:Int) (i:Nat):(stepP l j x).getD i 65536=if i=j then minI (l.getD j 65536) x else l.getD i 65536:=by
 have hp:∀ i,(padTo l j).getD i 65536=l.getD i 65536:=fun i=>by
  unfold padTo
  simp only [List.getD_eq_getElem?_getD]
  by_cases h:i < l.length
  ·rw [List.getElem?_append_left h]
  ·rw [List.getElem?_append_right (by omega),List.getElem?_eq_none (l:=l) (by omega)]
   by_cases h2:i - l.length < j+1 - l.length
   ·rw [List.getElem?_replicate]; simp [h2]
   ·rw [List.getElem?_eq_none (by simp; omega)]
 have hk:j < (padTo l j).length:=by rw [padTo_len]; omega
 have h0:(padTo l j).getD j 0=l.getD j 65536:=by
  rw [← hp j]; simp [List.getD_eq_getElem?_getD,hk]
 unfold stepP
 rw [h0,List.getD_eq_getElem?_getD,List.getElem?_set]
 by_cases h:i=j
 ·subst h; simp [hk]
 ·rw [if_neg (fun e=>h e.symm),if_neg h,← List.getD_eq_getElem?_getD,hp]
def rng (n:Nat):List Int:=(List.range n).map fun (k:Nat)=>(k:Int)
theorem rng_nodup (n:Nat):(rng n).Nodup:=List.Pairwise.map _ (fun a b h e=>h (by omega)) List.nodup_range
theorem mem_rng {n:Nat} {x:Int}:x∈rng n↔0≤x∧x < (n:Int):=by
 unfold rng
 rw [List.mem_map]
 constructor
 ·rintro ⟨k,hk,rfl⟩; have:=List.mem_range.1 hk; omega
 ·intro h; exact ⟨x.toNat,List.mem_range.2 (by omega),by omega⟩
theorem perm_rng {v:List Int} (h1:v.Nodup) (h2:∀ x∈v,0≤x∧x < (v.length:Int)):v.Perm (rng v.length):=by
 refine (List.perm_ext_iff_of_nodup h1 (rng_nodup _)).2 fun x=>⟨fun h=>mem_rng.2 (h2 x h),fun h=>?_⟩
 rcases Classical.em (x∈v) with hx|hx
 ·exact hx
 ·have hle:=List.Nodup.length_le_of_subset (l₁:=x::v) (l₂:=rng v.length) (List.nodup_cons.2 ⟨hx,h1⟩) (fun y hy=>by
   rcases List.mem_cons.1 hy with rfl|hy
   ·exact h
   ·exact mem_rng.2 (h2 y hy))
  simp [rng] at hle
  omega
theorem ite_som {c:Prop} [Decidable c] {α:Type} (a b:α):(if c then some a else some b)=some (if c then a else b):=by split <;> rfl
theorem set_count {v:List Int} {M:Nat} (h0:∀ x∈v,0≤x∧x≤(M:Int)):((setOf v).length=M+1)↔∀ j:Nat,j≤M→(j:Int)∈v:=by
 have hn:=setOf_nodup v
 have hsub:∀ x∈setOf v,x∈rng (M+1):=fun x hx=>mem_rng.2 (by have:=h0 x ((mem_setOf v x).1 hx); omega)
 constructor
 ·intro h j hj
  have hp:=perm_rng (v:=setOf v) hn (fun x hx=>by have:=h0 x ((mem_setOf v x).1 hx); omega)
  exact (mem_setOf v _).1 (hp.mem_iff.2 (mem_rng.2 (by omega)))
 ·intro h
  have h1:=List.Nodup.length_le_of_subset hn hsub
  have h2:=List.Nodup.length_le_of_subset (rng_nodup (M+1)) (l₂:=setOf v) (fun x hx=>by
   have hx:=mem_rng.1 hx
   have:=h x.toNat (by omega)
   rw [show ((x.toNat:Nat):Int)=x by omega] at this
   exact (mem_setOf v x).2 this)
  simp [rng] at h1 h2
  omega
theorem maxF_neg:∀ (l:List Int),l≠[]→(∀ x∈l,0≤x)→maxF l (-1)=maxL l
 | x::s,_,h=>by
  have hx:=h x (List.mem_cons_self ..)
  show maxF s (if (-1:Int) < x then x else -1)=maxF s x
  rw [if_pos (by omega)]
theorem permE_onto {v:List Int} {n:Nat} (h1:v.length=n) (h2:∀ x∈v,0≤x∧x < (n:Int)):(n > 0∧((setOf v).length:Int)≠maxL v+1)↔¬ (∀ j:Nat,0≤j→(j:Int)≤maxF v (-1)→(j:Int)∈v):=by
 by_cases h0:v=[]
 ·subst h0
  constructor
  ·rintro ⟨h,_⟩; simp at h1; omega
  ·intro h; exact absurd (fun j _ hj=>by simp [maxF] at hj; omega) h
 ·have hm:=maxF_neg v h0 fun x hx=>(h2 x hx).1
  obtain ⟨g1,g2⟩:=maxL_ge h0
  have hM:=h2 _ g2
  obtain ⟨M,hMe⟩:=Int.eq_ofNat_of_zero_le hM.1
  have hn:n > 0:=by have:=List.length_pos_iff.2 h0; omega
  have hc:=set_count (v:=v) (M:=M) fun x hx=>⟨(h2 x hx).1,by rw [← hMe]; exact g1 x hx⟩
  rw [hm,hMe]
  constructor
  ·rintro ⟨_,hne⟩ g
   exact hne (by have:=hc.2 (fun j hj=>g j (Nat.zero_le _) (by omega)); omega)
  ·intro h
   refine ⟨hn,fun e=>h fun j _ hj=>hc.1 (by omega) j (by omega)⟩
def gmin (i:Int):Int→List Int→List Int→Int
 | acc,j::v,x::a=>gmin i (if j=i then minI acc x else acc) v a
 | acc,_,_=>acc
theorem permF_at (i:Nat):∀ (v a l:List Int),(∀ x∈v,0≤x)→(permF l v a).getD i 65536=gmin i (l.getD i 65536) v a
 | [],_,l,_=>by unfold permF gmin; rfl
 | _::_,[],l,_=>by unfold permF gmin; rfl
 | j::v,x::a,l,h=>by
  have hj:=h j (List.mem_cons_self ..)
  rw [permF,permF_at i v a _ (fun y hy=>h y (List.mem_cons_of_mem _ hy)),stepP_get,gmin]
  congr 1
  by_cases e:i=j.toNat
  ·rw [if_pos e,if_pos (show j=(i:Int) by omega),e]
  ·rw [if_neg e,if_neg (show ¬ j=(i:Int) by omega)]
theorem gmin_le_acc (i:Int):∀ (v a:List Int) (acc:Int),gmin i acc v a≤acc
 | [],_,acc=>by unfold gmin; exact Int.le_refl _
 | _::_,[],acc=>by unfold gmin; exact Int.le_refl _
 | j::v,x::a,acc=>by
  have ih:=gmin_le_acc i v a (if j=i then minI acc x else acc)
  rw [gmin]
  refine Int.le_trans ih ?_
  unfold minI
  split
  ·split <;> omega
  ·exact Int.le_refl _
theorem gmin_nonneg (i:Int):∀ (v a:List Int) (acc:Int),(∀ x∈a,0≤x)→0≤acc→0≤gmin i acc v a
 | [],_,acc,_,h=>by unfold gmin; exact h
 | _::_,[],acc,_,h=>by unfold gmin; exact h
 | j::v,x::a,acc,ha,h=>by
  have hx:=ha x (List.mem_cons_self ..)
  rw [gmin]
  refine gmin_nonneg i v a _ (fun y hy=>ha y (List.mem_cons_of_mem _ hy)) ?_
  unfold minI
  split
  ·split <;> omega
  ·exact h
theorem permF_length:∀ (v a l:List Int) (m:Int),v.length=a.length→(∀ x∈v,0≤x)→(l.length:Int)=m+1→((permF l v a).length:Int)=maxF v m+1
 | [],_,l,m,_,_,h=>by unfold permF; exact h
 | _::_,[],_,_,h,_,_=>by cases h
 | j::v,x::a,l,m,h,h0,hl=>by
  have hj:=h0 j (List.mem_cons_self ..)
  rw [permF]
  refine permF_length v a _ (if m < j then j else m) (by simpa using h) (fun y hy=>h0 y (List.mem_cons_of_mem _ hy)) ?_
  rw [stepP_len]
  split <;> omega
theorem perm_onto {v a:List Int} (hp:permE v a.length=0):v.length=a.length∧(∀ x∈v,0≤x∧x < (a.length:Int))∧(∀ j:Nat,(j:Int)∈v↔j < (permL v a).length):=by
 obtain ⟨h1,h2,h3⟩:=permE_zero hp
 have hl:=permF_length v a [] (-1) h1 (fun x hx=>(h2 x hx).1) (by simp)
 have hon:=permE_onto h1 h2
 have hall:∀ j:Nat,0≤j→(j:Int)≤maxF v (-1)→(j:Int)∈v:=by
  rcases Classical.em (∀ j:Nat,0≤j→(j:Int)≤maxF v (-1)→(j:Int)∈v) with h|h
  ·exact h
  ·obtain ⟨g1,g2⟩:=hon.2 h
   exact absurd (h3 g1) g2
 refine ⟨h1,h2,fun j=>⟨fun hj=>?_,fun hj=>hall j (Nat.zero_le _) ?_⟩⟩
 ·have:=(maxF_ge v (-1)).2.1 _ hj
  show j < (permF [] v a).length
  omega
 ·have:j < (permF [] v a).length:=hj
  omega
theorem permL_at {v a:List Int} (hp:permE v a.length=0) {j:Nat} (hj:j < (permL v a).length):(permL v a)[j]=gmin j 65536 v a:=by
 have h:=permF_at j v a [] (fun x hx=>((perm_onto hp).2.1 x hx).1)
 have e:(permL v a).getD j 65536=(permL v a)[j]:=by rw [List.getD_eq_getElem?_getD,List.getElem?_eq_getElem hj]; rfl
 rw [← e]
 exact h
theorem permL_len {v a:List Int} (hp:permE v a.length=0):(permL v a).length≤a.length:=by
 obtain ⟨h1,h2,h3⟩:=perm_onto hp
 refine Nat.le_of_not_lt fun h=>?_
 have:=h2 _ ((h3 a.length).2 h)
 omega
def pf (c:Int→Bool):List Int→List Int→Int
 | j::v,x::a=>(if c j then x else 1) * pf c v a
 | _,_=>1
theorem pf_pos (c:Int→Bool):∀ (v a:List Int),(∀ x∈a,1≤x)→1≤pf c v a
 | [],_,_=>by unfold pf; omega
 | _::_,[],_=>by unfold pf; omega
 | j::v,x::a,h=>by
  have ih:=pf_pos c v a (fun y hy=>h y (List.mem_cons_of_mem _ hy))
  have hx:=h x (List.mem_cons_self ..)
  have h1:(1:Int)≤(if c j then x else 1):=by split <;> omega
  rw [pf]
  have:=Int.mul_le_mul h1 ih (by omega) (by omega)
  omega
theorem pf_le (c:Int→Bool):∀ (v a:List Int),(∀ x∈a,1≤x)→pf c v a≤prodI a
 | [],a,h=>by unfold pf; exact prodI_pos h
 | _::_,[],_=>by unfold pf; rw [prodI_nil]; omega
 | j::v,x::a,h=>by
  have h':∀ y∈a,1≤y:=fun y hy=>h y (List.mem_cons_of_mem _ hy)
  have ih:=pf_le c v a h'
  have hx:=h x (List.mem_cons_self ..)
  have h1:(if c j then x else 1)≤x:=by split <;> omega
  rw [pf,prodI_cons]
  exact Int.mul_le_mul h1 ih (by have:=pf_pos c v a h'; omega) (by omega)
theorem pf_split (m:Nat):∀ (v a:List Int),pf (fun y=>decide (y < ((m+1:Nat):Int))) v a=pf (fun y=>decide (y < (m:Int))) v a * pf (fun y=>decide (y=(m:Int))) v a
 | [],_=>by simp [pf]
 | _::_,[]=>by simp [pf]
 | j::v,x::a=>by
  rw [pf,pf,pf,pf_split m v a]
  rcases Int.lt_trichotomy j (m:Int) with h|h|h
  ·simp only [show j < ((m+1:Nat):Int) by omega,h,show ¬ j=(m:Int) by omega,decide_true,decide_false,if_true,Bool.false_eq_true,if_false,Int.one_mul,Int.mul_assoc]
  ·simp only [show j < ((m+1:Nat):Int) by omega,h,show ¬ (m:Int) < (m:Int) by omega,decide_true,decide_false,if_true,Bool.false_eq_true,if_false,Int.one_mul,show (m:Int) < ((m+1:Nat):Int) by omega]
   exact Int.mul_left_comm _ _ _
  ·simp only [show ¬ j < ((m+1:Nat):Int) by omega,show ¬ j < (m:Int) by omega,show ¬ j=(m:Int) by omega,decide_false,Bool.false_eq_true,if_false,Int.one_mul]
theorem gmin_pf (m:Int):∀ (v a:List Int) (acc:Int),v.length=a.length→(∀ x∈a,1≤x)→m∈v→gmin m acc v a≤pf (fun y=>decide (y=m)) v a
 | [],_,_,_,_,h=>by cases h
 | _::_,[],_,h,_,_=>by cases h
 | j::v,x::a,acc,hl,ha,h=>by
  have ha':∀ y∈a,1≤y:=fun y hy=>ha y (List.mem_cons_of_mem _ hy)
  have hx:=ha x (List.mem_cons_self ..)
  have hp:=pf_pos (fun y=>decide (y=m)) v a ha'
  rw [gmin,pf]
  by_cases e:j=m
  ·simp only [e,decide_true,if_true]
   have h1:=gmin_le_acc m v a (minI acc x)
   have h2:minI acc x≤x:=by unfold minI; split <;> omega
   have h3:=Int.mul_le_mul (Int.le_refl x) hp (by omega) (by omega)
   rw [Int.mul_one] at h3
   omega
  ·have hm:m∈v:=by
    rcases List.mem_cons.1 h with h|h
    ·exact absurd h.symm e
    ·exact h
   simp only [e,decide_false,Bool.false_eq_true,if_false,Int.one_mul]
   exact gmin_pf m v a acc (by simpa using hl) ha' hm
theorem gmin_zero (m:Int):∀ (v a:List Int) (acc:Int) (k:Nat) (hk:k < a.length) (hv:k < v.length),v[k]=m→gmin m acc v a≤a[k]
 | [],_,_,k,_,hv,_=>by simp at hv
 | _::_,[],_,k,hk,_,_=>by simp at hk
 | j::v,x::a,acc,0,hk,hv,e=>by
  have e:j=m:=e
  rw [gmin,if_pos e]
  have h1:=gmin_le_acc m v a (minI acc x)
  have h2:minI acc x≤x:=by unfold minI; split <;> omega
  show gmin m (minI acc x) v a≤x
  omega
 | j::v,x::a,acc,k+1,hk,hv,e=>by
  rw [gmin]
  exact gmin_zero m v a _ k (by simpa using hk) (by simpa using hv) (by simpa using e)
theorem perm_prod {v a:List Int} (hp:permE v a.length=0) (h1:∀ x∈a,1≤x):∀ m:Nat,m≤(permL v a).length→prodI ((permL v a).take m)≤pf (fun y=>decide (y < (m:Int))) v a
 | 0,_=>by rw [List.take_zero,prodI_nil]; exact pf_pos _ v a h1
 | m+1,hm=>by
  obtain ⟨o1,o2,o3⟩:=perm_onto hp
  have hlt:m < (permL v a).length:=by omega
  have ih:=perm_prod hp h1 m (by omega)
  have hg:=gmin_pf (m:Int) v a 65536 o1 h1 ((o3 m).2 hlt)
  have g0:=gmin_nonneg (m:Int) v a 65536 (fun x hx=>by have:=h1 x hx; omega) (by omega)
  have p0:=pf_pos (fun y=>decide (y < (m:Int))) v a h1
  rw [List.take_succ_eq_append_getElem hlt,prodI_append,prodI_cons,prodI_nil,Int.mul_one,permL_at hp hlt,pf_split]
  exact Int.mul_le_mul ih hg g0 (by omega)
theorem perm_check {v a:List Int} (hp:permE v a.length=0) (ha:checkR a=0):checkR (permL v a)=0:=by
 obtain ⟨c1,c2,c3⟩:=checkR_zero.1 ha
 obtain ⟨o1,o2,o3⟩:=perm_onto hp
 have hl:=permL_len hp
 refine checkR_zero.2 ⟨fun d hd=>?_,by omega,?_⟩
 ·obtain ⟨j,hj,rfl⟩:=List.getElem_of_mem hd
  rw [permL_at hp hj]
  exact ⟨gmin_nonneg _ v a _ (fun x hx=>(c1 x hx).1) (by omega),gmin_le_acc _ v a _⟩
 ·by_cases h0:(0:Int)∈a
  ·obtain ⟨k,hk,e⟩:=List.getElem_of_mem h0
   have hkv:k < v.length:=by omega
   have hj:=o2 _ (List.getElem_mem hkv)
   obtain ⟨j,hje⟩:=Int.eq_ofNat_of_zero_le hj.1
   have hlt:j < (permL v a).length:=(o3 j).1 (by rw [← hje]; exact List.getElem_mem hkv)
   have hz:=gmin_zero (j:Int) v a 65536 k hk hkv hje
   have hn:=gmin_nonneg (j:Int) v a 65536 (fun x hx=>(c1 x hx).1) (by omega)
   have hm:(0:Int)∈permL v a:=by
    have:(permL v a)[j]=0:=by rw [permL_at hp hlt]; omega
    rw [← this]; exact List.getElem_mem hlt
   rw [prodI_zero hm]; omega
  ·have h1:∀ x∈a,1≤x:=fun x hx=>by
    have:=c1 x hx
    have hne:x≠0:=fun e=>h0 (e ▸ hx)
    omega
   have hq:=perm_prod hp h1 (permL v a).length (Nat.le_refl _)
   rw [List.take_length] at hq
   have:=pf_le (fun y=>decide (y < ((permL v a).length:Int))) v a h1
   omega
def revR (ax:Int) (a:List Int):Qn × Int :=
 if ax=-1 then (⟨[],a,a,[],(a.length:Int) - 1,0,[]⟩,0) else if ax≥(a.length:Int) then (zeroRule,4) else (⟨[],a,a,[],ax,0,[]⟩,0)
theorem axisOf_ok (ax:Int) (a:List Int) (hl:a.length≤16):JU (ax,a)=some (if ax=-1 then ((a.length:Int) - 1,0) else if ax≥(a.length:Int) then (0,4) else (ax,0)):=by
 unfold JU
 have w:W ((a.length:Int) - 1)=(a.length:Int) - 1:=W_ok (by omega) (by omega)
 simp only [w]
 split
 ·rfl
 ·split <;> rfl
theorem Reverse_ok (ax:Int) {a:List Int} (ha:checkR a=0):Qaq (ax,a)=some (revR ax a):=by
 have hl:=(checkR_zero.1 ha).2.1
 have hm:∀ x,X2 (a,x,0)=some (.inr (a,a)):=fun x=>by
  unfold X2
  simp only [shapeCheck_ok a (Sm_le (by omega)),Ql,ha,ne_eq,not_true_eq_false,if_false,Clone_ok a (by omega)]
  rfl
 unfold Qaq revR
 simp only [axisOf_ok ax a hl,Ql]
 by_cases h1:ax=-1
 ·subst h1
  simp only [if_true,ne_eq,not_true_eq_false,if_false,Y6,Ql,hm]
 by_cases h2:ax≥(a.length:Int)
 ·simp only [h1,h2,if_true,if_false,ne_eq,failed_ok,Ql]; rfl
 ·simp only [h1,h2,if_false,ne_eq,not_true_eq_false,Y6,Ql,hm]
theorem revR_axis {ax:Int} (hax:-1≤ax) {a:List Int}:-1≤(revR ax a).1.axis∧((revR ax a).2=0→(revR ax a).1.axis < (a.length:Int)):=by
 unfold revR
 split
 ·exact ⟨by show -1≤(a.length:Int) - 1; omega,fun _=>by show (a.length:Int) - 1 < _; omega⟩
 ·split
  ·exact ⟨by show -1≤(0:Int); omega,fun h=>by cases h⟩
  ·exact ⟨hax,fun _=>by show ax < _; omega⟩
theorem tmod_emod (x d:Int):x.tmod d % d=x % d:=by
 have h:=Int.mul_tdiv_add_tmod x d
 generalize x.tmod d=r at h
 rw [← h,Int.add_comm,Int.add_mul_emod_self_left]
def modI (x d:Int):Int:=if d≤0 then 0 else x % d
theorem sMod_ok (x d:Int) (hd:d≤65536):QbF (x,d)=some (modI x d):=by
 unfold QbF modI
 by_cases h:d≤0
 ·simp only [h,if_true]
 ·have hp:0 < d:=by omega
  simp only [h,if_false,remM,if_neg (show ¬ d=0 by omega),Ql]
  have h1:=Int.tmod_lt_of_pos x hp
  have h2:-d < x.tmod d:=by
   have:=Int.lt_tmod_of_pos x hp
   omega
  have e:x.tmod d % d=x % d:=tmod_emod x d
  by_cases h3:x.tmod d < 0
  ·rw [if_pos h3,W_ok (by omega) (by omega),← e,← Int.add_emod_right,Int.emod_eq_of_lt (by omega) (by omega)]
  ·rw [if_neg h3,← e,Int.emod_eq_of_lt (by omega) h1]
def rotR (v:List Int) (ax:Int) (a:List Int):Qn × Int :=
 if v.length≠1 then (zeroRule,5) else if (revR ax a).2≠0 then (zeroRule,(revR ax a).2) else
 (⟨[],a,a,[],(revR ax a).1.axis,if (revR ax a).1.axis < 0 then 0 else modI (v.getD 0 0) (a.getD (revR ax a).1.axis.toNat 0),[]⟩,0)
theorem Rotate_ok (v:List Int) (sc:Bool) {ax:Int} (hax:-1≤ax) {a:List Int} (hv:v.length≤1000) (ha:checkR a=0):Qa5 (⟨v,sc⟩,ax,a)=some (rotR v ax a):=by
 obtain ⟨hd,hl,_⟩:=checkR_zero.1 ha
 have hm1:Xm (a,v,sc)=some (.inr (a,a)):=by
  unfold Xm
  simp only [shapeCheck_ok a (Sm_le (by omega)),Ql,ha,ne_eq,not_true_eq_false,if_false,Clone_ok a (by omega)]
 have hm2:∀ x y,Xl (a,v,sc,x,y)=some (.inr (a,a)):=fun x y=>by
  unfold Xl
  simp only [shapeCheck_ok a (Sm_le (by omega)),Ql,ha,ne_eq,not_true_eq_false,if_false,Clone_ok a (by omega)]
  rfl
 unfold Qa5 rotR Qds Jw
 dsimp only
 by_cases h1:v.length=1
 case neg =>
  have h1':(v.length:Int)≠1:=by omega
  simp only [h1',h1,ne_eq,not_false_eq_true,if_true,Ql,show ¬ (5:Int)=0 from by decide,failed_ok]
 obtain ⟨x,rfl⟩:∃ x,v=[x]:=List.length_eq_one_iff.1 h1
 have e1:(([x]:List Int).length:Int)=1:=rfl
 have e2:idx [x] 0=some x:=rfl
 have ea:=revR_axis hax (a:=a)
 simp only [e1,ne_eq,not_true_eq_false,if_false,Clone64_ok [x] (by simp),Ql,e2,axisOf_ok ax a hl,List.length_singleton]
 have key:∀ k:Int,-1≤k→k < (a.length:Int)→(if k < 0 then
   (Xm (a,[x],sc)>>=fun out=>match out with
    | .inl v9=>some ((⟨[],[],[],[],0,0,[]⟩:Qn),v9)
    | .inr (v10,v11)=>some ((⟨[],v10,v11,[],-1,0,[]⟩:Qn),0))
   else idx a k>>=fun v12=>QbF (x,v12)>>=fun v13=>Y6 (k,v13)>>=fun p=>match p with
    | (v14,v15)=>Xl (a,[x],sc,v14,v15)>>=fun out=>match out with
     | .inl v16=>some ((⟨[],[],[],[],0,0,[]⟩:Qn),v16)
     | .inr (v17,v18)=>some ((⟨[],v17,v18,[],v14,v15,[]⟩:Qn),0)) =
   some (⟨[],a,a,[],k,if k < 0 then 0 else modI ([x].getD 0 0) (a.getD k.toNat 0),[]⟩,0):=fun k k1 k2=>by
  by_cases hk:k < 0
  ·have:k=-1:=by omega
   subst this
   simp only [hk,if_true,hm1,Ql]
  ·obtain ⟨j,rfl⟩:=Int.eq_ofNat_of_zero_le (show 0≤k by omega)
   have hj:j < a.length:=by omega
   have hdj:=hd a[j] (List.getElem_mem hj)
   simp only [hk,if_false,idx_ok hj,Ql,sMod_ok x a[j] hdj.2,Y6,hm2,Int.toNat_natCast,getD_el hj]
   rfl
 unfold revR at ea ⊢
 by_cases h2:ax=-1
 ·simp only [h2,if_true] at ea ⊢
  simp only [ne_eq,not_true_eq_false,if_false]
  exact key _ ea.1 (ea.2 trivial)
 by_cases h3:ax≥(a.length:Int)
 ·simp only [h2,h3,if_true,if_false,ne_eq,failed_ok,Ql]; rfl
 ·simp only [h2,h3,if_false] at ea ⊢
  simp only [ne_eq,not_true_eq_false,if_false]
  exact key _ ea.1 (ea.2 trivial)
def ravR (a:List Int):Qn:=⟨[],a,[cellsR a],[],-1,0,[]⟩
theorem cells_check {a:List Int} (ha:checkR a=0):checkR [cellsR a]=0:=by
 obtain ⟨h1,h2,h3⟩:=checkR_zero.1 ha
 have hc:cellsR a=prodI a:=if_pos ha
 have h0:0≤prodI a:=prodI_nonneg fun x hx=>(h1 x hx).1
 rw [hc]
 refine checkR_zero.2 ⟨fun x hx=>?_,by simp,?_⟩
 ·simp only [List.mem_singleton] at hx; subst hx; exact ⟨h0,h3⟩
 ·show prodI [prodI a]≤_; simp [prodI] at h3 ⊢; exact h3
theorem shapeCells_ok (l:List Int) (hs:Sm l.length):JV l=some (cellsR l):=by
 unfold JV cellsR
 simp only [shapeCheck_ok l hs,Ql]
 by_cases h:checkR l=0
 ·simp only [h,ne_eq,not_true_eq_false,if_false,if_true,sProduct_ok l hs,Ql]
  obtain ⟨h1,h2,h3⟩:=checkR_zero.1 h
  have hn:negB l=false:=by
   cases e:negB l with
   | false=>rfl
   | true=>unfold checkR at h; rw [e] at h; cases h
  have hb:bigB l=false:=by
   cases e:bigB l with
   | false=>rfl
   | true=>unfold checkR at h; rw [hn,e] at h; simp at h
  unfold prodR
  rw [hn,hb]
  simp only [Bool.false_eq_true,if_false,show ¬ prodI l > 65536 by omega]
 ·simp only [h,ne_eq,not_false_eq_true,if_true,if_false]
theorem Ravel_ok {a:List Int} (ha:checkR a=0):Qbv a=some (ravR a,0):=by
 have hl:=(checkR_zero.1 ha).2.1
 unfold Qbv Qab
 simp only [shapeCells_ok a (Sm_le (show a.length≤1000 by omega)),Ql,shapeCheck_ok [cellsR a] (Sm_le (show ([cellsR a]:List Int).length≤1000 by simp)),cells_check ha,ne_eq,not_true_eq_false,if_false,Clone_ok a (by omega),Clone_ok [cellsR a] (by simp)]
 rfl
def dn:Nat→List Int
 | 0=>[]
 | n+1=>(n:Int)::dn n
theorem dn_len:∀ n,(dn n).length=n
 | 0=>rfl
 | n+1=>by rw [dn,List.length_cons,dn_len n]
theorem dn_mem:∀ (n:Nat) (x:Int),x∈dn n↔0≤x∧x < (n:Int)
 | 0,x=>by
  simp only [dn,List.not_mem_nil,false_iff]; omega
 | n+1,x=>by rw [dn,List.mem_cons,dn_mem n x]; omega
theorem dn_perm (n:Nat):permE (dn n) n=0:=by
 unfold permE
 rw [if_neg (by simp [dn_len]),if_neg (by
  have:(dn n).all (inR n)=true:=List.all_eq_true.2 fun x hx=>by have:=(dn_mem n x).1 hx; simp [inR]; omega
  rw [this]; simp),if_neg]
 have hle:∀ x∈dn n,0≤x∧x < (n:Int):=fun x hx=>(dn_mem n x).1 hx
 rw [permE_onto (dn_len n) hle]
 intro h
 refine h fun j _ hj=>?_
 rw [dn_mem]
 refine ⟨by omega,?_⟩
 have hb:maxF (dn n) (-1) < (n:Int):=by
  rcases (maxF_ge (dn n) (-1)).2.2 with e|e
  ·rw [e]; omega
  ·exact (hle _ e).2
 omega
def flipR (a:List Int):Qn:=⟨[],a,permL (dn a.length) a,[],-1,0,dn a.length⟩
theorem flip_L1 (a:List Int) (hl:a.length≤16):∀ (m j:Nat) (acc:List Int),j+m=a.length→acc.length=j→Xe (a,acc,(j:Int))=some (acc++dn m)
 | 0,j,acc,h,h2=>by
  rw [Xe]
  have:¬ ((j:Int) < (a.length:Int)):=by omega
  simp only [this,if_false,dn,List.append_nil]
 | m+1,j,acc,h,h2=>by
  rw [Xe]
  have h1:((j:Int) < (a.length:Int)):=by omega
  have w:W ((j:Int)+1)=((j+1:Nat):Int):=W_succ (by omega)
  have w2:W (W ((a.length:Int) - 1) - (j:Int))=(m:Int):=by rw [W_ok (n:=(a.length:Int) - 1) (by omega) (by omega),W_ok (by omega) (by omega)]; omega
  simp only [h1,if_true,w2,app1 (show acc.length≤100000 by omega),Ql,w,flip_L1 a hl m (j+1) (acc++[(m:Int)]) (by omega) (by simp; omega),dn,List.append_assoc,List.singleton_append]
theorem dn_in (n:Nat):∀ x∈dn n,0≤x∧x < (n:Int):=fun x hx=>(dn_mem n x).1 hx
theorem Flip_ok {a:List Int} (ha:checkR a=0):Qb7 a=some (flipR a,0):=by
 have hl:=(checkR_zero.1 ha).2.1
 have e:=flip_L1 a hl a.length 0 [] (by omega) rfl
 simp only [Int.natCast_zero,List.nil_append] at e
 unfold Qb7
 simp only [e,Ql,permuted_ok (dn a.length) a hl (dn_len _) (dn_in _),perm_check (dn_perm a.length) ha,if_true]
 rfl
theorem okR_flip {a:List Int} (ha:checkR a=0):okR (flipR a):=⟨check_nil,ha,perm_check (dn_perm a.length) ha⟩
mutual
def szT:Qf→Nat
 | ⟨_,_,_,_,_,kids⟩=>1+szTs kids
def szTs:List Qf→Nat
 | []=>0
 | k::ks=>szT k+szTs ks
end
mutual
def numT:Qf→Nat
 | ⟨_,_,_,_,nums,kids⟩=>nums.length+numTs kids
def numTs:List Qf→Nat
 | []=>0
 | k::ks=>numT k+numTs ks
end
mutual
def depT:Qf→Nat
 | ⟨_,_,_,_,_,kids⟩=>depTs kids+1
def depTs:List Qf→Nat
 | []=>0
 | k::ks=>max (depT k) (depTs ks)
end
theorem szT_pos:∀ t:Qf,1≤szT t
 | ⟨_,_,_,_,_,kids⟩=>by rw [szT]; omega
theorem szTs_len:∀ l:List Qf,l.length≤szTs l
 | []=>Nat.zero_le _
 | k::ks=>by have:=szTs_len ks; have:=szT_pos k; rw [szTs]; simp only [List.length_cons]; omega
theorem szTs_app:∀ a b:List Qf,szTs (a++b)=szTs a+szTs b
 | [],b=>by simp [szTs]
 | k::ks,b=>by rw [List.cons_append,szTs,szTs,szTs_app ks b]; omega
mutual
theorem depT_le:∀ t:Qf,depT t≤szT t
 | ⟨_,_,_,_,_,kids⟩=>by have:=depTs_le kids; rw [depT,szT]; omega
theorem depTs_le:∀ l:List Qf,depTs l≤szTs l
 | []=>Nat.le_refl _
 | k::ks=>by have:=depT_le k; have:=depTs_le ks; rw [depTs,szTs]; omega
end
mutual
theorem tleft_ok:∀ (t:Qf) (n:Int),0≤n→n≤600→JI (t,n)=some (max (n - (szT t:Int)) (-1))
 | ⟨k,f,a,nm,nu,ks⟩,n,h1,h2=>by
  rw [JI]
  have w:W (n - 1)=n - 1:=W_ok (by omega) (by omega)
  have e:=tleft_loop ks [] (n - 1) k f a nm nu (by omega) (by simp; omega)
  simp only [List.nil_append,List.length_nil,Int.natCast_zero] at e
  rw [w,e,Ql,szT]
  congr 1; omega
theorem tleft_loop:∀ (s p:List Qf) (n:Int) (k f a:Int) (nm:ByteArray) (nu:List Int),-1≤n→(p.length:Int)+n≤600 →
  Yf (⟨k,f,a,nm,nu,p++s⟩,n,(p.length:Int))=some (max (n - (szTs s:Int)) (-1))
 | [],p,n,k,f,a,nm,nu,h1,h2=>by
  rw [Yf]
  simp only [Y3,if_false,Ql,Bool.false_eq_true,szTs]
  congr 1; omega
 | x::s,p,n,k,f,a,nm,nu,h1,h2=>by
  rw [Yf]
  simp only [Ym,if_true,Ql]
  by_cases hn:n≥0
  ·rw [decide_eq_true hn]
   have e:=tleft_ok x n hn (by omega)
   have e':=tleft_loop s (p++[x]) (max (n - (szT x:Int)) (-1)) k f a nm nu (by omega) (by have:=szT_pos x; simp; omega)
   rw [← QV] at e'
   have w:W ((p.length:Int)+1)=((p++[x]).length:Int):=by rw [W_ok (by omega) (by omega)]; simp
   simp only [if_true,Zp,Ql,e,w,e',szTs]
   congr 1; omega
  ·rw [decide_eq_false hn]
   simp only [Bool.false_eq_true,if_false,szTs]
   congr 1; omega
end
mutual
theorem tdep_ok:∀ (t:Qf),szT t≤600→XC t=some (depT t:Int)
 | ⟨k,f,a,nm,nu,ks⟩,h=>by
  rw [XC]
  rw [szT] at h
  have e:=tdep_loop ks [] 0 k f a nm nu (by have:=szTs_len ks; simp; omega) (by omega) (by omega)
  simp only [List.nil_append,List.length_nil,Int.natCast_zero] at e
  have:=depTs_le ks
  simp only [e,Ql,depT]
  rw [W_ok (by omega) (by omega)]
  congr 1
  first|done|omega
theorem tdep_loop:∀ (s p:List Qf) (m:Nat) (k f a:Int) (nm:ByteArray) (nu:List Int),(p++s).length≤600→szTs s≤600→m≤600 →
  ZR (⟨k,f,a,nm,nu,p++s⟩,(m:Int),(p.length:Int))=some ((max m (depTs s):Nat):Int)
 | [],p,m,k,f,a,nm,nu,h1,h2,h3=>by
  rw [ZR]
  simp only [Y3,if_false,depTs,Nat.max_zero]
 | x::s,p,m,k,f,a,nm,nu,h1,h2,h3=>by
  rw [ZR]
  rw [szTs] at h2
  have e:=tdep_ok x (by omega)
  have hd:=depT_le x
  have e':=tdep_loop s (p++[x]) (max m (depT x)) k f a nm nu (by simpa using h1) (by omega) (by omega)
  rw [← QV] at e'
  have w:W ((p.length:Int)+1)=((p++[x]).length:Int):=mid_W (Sm_of h1)
  have hx:(if (m:Int) < (depT x:Int) then (depT x:Int) else (m:Int))=((max m (depT x):Nat):Int):=by split <;> omega
  simp only [Ym,if_true,Zp,Ql,e,w,hx,e',depTs]
  congr 1; omega
end
mutual
theorem tnum_ok:∀ (t:Qf),szT t≤600→numT t≤1000000000000000000→Xs t=some (numT t:Int)
 | ⟨k,f,a,nm,nu,ks⟩,h,h2=>by
  rw [Xs]
  rw [szT] at h
  rw [numT] at h2
  have e:=tnum_loop ks [] nu.length k f a nm nu (by have:=szTs_len ks; simp; omega) (by omega) (by omega)
  simp only [List.nil_append,List.length_nil,Int.natCast_zero] at e
  simp only [e,Ql,numT]
theorem tnum_loop:∀ (s p:List Qf) (m:Nat) (k f a:Int) (nm:ByteArray) (nu:List Int),(p++s).length≤600→szTs s≤600→m+numTs s≤1000000000000000000 →
  ZB (⟨k,f,a,nm,nu,p++s⟩,(m:Int),(p.length:Int))=some ((m+numTs s:Nat):Int)
 | [],p,m,k,f,a,nm,nu,h1,h2,h3=>by
  rw [ZB]
  simp only [Y3,if_false,numTs,Nat.add_zero]
 | x::s,p,m,k,f,a,nm,nu,h1,h2,h3=>by
  rw [ZB]
  rw [szTs] at h2
  rw [numTs] at h3
  have e:=tnum_ok x (by omega) (by omega)
  have e':=tnum_loop s (p++[x]) (m+numT x) k f a nm nu (by simpa using h1) (by omega) (by omega)
  rw [← QV] at e'
  have w:W ((p.length:Int)+1)=((p++[x]).length:Int):=mid_W (Sm_of h1)
  have hx:W ((m:Int)+(numT x:Int))=((m+numT x:Nat):Int):=by rw [W_ok (by omega) (by omega)]; omega
  simp only [Ym,if_true,Zp,Ql,e,w,hx,e',numTs,Nat.add_assoc]
end
def fewT (t:Qf):Prop:=szT t≤60∧depT t≤150∧numT t≤600
theorem tFew_ok (t:Qf) (hb:numT t≤szT t * 140737488351232):∃ b,Qb4 (t,60)=some b∧(b=true↔fewT t):=by
 unfold Qb4
 simp only [tleft_ok t 60 (by omega) (by omega),Ql]
 by_cases h:szT t≤60
 ·have h0:max ((60:Int) - (szT t:Int)) (-1)≥0:=by omega
  have hn:numT t≤1000000000000000000:=Nat.le_trans hb (Nat.le_trans (Nat.mul_le_mul_right _ h) (by decide))
  have w:W (10 * 60)=600:=by decide
  simp only [h0,if_true,tdep_ok t (by omega),tnum_ok t (by omega) hn,Ql,w]
  by_cases hd:(depT t:Int)≤150
  ·rw [decide_eq_true hd]
   simp only [if_true]
   refine ⟨_,rfl,?_⟩
   unfold fewT
   simp only [decide_eq_true_eq]
   omega
  ·rw [decide_eq_false hd]
   simp only [Bool.false_eq_true,if_false]
   exact ⟨_,rfl,fun h=>(by cases h),fun h=>by unfold fewT at h; omega⟩
 ·have h0:¬ max ((60:Int) - (szT t:Int)) (-1)≥0:=by omega
  simp only [h0,if_false,Ql,Bool.false_eq_true]
  exact ⟨_,rfl,fun h=>(by cases h),fun h'=>by unfold fewT at h'; omega⟩
theorem letter_tot (v:Int):∃ b,YS v=some b:=by
 unfold YS
 simp only [ite_som,Ql]
 exact ⟨_,rfl⟩
theorem digit_tot (v:Int):∃ b,XB v=some b:=by
 unfold XB
 simp only [ite_som,Ql]
 exact ⟨_,rfl⟩
theorem sidx_ok {b:ByteArray} {i:Nat} (h:i < b.size):∃ v,sidx b (i:Int)=some v:=by
 unfold sidx
 rw [if_pos (by omega)]
 have h2:((i:Int)).toNat < b.data.size:=by have:b.data.size=b.size:=rfl; omega
 rw [Array.getElem?_eq_getElem h2]
 exact ⟨_,rfl⟩
theorem end_tot (s:ByteArray) (hs:s.size≤1000000000000000000):∀ m i:Nat,i+m=s.size→∃ r,ZO (s,(i:Int))=some r
 | 0,i,h=>by
  rw [ZO]
  have:¬ ((i:Int) < (s.size:Int)):=by omega
  simp only [this,if_false,Ql,Bool.false_eq_true]
  exact ⟨_,rfl⟩
 | m+1,i,h=>by
  rw [ZO]
  have h1:((i:Int) < (s.size:Int)):=by omega
  obtain ⟨v,e⟩:=sidx_ok (b:=s) (i:=i) (by omega)
  obtain ⟨b,eb⟩:=letter_tot v
  obtain ⟨c,ec⟩:=digit_tot v
  obtain ⟨r,er⟩:=end_tot s hs m (i+1) (by omega)
  have w:W ((i:Int)+1)=((i+1:Nat):Int):=W_succ (by omega)
  simp only [h1,if_true,e,eb,ec,Ql,w,er,ite_som]
  split
  ·exact ⟨_,rfl⟩
  ·exact ⟨_,rfl⟩
theorem name_tot (s:ByteArray) (hs:s.size≤1000000000000000000):∃ b,YA s=some b:=by
 unfold YA
 simp only []
 by_cases h:(s.size:Int) > 0
 ·obtain ⟨v,e⟩:=sidx_ok (b:=s) (i:=0) (by omega)
  simp only [Int.natCast_zero] at e
  obtain ⟨b,eb⟩:=letter_tot v
  obtain ⟨r,er⟩:=end_tot s hs s.size 0 (by omega)
  simp only [Int.natCast_zero] at er
  simp only [h,if_true,e,eb,Ql]
  cases b
  ·simp only [Bool.false_eq_true,if_false]; exact ⟨_,rfl⟩
  ·simp only [if_true,Qb3,er,Ql]; exact ⟨_,rfl⟩
 ·simp only [h,if_false,Ql,Bool.false_eq_true]; exact ⟨_,rfl⟩
def noT:Qf:=⟨0,0,0,ByteArray.empty,[],[]⟩
def axF (a:Int):Prop:=0≤a∧a≤15
def formF (t:Qf):Prop :=
 (t.kind=1∧t.fn=0∧t.axis=-1∧t.name=ByteArray.empty∧t.kids.length=0) ∨
 (t.kind=2∧t.fn=0∧t.axis=-1∧YA t.name=some true∧t.nums.length=0∧t.kids.length=0) ∨
 (t.kind=3∧t.name=ByteArray.empty∧t.nums.length=0∧t.kids.length=1∧((t.fn=3∧(t.axis=-1∨axF t.axis))∨((t.fn=4∨t.fn=6)∧t.axis=-1))) ∨
 (t.kind=4∧t.name=ByteArray.empty∧t.nums.length=0∧t.kids.length=2∧1≤t.fn∧t.fn≤6∧(t.axis=-1∨(axF t.axis∧(t.fn=3∨t.fn=6)))∧(t.fn=6∨(t.kids.getD 0 noT).kind=1∨(t.kids.getD 0 noT).kind=2))
set_option maxHeartbeats 4000000 in
theorem tnode_ok (t:Qf) (hs:t.name.size≤1000000000000000000):∃ b,Qbu t=some b∧(b=true↔formF t):=by
 obtain ⟨k,f,a,nm,nu,ks⟩:=t
 obtain ⟨nb,en⟩:=name_tot nm hs
 unfold Qbu
 simp only [ite_som,Ql]
 by_cases h1:k=1
 ·subst h1
  simp only [if_true,ite_som,Ql]
  refine ⟨_,rfl,?_⟩
  simp only [formF,axF]
  by_cases c1:f=0 <;> by_cases c2:a=-1 <;> by_cases c3:nm=ByteArray.empty <;> simp [c1,c2,c3] <;> omega
 ·by_cases h2:k=2
  ·subst h2
   simp only [if_neg h1,if_true,ite_som,Ql,en]
   refine ⟨_,rfl,?_⟩
   simp only [formF,axF,en]
   cases nb <;> by_cases c1:f=0 <;> by_cases c2:a=-1 <;> by_cases c3:nu=[] <;> simp [c1,c2,c3]
  ·by_cases h3:k=3
   ·subst h3
    simp only [if_neg h1,if_neg h2,if_true,ite_som,Ql]
    refine ⟨_,rfl,?_⟩
    simp only [formF,axF]
    by_cases c1:nm=ByteArray.empty <;> by_cases c2:nu=[] <;> by_cases c3:ks.length=1 <;> by_cases c4:f=3 <;> by_cases c5:a=-1 <;> simp [c1,c2,c3,c4,c5] <;> (try omega)
   ·by_cases h4:k=4
    ·subst h4
     simp only [if_neg h1,if_neg h2,if_neg h3,if_true,ite_som,Ql]
     match ks with
     | [x,y] =>
      have i0:idx [x,y] 0=some x:=rfl
      simp only [i0,ite_som,Ql]
      refine ⟨_,rfl,?_⟩
      simp only [formF,axF]
      by_cases c1:nm=ByteArray.empty <;> by_cases c2:nu=[] <;> by_cases c3:f=6 <;> by_cases c4:f=3 <;> by_cases c5:a=-1 <;> simp [c1,c2,c3,c4,c5] <;> (try omega)
     | [] =>
      simp [formF]
     | [x]=>
      simp [formF]
     | x::y::z::r =>
      simp [formF]
      intro _ _ h
      omega
    ·simp only [if_neg h1,if_neg h2,if_neg h3,if_neg h4]
     exact ⟨_,rfl,fun h=>(by cases h),fun h=>by simp only [formF] at h; omega⟩
mutual
def good:Qf→Prop
 | ⟨k,f,a,nm,nu,ks⟩=>formF ⟨k,f,a,nm,nu,ks⟩∧goods ks
def goods:List Qf→Prop
 | []=>True
 | k::ks=>good k∧goods ks
end
def nmOk (n:Nat):Prop:=n≤1000000000000000000
mutual
def namesOk:Qf→Prop
 | ⟨_,_,_,nm,_,ks⟩=>nmOk nm.size∧namesOks ks
def namesOks:List Qf→Prop
 | []=>True
 | k::ks=>namesOk k∧namesOks ks
end
mutual
theorem tnodes_ok:∀ (t:Qf),szT t≤600→namesOk t→∃ b,Jd t=some b∧(b=true↔good t)
 | ⟨k,f,a,nm,nu,ks⟩,h,hn=>by
  rw [szT] at h
  rw [namesOk] at hn
  obtain ⟨b,e,hb⟩:=tnode_ok ⟨k,f,a,nm,nu,ks⟩ hn.1
  have hl:=szTs_len ks
  obtain ⟨r,e2,hr⟩:=tnodes_loop ks [] k f a nm nu (by simp; omega) (by omega) hn.2
  simp only [List.nil_append,List.length_nil,Int.natCast_zero] at e2
  rw [Jd]
  simp only [e,Ql,good,← hb,← hr]
  cases b with
  | false=>exact ⟨_,rfl,fun h=>(by cases h),fun h=>(by cases h.1)⟩
  | true =>
   simp only [Bool.true_eq_false,if_false,e2,Ql,true_and]
   cases r with
   | inl u=>exact ⟨_,rfl,fun h=>(by cases h),fun h=>(by cases h)⟩
   | inr u=>exact ⟨_,rfl,fun _=>rfl,fun _=>rfl⟩
theorem tnodes_loop:∀ (s p:List Qf) (k f a:Int) (nm:ByteArray) (nu:List Int),(p++s).length≤600→szTs s≤600→namesOks s →
  ∃ r,ZT (⟨k,f,a,nm,nu,p++s⟩,(p.length:Int))=some r∧(r=.inr ()↔goods s)
 | [],p,k,f,a,nm,nu,h1,h2,h3=>by
  rw [ZT]
  simp only [Y3,if_false,goods]
  exact ⟨_,rfl,fun _=>trivial,fun _=>rfl⟩
 | x::s,p,k,f,a,nm,nu,h1,h2,h3=>by
  rw [ZT]
  rw [szTs] at h2
  rw [namesOks] at h3
  obtain ⟨b,e,hb⟩:=tnodes_ok x (by omega) h3.1
  obtain ⟨r,e',hr⟩:=tnodes_loop s (p++[x]) k f a nm nu (by simpa using h1) (by omega) h3.2
  rw [← QV] at e'
  have w:W ((p.length:Int)+1)=((p++[x]).length:Int):=mid_W (Sm_of h1)
  simp only [Ym,if_true,Zp,Ql,e,w,goods,← hb,← hr]
  cases b with
  | false=>exact ⟨_,rfl,fun h=>(by cases h),fun h=>(by cases h.1)⟩
  | true=>exact ⟨r,e',fun h=>⟨rfl,h⟩,fun h=>h.2⟩
end
theorem etaT (t:Qf):(⟨t.kind,t.fn,t.axis,t.name,t.nums,t.kids⟩:Qf)=t:=by cases t; rfl
theorem tRight_ok (t:Qf) (h:szT t≤300) (hn:namesOk t):∃ b,Qa2 t=some b∧(b=true↔depT t≤100∧good t):=by
 obtain ⟨b,e,hb⟩:=tnodes_ok t (by omega) hn
 unfold Qa2
 simp only [tdep_ok t (by omega),Ql]
 by_cases hd:(depT t:Int)≤100
 ·simp only [hd,if_true,etaT,e,Ql]
  exact ⟨_,rfl,by rw [hb]; exact ⟨fun h=>⟨by omega,h⟩,fun h=>h.2⟩⟩
 ·simp only [hd,if_false]
  exact ⟨_,rfl,fun h=>(by cases h),fun h=>(by omega)⟩
theorem tSmall_ok (t:Qf) (hb:numT t≤szT t * 140737488351232) (hn:namesOk t):∃ b,Qa3 (t,60)=some b∧(b=true↔fewT t∧depT t≤100∧good t):=by
 obtain ⟨b,e,h⟩:=tFew_ok t hb
 unfold Qa3
 simp only [e,Ql]
 cases b with
 | false=>
  simp only [Bool.false_eq_true,if_false]
  exact ⟨_,rfl,fun h=>(by cases h),fun h'=>h.2 h'.1⟩
 | true =>
  obtain ⟨c,e2,h2⟩:=tRight_ok t (by have:=(h.1 rfl).1; omega) hn
  simp only [if_true,etaT,e2,Ql]
  exact ⟨_,rfl,by rw [h2]; exact ⟨fun h'=>⟨h.1 rfl,h'⟩,fun h'=>h'.2⟩⟩
theorem szT_f (t:Qf):szT t=1+szTs t.kids:=by cases t; rw [szT]
theorem numT_f (t:Qf):numT t=t.nums.length+numTs t.kids:=by cases t; rw [numT]
theorem good_f {t:Qf}:good t↔formF t∧goods t.kids:=by cases t; rw [good]
theorem kids1 {t:Qf} (h:t.kids.length=1):∃ k,t.kids=[k]:=by
 match e:t.kids,h with
 | [k],_=>exact ⟨k,rfl⟩
theorem kids2 {t:Qf} (h:t.kids.length=2):∃ l k,t.kids=[l,k]:=by
 match e:t.kids,h with
 | [l,k],_=>exact ⟨l,k,rfl⟩
theorem goods1 {k:Qf}:goods [k]↔good k:=by rw [goods,goods]; simp
theorem goods2 {l k:Qf}:goods [l,k]↔good l∧good k:=by rw [goods,goods,goods]; simp
theorem sz1 (k:Qf):szTs [k]=szT k∧numTs [k]=numT k∧depTs [k]=depT k:=by simp [szTs,numTs,depTs]
theorem sz2 (l k:Qf):szTs [l,k]=szT l+szT k∧numTs [l,k]=numT l+numT k∧depTs [l,k]=max (depT l) (depT k):=by simp [szTs,numTs,depTs]
theorem nq21:¬ (2:Int)=1:=by decide
theorem nq31:¬ (3:Int)=1:=by decide
theorem nq32:¬ (3:Int)=2:=by decide
theorem nq41:¬ (4:Int)=1:=by decide
theorem nq42:¬ (4:Int)=2:=by decide
theorem nq43:¬ (4:Int)=3:=by decide
theorem nq51:¬ (5:Int)=1:=by decide
theorem nq52:¬ (5:Int)=2:=by decide
theorem nq53:¬ (5:Int)=3:=by decide
theorem nq54:¬ (5:Int)=4:=by decide
theorem app_le2 {α:Type} {b:Nat} {l es:List α} (h:l.length+es.length≤100000000) (hb:b≤1000):app b l es=some (l++es):=app_ok (by
 have:(l.length+es.length) * b≤100000000 * 1000:=Nat.mul_le_mul h hb
 unfold room; omega)
theorem etaC (c:Qc):(⟨c.kind,c.shape,c.buffer,c.starts,c.axis,c.amount,c.perm,c.kids⟩:Qc)=c:=by cases c; rfl
def reshC (s:List Int) (c:Qc):Qc:=⟨6,s,0,[],0,0,[],[c]⟩
def seenC (c:Qc) (s:List Int):Qc:=if c.shape=s then c else reshC s c
def winC (r:Qn) (c:Qc):Qc:=⟨2,r.shape,0,r.starts,0,0,[],[seenC c r.right]⟩
def turnC (k:Int) (r:Qn) (c:Qc):Qc:=if r.axis=-1 then c else ⟨k,r.shape,0,[],r.axis,r.amount,[],[c]⟩
def transC (r:Qn) (c:Qc):Qc:=⟨5,r.shape,0,[],0,0,r.perm,[c]⟩
theorem reshaped_ok (c:Qc) (s:List Int):Xr (c,s)=some (reshC s c):=by unfold Xr reshC; dsimp only; rw [etaC]
theorem seen_okC (c:Qc) (s:List Int) (hs:s.length≤1000):Qao (c,s)=some (seenC c s):=by
 unfold Qao seenC
 simp only [sEqual_ok' c.shape s (Sm_le hs),Ql,reshaped_ok]
 by_cases h:c.shape=s <;> simp [h]
theorem window_okC (r:Qn) (c:Qc) (hr:r.right.length≤1000):JR (r,c)=some (winC r c):=by
 unfold JR winC
 simp only [seen_okC c r.right hr,Ql,etaC]
theorem turned_ok (k:Int) (r:Qn) (c:Qc):JQ (k,r,c)=some (turnC k r c):=by
 unfold JQ turnC
 dsimp only
 split
 ·rfl
 ·rw [etaC]
theorem transposed_ok (r:Qn) (c:Qc):Xj (r,c)=some (transC r c):=by unfold Xj transC; dsimp only; rw [etaC]
def monR (t:Qf) (c:Qc):Qc × Int :=
 if t.fn=3 then (turnC 3 (revR t.axis c.shape).1 c,(revR t.axis c.shape).2) else if t.fn=4 then (transC (flipR c.shape) c,0) else (reshC [cellsR c.shape] c,0)
theorem monad_okC (t:Qf) (c:Qc) (hc:checkR c.shape=0):Qbs (t,c)=some (monR t c):=by
 unfold Qbs monR
 simp only [Reverse_ok t.axis hc,Flip_ok hc,Ravel_ok hc,Ql,turned_ok,transposed_ok,etaC,reshaped_ok]
 split
 ·rfl
 ·split <;> rfl
def meaR (t:Qf) (c:Qc) (v:List Int):Qc × Int :=
 if t.fn=1 then (winC (takeR v c.shape).1 c,(takeR v c.shape).2) else if t.fn=2 then (winC (dropR v c.shape).1 c,(dropR v c.shape).2)
 else if t.fn=3 then (turnC 4 (rotR v t.axis c.shape).1 c,(rotR v t.axis c.shape).2) else if t.fn=4 then (transC (transR v c.shape).1 c,(transR v c.shape).2)
 else (reshC (reshR v c.shape).1.shape c,(reshR v c.shape).2)
theorem okR_len {r:Qn} (h:okR r):r.left.length≤16∧r.right.length≤16∧r.shape.length≤16:=⟨(checkR_zero.1 h.1).2.1,(checkR_zero.1 h.2.1).2.1,(checkR_zero.1 h.2.2).2.1⟩
end Go.Proofs.Tryz
