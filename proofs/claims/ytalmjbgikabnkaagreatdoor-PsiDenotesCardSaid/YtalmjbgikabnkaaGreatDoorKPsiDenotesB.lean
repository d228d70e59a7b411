/-
 Models of functions, their walks, and plain laws.
-/
import Derived.Test.YtalmjbgikabnkaaGreatDoorKPsiDenotesA
namespace Go.Proofs.Tryz
open Go Go.Pm
set_option linter.unusedVariables false
set_option maxHeartbeats 2000000
set_option maxRecDepth 2000
def ZJ (x:((List Int) × Int × (List Int) × Int)):Option ((List Int)) :=
 match x with
 | (p0,p1,v201,v202) =>
 if v202 < (p0.length:Int) then
  if v202≠p1 then
   idx p0 v202>>=fun v602 =>
   app 8 v201 ([v602]:List Int)>>=fun v603 =>
   ZJ (p0,p1,v603,(W (v202+1)))
  else
  ZJ (p0,p1,v201,(W (v202+1)))
 else
 some v201
 partial_fixpoint
def Qcf:((List Int) × Int × (List Int) × Int)→(List Int)→Prop:=fun x r=>match x with
 | (p0,p1,v201,v202)=>∀ st,prune 1 ((Qw (QD [1,1,0,1,0,0] (QE f115))).bind (env.hint 115).keepAt) st=⟨kp 24 [(0,(.dat (.lst ((List.map Qc) p0)))),(1,(Qd p1)),(5,(.vec 0 ((List.map Qc) v201))),(6,(Qd v202))],[(.tok 3 v201.length)]⟩ →
  RL prog env (env.hint 115) true (QD [1,1,0,1,0,0] (QE f115)) 1 st (fun e s=>match r with|v601=>e=.exit 0∧∃ d,s=⟨sl d 24 [(5,(.vec 0 ((List.map Qc) v601)))],[(.tok 3 v601.length)]⟩)
theorem Js:∀ x r,ZJ x=some r→Qcf x r:=by
 refine ZJ.partial_correctness _ (fun ZJ Js x r hm=>?_)
 unfold Qcf
 obtain ⟨p0,p1,v201,v202⟩:=x
 intro st hst
 refine RL_at hst ?_
 clear hst
 refine Qe (Qe (R_G (Qb 2 ?_)))
 refine QG Qc p0 (es:=(List.map Qc) p0) rfl ?_
 refine Qb 1 (Qg ?_)
 refine Qx hm (rfl) (fun hm=>?_) (fun hm=>?_)
 ·refine Qs (Qe (Qz (Qe (R_G (Qb 3 (Qg ?_))))))
  refine Qx hm (ne_dec _ _) (fun hm=>?_) (fun hm=>?_)
  ·refine R_G (Qb 3 ?_)
   refine QF 1 Qc hm rfl (fun _=>rfl) (fun v602 hm=>?_)
   refine Qb 2 ?_
   obtain ⟨v603,hx,hm⟩:=Qf hm
   refine YZ 3 1 8 0 Qc v201 ([v602]:List Int) v603 (xs:=(List.map Qc) v201) (es:=(List.map Qc) ([v602]:List Int)) (L:=(List.map Qc)) (fun _=>rfl) rfl rfl (fun _=>rfl) hx ?_
   refine Qb 1 (Qg (R_G (Qb 3 (Qg ?_))))
   exact Js _ _ hm _ (by kernel_rfl)
  refine Qs (R_G (Qb 3 (Qg ?_)))
  exact Js _ _ hm _ (by kernel_rfl)
 refine QP ?_
 obtain rfl:=Qq hm
 exact ⟨rfl,Qm⟩
def QaJ (x:((List Int) × Int)):Option (List Int) :=
 match x with
 | (p0,p1) =>
 ZJ (p0,p1,([]:List Int),0)>>=fun (v601:(List Int)) =>
 some v601
def Qde:((List Int) × Int)→(List Int)→Prop:=fun x r=>match x,r with
 | (p0,p1),r0=>∀ H,PC prog env 115 ([(.lst ((List.map Qc) p0)),(Qc p1)].map .dat) H (.dat (.lst ((List.map Qc) r0))) H
theorem Qff:∀ x r,QaJ x=some r→Qde x r:=by
 intro x r0 hm
 unfold QaJ at hm
 unfold Qde
 obtain ⟨p0,p1⟩:=x
 intro H
 refine PC_sx (ds:=[(.lst ((List.map Qc) p0)),(Qc p1)]) (fn:=f115) rfl ?_
 refine Qe (R_G (Qb 1 (Qg (Qe (R_G (Qb 1 (Qg (Qe (Qe (R_G (Qb 1 ?_)))))))))))
 refine Qg (Qz ?_)
 obtain ⟨v601,hs,hm⟩:=Qf hm
 refine QT ?_
 refine RL_use (Js _ _ hs) (by kernel_rfl) ?_
 clear hs
 intro e s hp
 obtain ⟨rfl,d,rfl⟩:=hp
 refine Qe (R_G (Qb 2 (Qg (Qt ?_))))
 obtain rfl:=Qq hm
 exact ⟨trivial,Qk⟩
def JA (x:((List Int) × Int × Int)):Option (List Int) :=
 match x with
 | (p0,p1,p2) =>
 QaJ (p0,p1)>>=fun (v1:(List Int)) =>
 Xk (v1,p1,p2)>>=fun (v2:(List Int)) =>
 some v2
def QeW:((List Int) × Int × Int)→(List Int)→Prop:=fun x r=>match x,r with
 | (p0,p1,p2),r0=>∀ H,PC prog env 94 ([(.lst ((List.map Qc) p0)),(Qc p1),(Qc p2)].map .dat) H (.dat (.lst ((List.map Qc) r0))) H
theorem QdA:∀ x r,JA x=some r→QeW x r:=by
 intro x r0 hm
 unfold JA at hm
 unfold QeW
 obtain ⟨p0,p1,p2⟩:=x
 intro H
 refine PC_sx (ds:=[(.lst ((List.map Qc) p0)),(Qc p1),(Qc p2)]) (fn:=f94) rfl ?_
 refine Qe (R_G (Qb 1 (Qg (Qe (R_G (Qb 2 ?_))))))
 obtain ⟨v1,hx,hm⟩:=Qf hm
 have hq:=Qff _ _ hx []
 refine Qr hq ?_
 refine Qb 2 ?_
 obtain ⟨v2,hx,hm⟩:=Qf hm
 have hq:=QbZ _ _ hx []
 refine Qr hq ?_
 refine Qb 1 (Qg (Qt ?_))
 obtain rfl:=Qq hm
 exact ⟨trivial,Qk⟩
def ZH (x:((List Int) × (List Int) × Int × (List Int) × (List Int) × Int)):Option (Unit ⊕ Unit) :=
 match x with
 | (p1,p2,v1,v7,v9,v211) =>
 if v211 < (max (max (p1.length:Int) (p2.length:Int)) 1) then
  (if v211≠v1 then
   idx v7 v211>>=fun v612 =>
   idx v9 v211>>=fun v613 =>
   some (v612 != v613)
  else
  some false
  )>>=fun (v611:Bool) =>
  if v611=true then
   some (Sum.inl ())
  else
  ZH (p1,p2,v1,v7,v9,(W (v211+1)))
 else
 some (Sum.inr ())
 partial_fixpoint
def QbD:((List Int) × (List Int) × Int × (List Int) × (List Int) × Int)→(Unit ⊕ Unit)→Prop:=fun x r=>match x with
 | (p1,p2,v1,v7,v9,v211)=>∀ st,prune 1 ((Qw (QD [1,1,1,1,1,1,1,1,1,1,1,0,1,0,0] (QE f62))).bind (env.hint 62).keepAt) st=⟨kp 114 [(0,(Qd v1)),(6,(.ptr 0 0)),(8,(Qd (max (max (p1.length:Int) (p2.length:Int)) 1))),(10,(.dat (.lst ((List.map Qc) v7)))),(11,(.dat (.lst ((List.map Qc) v9)))),(12,(Qd v211))],[(.box [(.dat (.lst ((List.map Qc) []))),(.dat (.lst ((List.map Qc) []))),(.dat (.lst ((List.map Qc) []))),(.dat (.lst ((List.map Qc) []))),(Qd 0),(Qd 0),(.dat (.lst ((List.map Qc) [])))])]⟩ →
  RL prog env (env.hint 62) true (QD [1,1,1,1,1,1,1,1,1,1,1,0,1,0,0] (QE f62)) 1 st (fun e s=>match r with|.inl _=>e=.ret∧∃ d,s=⟨sl d 114 [(6,(.ptr 0 0)),(7,(Qd 5))],[(.box [(.dat (.lst ((List.map Qc) []))),(.dat (.lst ((List.map Qc) []))),(.dat (.lst ((List.map Qc) []))),(.dat (.lst ((List.map Qc) []))),(Qd 0),(Qd 0),(.dat (.lst ((List.map Qc) [])))])]⟩|.inr (_)=>e=.exit 0∧∃ d,s=⟨sl d 114 [(0,(Qd v1)),(6,(.ptr 0 0)),(10,(.dat (.lst ((List.map Qc) v7)))),(11,(.dat (.lst ((List.map Qc) v9))))],[(.box [(.dat (.lst ((List.map Qc) []))),(.dat (.lst ((List.map Qc) []))),(.dat (.lst ((List.map Qc) []))),(.dat (.lst ((List.map Qc) []))),(Qd 0),(Qd 0),(.dat (.lst ((List.map Qc) [])))])]⟩)
theorem XN:∀ x r,ZH x=some r→QbD x r:=by
 refine ZH.partial_correctness _ (fun ZH XN x r hm=>?_)
 unfold QbD
 obtain ⟨p1,p2,v1,v7,v9,v211⟩:=x
 intro st hst
 refine RL_at hst ?_
 clear hst
 refine Qe (Qe (R_G (Qb 3 (Qg ?_))))
 refine Qx hm (rfl) (fun hm=>?_) (fun hm=>?_)
 ·refine Qs (Qe (Qz (Qe ?_)))
  obtain ⟨v611,hs,hm⟩:=Qf hm
  refine Q7 (fun d=>⟨sl d 114 [(0,(Qd v1)),(6,(.ptr 0 0)),(8,(Qd (max (max (p1.length:Int) (p2.length:Int)) 1))),(10,(.dat (.lst ((List.map Qc) v7)))),(11,(.dat (.lst ((List.map Qc) v9)))),(12,(Qd v211)),(91,(Qp v611))],[(.box [(.dat (.lst ((List.map Qc) []))),(.dat (.lst ((List.map Qc) []))),(.dat (.lst ((List.map Qc) []))),(.dat (.lst ((List.map Qc) []))),(Qd 0),(Qd 0),(.dat (.lst ((List.map Qc) [])))])]⟩) ?_ (fun d=>?_)
  ·replace hm:=hs
   clear hs
   refine YM ?_
   refine Qb 4 ?_
   refine Qy 81 hm (ne_dec _ _) (fun hm=>?_) (fun hm=>?_)
   ·refine Qb 2 ?_
    refine QF 1 Qc hm rfl (fun _=>rfl) (fun v612 hm=>?_)
    refine Qb 3 ?_
    refine QF 1 Qc hm rfl (fun _=>rfl) (fun v613 hm=>?_)
    refine Qb 3 ?_
    refine Qg ⟨by kernel_rfl,?_⟩
    obtain rfl:=Qq hm
    exact Qm
   refine Qb 10 ?_
   refine Qg ⟨by kernel_rfl,?_⟩
   obtain rfl:=Qq hm
   exact Qm
  clear hs
  refine Qx hm (QC _) (fun hm=>?_) (fun hm=>?_)
  ·refine Qe (R_G (Qb 3 (Qg (Qt ?_))))
   obtain rfl:=Qq hm
   exact ⟨rfl,Qm⟩
  refine Qs (R_G (Qb 3 (Qg ?_)))
  exact XN _ _ hm _ (by kernel_rfl)
 refine QP ?_
 obtain rfl:=Qq hm
 exact ⟨rfl,Qm⟩
def XS (x:(Int × (List Int) × (List Int))):Option (Qu × Int) :=
 match x with
 | (p0,p1,p2) =>
 if p0≥(max (max (p1.length:Int) (p2.length:Int)) 1) then
  some ((⟨([]:(List Int)),([]:(List Int)),([]:(List Int)),([]:(List Int)),0,0,([]:(List Int))⟩:Qu),4)
 else
 (if p0 < 0 then
  some (W ((max (max (p1.length:Int) (p2.length:Int)) 1) - 1))
 else
 some p0
 )>>=fun (v1:Int) =>
 (if (if (p2.length:Int) < (p1.length:Int) then (p2.length:Int) else (p1.length:Int)) < (W ((max (max (p1.length:Int) (p2.length:Int)) 1) - 1)) then
  some (decide ((if (p2.length:Int) < (p1.length:Int) then (p2.length:Int) else (p1.length:Int)) > 0))
 else
 some false
 )>>=fun (v2:Bool) =>
 if v2=true then
  some ((⟨([]:(List Int)),([]:(List Int)),([]:(List Int)),([]:(List Int)),0,0,([]:(List Int))⟩:Qu),4)
 else
 (if (p1.length:Int)=(W ((max (max (p1.length:Int) (p2.length:Int)) 1) - 1)) then
  Xk (p1,v1,1)>>=fun (v4:(List Int)) =>
  some v4
 else
 some p1
 )>>=fun (v3:(List Int)) =>
 (if (p2.length:Int)=(W ((max (max (p1.length:Int) (p2.length:Int)) 1) - 1)) then
  Xk (p2,v1,1)>>=fun (v6:(List Int)) =>
  some v6
 else
 some p2
 )>>=fun (v5:(List Int)) =>
 (if (v3.length:Int) < (max (max (p1.length:Int) (p2.length:Int)) 1) then
  JA (v5,v1,1)>>=fun (v8:(List Int)) =>
  some v8
 else
 some v3
 )>>=fun (v7:(List Int)) =>
 (if (v5.length:Int) < (max (max (p1.length:Int) (p2.length:Int)) 1) then
  JA (v7,v1,1)>>=fun (v10:(List Int)) =>
  some v10
 else
 some v5
 )>>=fun (v9:(List Int)) =>
 (
 ZH (p1,p2,v1,v7,v9,0)>>=fun (out:Unit ⊕ Unit) =>
 match out with
 | .inl _ =>
  some ((⟨([]:(List Int)),([]:(List Int)),([]:(List Int)),([]:(List Int)),0,0,([]:(List Int))⟩:Qu),5)
 | .inr (_) =>
  idx v7 v1>>=fun v614 =>
  idx v9 v1>>=fun v615 =>
  JA (v7,v1,(W (v614+v615)))>>=fun (v616:(List Int)) =>
  Yg v616>>=fun (v617:Int) =>
  if v617≠0 then
   some ((⟨([]:(List Int)),([]:(List Int)),([]:(List Int)),([]:(List Int)),0,0,([]:(List Int))⟩:Qu),7)
  else
  some ((⟨v7,v9,v616,([]:(List Int)),v1,0,([]:(List Int))⟩:Qu),0)
 )
def QcP:(Int × (List Int) × (List Int))→(Qu × Int)→Prop:=fun x r=>match x,r with
 | (p0,p1,p2),(r0,r1)=>∀ H,PC prog env 62 ([(Qc p0),(.lst ((List.map Qc) p1)),(.lst ((List.map Qc) p2))].map .dat) H (.tup [(.dat (Qu.toD r0)),(Qd r1)]) H
theorem QeP:∀ x r,XS x=some r→QcP x r:=by
 intro x r hm
 unfold XS at hm
 unfold QcP
 obtain ⟨p0,p1,p2⟩:=x
 obtain ⟨r0,r1⟩:=r
 intro H
 refine PC_sx (ds:=[(Qc p0),(.lst ((List.map Qc) p1)),(.lst ((List.map Qc) p2))]) (fn:=f62) rfl ?_
 refine Qe (R_G (Qb 2 (Qg (Qe (R_G (Qb 1 ?_))))))
 refine QG Qc p1 (es:=(List.map Qc) p1) rfl ?_
 refine Qb 1 ?_
 refine QG Qc p2 (es:=(List.map Qc) p2) rfl ?_
 refine QL rfl (fun _=>Qgs (k:=.i64) (m:=(p1.length:Int)) (n:=(p2.length:Int)) (q:=1) rfl (by kernel_rfl) (by kernel_rfl) (by kernel_rfl)) ?_
 refine Qb 1 (Qg (Qe (Qe (R_G (Qb 3 (Qg ?_))))))
 refine Qx hm (rfl) (fun hm=>?_) (fun hm=>?_)
 ·refine Qe (R_G (Qb 3 (Qg (Qt ?_))))
  obtain ⟨rfl,rfl⟩:=Zn hm
  exact ⟨trivial,Qk⟩
 refine Qs (Qe (Qe (R_G (Qb 2 (Qg ?_)))))
 obtain ⟨v1,hs,hm⟩:=Qf hm
 refine Q7 (fun d=>⟨sl d 114 [(0,(Qd v1)),(1,(.dat (.lst ((List.map Qc) p1)))),(2,(.dat (.lst ((List.map Qc) p2)))),(6,(.ptr 0 0)),(8,(Qd (max (max (p1.length:Int) (p2.length:Int)) 1)))],[(.box [(.dat (.lst ((List.map Qc) []))),(.dat (.lst ((List.map Qc) []))),(.dat (.lst ((List.map Qc) []))),(.dat (.lst ((List.map Qc) []))),(Qd 0),(Qd 0),(.dat (.lst ((List.map Qc) [])))])]⟩) ?_ (fun d=>?_)
 ·replace hm:=hs
  clear hs
  refine Qx hm (rfl) (fun hm=>?_) (fun hm=>?_)
  ·refine R_G (Qb 3 (Qg ?_))
   obtain rfl:=Qq hm
   exact Qm
  refine Qs ?_
  obtain rfl:=Qq hm
  exact Qm
 clear hs
 refine Qe (R_G (Qb 1 ?_))
 refine QG Qc p1 (es:=(List.map Qc) p1) rfl ?_
 refine Qb 1 ?_
 refine QG Qc p2 (es:=(List.map Qc) p2) rfl ?_
 refine QL rfl (fun _=>Qgc (k:=.i64) (m:=(p1.length:Int)) (n:=(p2.length:Int)) rfl (by kernel_rfl) (by kernel_rfl)) ?_
 refine Qb 1 (Qg (Qe (Qe ?_)))
 obtain ⟨v2,hs,hm⟩:=Qf hm
 refine Q7 (fun d=>⟨sl d 114 [(0,(Qd v1)),(1,(.dat (.lst ((List.map Qc) p1)))),(2,(.dat (.lst ((List.map Qc) p2)))),(6,(.ptr 0 0)),(8,(Qd (max (max (p1.length:Int) (p2.length:Int)) 1))),(39,(Qp v2))],[(.box [(.dat (.lst ((List.map Qc) []))),(.dat (.lst ((List.map Qc) []))),(.dat (.lst ((List.map Qc) []))),(.dat (.lst ((List.map Qc) []))),(Qd 0),(Qd 0),(.dat (.lst ((List.map Qc) [])))])]⟩) ?_ (fun d=>?_)
 ·replace hm:=hs
  clear hs
  refine R_G (Qb 5 ?_)
  refine Qy 36 hm (rfl) (fun hm=>?_) (fun hm=>?_)
  ·refine Qb 3 (Qg ?_)
   obtain rfl:=Qq hm
   exact Qm
  refine Qb 3 (Qg ?_)
  obtain rfl:=Qq hm
  exact Qm
 clear hs
 refine Qx hm (QC _) (fun hm=>?_) (fun hm=>?_)
 ·refine Qe (R_G (Qb 3 (Qg (Qt ?_))))
  obtain ⟨rfl,rfl⟩:=Zn hm
  exact ⟨trivial,Qk⟩
 refine Qs (Qe (R_G (Qb 4 (Qg (Qe (Qe (R_G (Qb 1 ?_))))))))
 refine QG Qc p1 (es:=(List.map Qc) p1) rfl ?_
 refine Qb 3 (Qg ?_)
 obtain ⟨v3,hs,hm⟩:=Qf hm
 refine Q7 (fun d=>⟨sl d 114 [(0,(Qd v1)),(2,(.dat (.lst ((List.map Qc) p2)))),(6,(.ptr 0 0)),(8,(Qd (max (max (p1.length:Int) (p2.length:Int)) 1))),(10,(.dat (.lst ((List.map Qc) v3)))),(11,(.dat (.lst ((List.map Qc) p2))))],[(.box [(.dat (.lst ((List.map Qc) []))),(.dat (.lst ((List.map Qc) []))),(.dat (.lst ((List.map Qc) []))),(.dat (.lst ((List.map Qc) []))),(Qd 0),(Qd 0),(.dat (.lst ((List.map Qc) [])))])]⟩) ?_ (fun d=>?_)
 ·replace hm:=hs
  clear hs
  refine Qx hm (QO _ _) (fun hm=>?_) (fun hm=>?_)
  ·refine R_G (Qb 2 ?_)
   obtain ⟨v4,hx,hm⟩:=Qf hm
   have hq:=QbZ _ _ hx []
   refine Qr hq ?_
   refine Qb 1 (Qg ?_)
   obtain rfl:=Qq hm
   exact Qm
  refine Qs ?_
  obtain rfl:=Qq hm
  exact Qm
 clear hs
 refine Qe (Qe (R_G (Qb 1 ?_)))
 refine QG Qc p2 (es:=(List.map Qc) p2) rfl ?_
 refine Qb 3 (Qg ?_)
 obtain ⟨v5,hs,hm⟩:=Qf hm
 refine Q7 (fun d=>⟨sl d 114 [(0,(Qd v1)),(6,(.ptr 0 0)),(8,(Qd (max (max (p1.length:Int) (p2.length:Int)) 1))),(10,(.dat (.lst ((List.map Qc) v3)))),(11,(.dat (.lst ((List.map Qc) v5))))],[(.box [(.dat (.lst ((List.map Qc) []))),(.dat (.lst ((List.map Qc) []))),(.dat (.lst ((List.map Qc) []))),(.dat (.lst ((List.map Qc) []))),(Qd 0),(Qd 0),(.dat (.lst ((List.map Qc) [])))])]⟩) ?_ (fun d=>?_)
 ·replace hm:=hs
  clear hs
  refine Qx hm (QO _ _) (fun hm=>?_) (fun hm=>?_)
  ·refine R_G (Qb 2 ?_)
   obtain ⟨v6,hx,hm⟩:=Qf hm
   have hq:=QbZ _ _ hx []
   refine Qr hq ?_
   refine Qb 1 (Qg ?_)
   obtain rfl:=Qq hm
   exact Qm
  refine Qs ?_
  obtain rfl:=Qq hm
  exact Qm
 clear hs
 refine Qe (Qe (R_G (Qb 1 ?_)))
 refine QG Qc v3 (es:=(List.map Qc) v3) rfl ?_
 refine Qb 2 (Qg ?_)
 obtain ⟨v7,hs,hm⟩:=Qf hm
 refine Q7 (fun d=>⟨sl d 114 [(0,(Qd v1)),(6,(.ptr 0 0)),(8,(Qd (max (max (p1.length:Int) (p2.length:Int)) 1))),(10,(.dat (.lst ((List.map Qc) v7)))),(11,(.dat (.lst ((List.map Qc) v5))))],[(.box [(.dat (.lst ((List.map Qc) []))),(.dat (.lst ((List.map Qc) []))),(.dat (.lst ((List.map Qc) []))),(.dat (.lst ((List.map Qc) []))),(Qd 0),(Qd 0),(.dat (.lst ((List.map Qc) [])))])]⟩) ?_ (fun d=>?_)
 ·replace hm:=hs
  clear hs
  refine Qx hm (rfl) (fun hm=>?_) (fun hm=>?_)
  ·refine R_G (Qb 2 ?_)
   obtain ⟨v8,hx,hm⟩:=Qf hm
   have hq:=QdA _ _ hx []
   refine Qr hq ?_
   refine Qb 1 (Qg ?_)
   obtain rfl:=Qq hm
   exact Qm
  refine Qs ?_
  obtain rfl:=Qq hm
  exact Qm
 clear hs
 refine Qe (Qe (R_G (Qb 1 ?_)))
 refine QG Qc v5 (es:=(List.map Qc) v5) rfl ?_
 refine Qb 2 (Qg ?_)
 obtain ⟨v9,hs,hm⟩:=Qf hm
 refine Q7 (fun d=>⟨sl d 114 [(0,(Qd v1)),(6,(.ptr 0 0)),(8,(Qd (max (max (p1.length:Int) (p2.length:Int)) 1))),(10,(.dat (.lst ((List.map Qc) v7)))),(11,(.dat (.lst ((List.map Qc) v9))))],[(.box [(.dat (.lst ((List.map Qc) []))),(.dat (.lst ((List.map Qc) []))),(.dat (.lst ((List.map Qc) []))),(.dat (.lst ((List.map Qc) []))),(Qd 0),(Qd 0),(.dat (.lst ((List.map Qc) [])))])]⟩) ?_ (fun d=>?_)
 ·replace hm:=hs
  clear hs
  refine Qx hm (rfl) (fun hm=>?_) (fun hm=>?_)
  ·refine R_G (Qb 2 ?_)
   obtain ⟨v10,hx,hm⟩:=Qf hm
   have hq:=QdA _ _ hx []
   refine Qr hq ?_
   refine Qb 1 (Qg ?_)
   obtain rfl:=Qq hm
   exact Qm
  refine Qs ?_
  obtain rfl:=Qq hm
  exact Qm
 clear hs
 refine Qe (Qe (R_G (Qb 1 (Qg (Qz ?_)))))
 obtain ⟨out,hs,hm⟩:=Qf hm
 refine QT ?_
 rcases out with _|_
 ·refine RL_use (XN _ _ hs) (by kernel_rfl) ?_
  clear hs
  intro e s hp
  obtain ⟨rfl,d,rfl⟩:=hp
  obtain ⟨rfl,rfl⟩:=Zn hm
  exact ⟨trivial,Qk⟩
 ·refine RL_use (XN _ _ hs) (by kernel_rfl) ?_
  clear hs
  intro e s hp
  obtain ⟨rfl,d,rfl⟩:=hp
  refine Qe ?_
  refine YM ?_
  refine Qb 4 ?_
  refine QF 1 Qc hm rfl (fun _=>rfl) (fun v614 hm=>?_)
  refine Qb 3 ?_
  refine QF 1 Qc hm rfl (fun _=>rfl) (fun v615 hm=>?_)
  refine Qb 2 ?_
  obtain ⟨v616,hx,hm⟩:=Qf hm
  have hq:=QdA _ _ hx []
  refine Qr hq ?_
  refine Qb 1 ?_
  refine Qg ⟨by kernel_rfl,?_⟩
  refine Qe (Qe (R_G (Qb 1 ?_)))
  obtain ⟨v617,hx,hm⟩:=Qf hm
  have hq:=XJ _ _ hx []
  refine Qr hq ?_
  refine Qb 1 (Qg ?_)
  refine Qx hm (ne_dec _ _) (fun hm=>?_) (fun hm=>?_)
  ·refine Qe (R_G (Qb 3 (Qg (Qt ?_))))
   obtain ⟨rfl,rfl⟩:=Zn hm
   exact ⟨trivial,Qk⟩
  refine Qs (Qe (R_G (Qb 7 (Qg (Qt ?_)))))
  obtain ⟨rfl,rfl⟩:=Zn hm
  exact ⟨trivial,Qk⟩
def Y5 (x:((List Qn) × (List Ql) × Qh)):Option (Qa × (List Ql) × Int) :=
 match x with
 | (p0,p1,p2) =>
 if p2.kind≤2 then
  QaV (p0,p1,p2)>>=fun ((v1,v2,v3):(Qa × (List Ql) × Int)) =>
  some (v1,v2,v3)
 else
 idx p2.kids (W ((p2.kids.length:Int) - 1))>>=fun v4 =>
 Y5 (p0,p1,v4)>>=fun ((v5,v6,v7):(Qa × (List Ql) × Int)) =>
 if v7≠0 then
  some ((⟨0,([]:(List Int)),0,([]:(List Int)),0,0,([]:(List Int)),([]:(List Qa))⟩:Qa),([]:(List Ql)),v7)
 else
 (if p2.kind=3 then
  some true
 else
 some (p2.fn != 6)
 )>>=fun (v8:Bool) =>
 if v8=true then
  Qbq (p0,(⟨p2.kind,p2.fn,p2.axis,p2.name,p2.nums,p2.kids⟩:Qh),(⟨v5.kind,v5.shape,v5.buffer,v5.starts,v5.axis,v5.amount,v5.perm,v5.kids⟩:Qa))>>=fun ((v9,v10):(Qa × Int)) =>
  some (v9,v6,v10)
 else
 idx p2.kids 0>>=fun v11 =>
 Y5 (p0,v6,v11)>>=fun ((v12,v13,v14):(Qa × (List Ql) × Int)) =>
 if v14≠0 then
  some ((⟨0,([]:(List Int)),0,([]:(List Int)),0,0,([]:(List Int)),([]:(List Qa))⟩:Qa),([]:(List Ql)),v14)
 else
 XS (p2.axis,v12.shape,v5.shape)>>=fun ((v15,v16):(Qu × Int)) =>
 if v16≠0 then
  some ((⟨0,([]:(List Int)),0,([]:(List Int)),0,0,([]:(List Int)),([]:(List Qa))⟩:Qa),([]:(List Ql)),v16)
 else
 Z1 ((⟨v12.kind,v12.shape,v12.buffer,v12.starts,v12.axis,v12.amount,v12.perm,v12.kids⟩:Qa),v15.left)>>=fun (v17:Qa) =>
 Z1 ((⟨v5.kind,v5.shape,v5.buffer,v5.starts,v5.axis,v5.amount,v5.perm,v5.kids⟩:Qa),v15.right)>>=fun (v18:Qa) =>
 some ((⟨7,v15.shape,0,([]:(List Int)),v15.axis,0,([]:(List Int)),([(⟨v17.kind,v17.shape,v17.buffer,v17.starts,v17.axis,v17.amount,v17.perm,v17.kids⟩:Qa),(⟨v18.kind,v18.shape,v18.buffer,v18.starts,v18.axis,v18.amount,v18.perm,v18.kids⟩:Qa)]:(List Qa))⟩:Qa),v13,0)
 partial_fixpoint
def QbH:((List Qn) × (List Ql) × Qh)→(Qa × (List Ql) × Int)→Prop:=fun x r=>match x,r with
 | (p0,p1,p2),(r0,r1,r2)=>∀ H,PC prog env 34 ([(.lst ((List.map Qn.toD) p0)),(.lst ((List.map Ql.toD) p1)),(Qh.ex p2)].map .dat) H (.tup [(.dat (Qa.ex r0)),(.dat (.lst ((List.map Ql.toD) r1))),(Qd r2)]) H
theorem g_ref15_expr:(∀ x r,Y5 x=some r→QbH x r):=by
 refine Y5.partial_correctness QbH ?_
 ·intro Y5 QbI x r hm
  unfold QbH
  obtain ⟨p0,p1,p2⟩:=x
  obtain ⟨r0,r1,r2⟩:=r
  intro H
  refine PC_sx (ds:=[(.lst ((List.map Qn.toD) p0)),(.lst ((List.map Ql.toD) p1)),(Qh.ex p2)]) (fn:=f34) rfl ?_
  refine Qe (R_G (Qb 4 (Qg (Qe (Qe (R_G (Qb 3 (Qg ?_))))))))
  refine Qx hm (rfl) (fun hm=>?_) (fun hm=>?_)
  ·refine Qe (R_G (Qb 3 ?_))
   obtain ⟨⟨v1,v2,v3⟩,hx,hm⟩:=Qf hm
   have hq:=QfJ _ _ hx []
   refine Qr hq ?_
   refine Qb 6 (Qg (Qt ?_))
   obtain ⟨rfl,rfl,rfl⟩:=J3 hm
   exact ⟨trivial,Qk⟩
  refine Qs (Qe (R_G (Qb 6 ?_)))
  refine QG Qh.toD p2.kids (es:=Qh.toDs p2.kids) (Qh.toDs_eq _) ?_
  refine Qb 1 ?_
  obtain ⟨v4,hx,hm⟩:=Qf hm
  refine Y2 6 Qh.toD p2.kids (W ((p2.kids.length:Int) - 1)) v4 (es:=Qh.toDs p2.kids) (d:=(Qh.ex v4)) (Qh.toDs_eq _) hx (Qh.toD_eq v4) rfl ?_
  refine Qb 1 ?_
  obtain ⟨⟨v5,v6,v7⟩,hx,hm⟩:=Qf hm
  have hq:=QbI _ _ hx []
  refine Qr hq ?_
  refine Qb 8 (Qg (Qe (Qe (R_G (Qb 2 (Qg ?_))))))
  refine Qx hm (ne_dec _ _) (fun hm=>?_) (fun hm=>?_)
  ·refine Qe (R_G (Qb 5 (Qg (Qt ?_))))
   obtain ⟨rfl,rfl,rfl⟩:=J3 hm
   exact ⟨trivial,Qk⟩
  refine Qs (Qe (Qe ?_))
  obtain ⟨v8,hs,hm⟩:=Qf hm
  refine Q7 (fun d=>⟨sl d 106 [(0,(.dat (.lst ((List.map Qn.toD) p0)))),(1,(.dat (.lst ((List.map Ql.toD) v6)))),(5,(.ptr 0 0)),(6,(.ptr 1 0)),(9,(.ptr 2 0)),(51,(Qp v8))],[(.box [(Qd p2.kind),(Qd p2.fn),(Qd p2.axis),(.dat (strD p2.name)),(.dat (.lst ((List.map Qc) p2.nums))),(.dat (.lst (Qh.toDs p2.kids)))]),(.box [(Qd 0),(.dat (.lst ((List.map Qc) []))),(Qd 0),(.dat (.lst ((List.map Qc) []))),(Qd 0),(Qd 0),(.dat (.lst ((List.map Qc) []))),(.dat (.lst (Qa.toDs [])))]),(.box [(Qd v5.kind),(.dat (.lst ((List.map Qc) v5.shape))),(Qd v5.buffer),(.dat (.lst ((List.map Qc) v5.starts))),(Qd v5.axis),(Qd v5.amount),(.dat (.lst ((List.map Qc) v5.perm))),(.dat (.lst (Qa.toDs v5.kids)))])]⟩) ?_ (fun d=>?_)
  ·replace hm:=hs
   clear hs
   refine R_G (Qb 4 ?_)
   refine Qy 47 hm (QO _ _) (fun hm=>?_) (fun hm=>?_)
   ·refine Qb 4 (Qg ?_)
    obtain rfl:=Qq hm
    exact Qm
   refine Qb 4 (Qg ?_)
   obtain rfl:=Qq hm
   exact Qm
  clear hs
  refine Qx hm (QC _) (fun hm=>?_) (fun hm=>?_)
  ·refine Qe (R_G (Qb 3 ?_))
   obtain ⟨⟨v9,v10⟩,hx,hm⟩:=Qf hm
   have hq:=QfW _ _ hx []
   refine Qr hq ?_
   refine Qb 6 (Qg (Qe (R_G (Qb 6 (Qg (Qt ?_))))))
   obtain ⟨rfl,rfl,rfl⟩:=J3 hm
   exact ⟨trivial,Qk⟩
  refine Qs (Qe (R_G (Qb 4 ?_)))
  obtain ⟨v11,hx,hm⟩:=Qf hm
  refine Y2 6 Qh.toD p2.kids 0 v11 (es:=Qh.toDs p2.kids) (d:=(Qh.ex v11)) (Qh.toDs_eq _) hx (Qh.toD_eq v11) rfl ?_
  refine Qb 1 ?_
  obtain ⟨⟨v12,v13,v14⟩,hx,hm⟩:=Qf hm
  have hq:=QbI _ _ hx []
  refine Qr hq ?_
  refine Qb 8 (Qg (Qe (Qe (R_G (Qb 2 (Qg ?_))))))
  refine Qx hm (ne_dec _ _) (fun hm=>?_) (fun hm=>?_)
  ·refine Qe (R_G (Qb 5 (Qg (Qt ?_))))
   obtain ⟨rfl,rfl,rfl⟩:=J3 hm
   exact ⟨trivial,Qk⟩
  refine Qs (Qe (R_G (Qb 6 ?_)))
  obtain ⟨⟨v15,v16⟩,hx,hm⟩:=Qf hm
  have hq:=QeP _ _ hx []
  refine Qr hq ?_
  refine Qb 6 (Qg (Qe (Qe (R_G (Qb 2 (Qg ?_))))))
  refine Qx hm (ne_dec _ _) (fun hm=>?_) (fun hm=>?_)
  ·refine Qe (R_G (Qb 5 (Qg (Qt ?_))))
   obtain ⟨rfl,rfl,rfl⟩:=J3 hm
   exact ⟨trivial,Qk⟩
  refine Qs (Qe ?_)
  refine YM ?_
  refine Qb 7 ?_
  obtain ⟨v17,hx,hm⟩:=Qf hm
  have hq:=Xz _ _ hx []
  refine Qr hq ?_
  refine Qb 3 ?_
  obtain ⟨v18,hx,hm⟩:=Qf hm
  have hq:=Xz _ _ hx []
  refine Qr hq ?_
  refine Qb 6 ?_
  refine Qg ⟨by kernel_rfl,?_⟩
  refine Qt ?_
  obtain ⟨rfl,rfl,rfl⟩:=J3 hm
  exact ⟨trivial,Qk⟩
theorem QbI:∀ x r,Y5 x=some r→QbH x r:=g_ref15_expr
def QbM (x:((List Qn) × Qh)):Option (Qv × Int) :=
 match x with
 | (p0,p1) =>
 Y5 (p0,([]:(List Ql)),(⟨p1.kind,p1.fn,p1.axis,p1.name,p1.nums,p1.kids⟩:Qh))>>=fun ((v1,v2,v3):(Qa × (List Ql) × Int)) =>
 if v3≠0 then
  some ((⟨(⟨0,([]:(List Int)),0,([]:(List Int)),0,0,([]:(List Int)),([]:(List Qa))⟩:Qa),([]:(List Ql))⟩:Qv),v3)
 else
 some ((⟨v1,v2⟩:Qv),0)
def QeJ:((List Qn) × Qh)→(Qv × Int)→Prop:=fun x r=>match x,r with
 | (p0,p1),(r0,r1)=>∀ H,PC prog env 15 ([(.lst ((List.map Qn.toD) p0)),(Qh.ex p1)].map .dat) H (.tup [(.dat (Qv.toD r0)),(Qd r1)]) H
theorem QfF:∀ x r,QbM x=some r→QeJ x r:=by
 intro x r hm
 unfold QbM at hm
 unfold QeJ
 obtain ⟨p0,p1⟩:=x
 obtain ⟨r0,r1⟩:=r
 intro H
 refine PC_sx (ds:=[(.lst ((List.map Qn.toD) p0)),(Qh.ex p1)]) (fn:=f15) rfl ?_
 refine Qe (R_G (Qb 3 (Qg (Qe (R_G (Qb 2 ?_))))))
 obtain ⟨⟨v1,v2,v3⟩,hx,hm⟩:=Qf hm
 have hq:=QbI _ _ hx []
 refine Qr hq ?_
 refine Qb 8 (Qg (Qe (Qe (R_G (Qb 2 (Qg ?_))))))
 refine Qx hm (ne_dec _ _) (fun hm=>?_) (fun hm=>?_)
 ·refine Qe (R_G (Qb 4 (Qg (Qt ?_))))
  obtain ⟨rfl,rfl⟩:=Zn hm
  exact ⟨trivial,Qk⟩
 refine Qs (Qe (R_G (Qb 5 (Qg (Qt ?_)))))
 obtain ⟨rfl,rfl⟩:=Zn hm
 exact ⟨trivial,Qk⟩
def Z9 (x:(Qv × (List (List Int)) × Int)):Option ((List (List Int))) :=
 match x with
 | (p0,v201,v202) =>
 if v202 < (p0.sources.length:Int) then
  idx p0.sources v202>>=fun v602 =>
  app 24 v201 ([v602.value.shape]:List (List Int))>>=fun v603 =>
  Z9 (p0,v603,(W (v202+1)))
 else
 some v201
 partial_fixpoint
def Qcn:(Qv × (List (List Int)) × Int)→(List (List Int))→Prop:=fun x r=>match x with
 | (p0,v201,v202)=>∀ st,prune 2 ((Qw (QD [1,1,0,1,0,0] (QE f65))).bind (env.hint 65).keepAt) st=⟨kp 23 [(1,(.ptr 0 0)),(3,(.vec 1 ((List.map (fun l=>Dat.lst ((List.map Qc) l))) v201))),(4,(Qd v202))],[(.box [(Qd p0.core.kind),(.dat (.lst ((List.map Qc) p0.core.shape))),(Qd p0.core.buffer),(.dat (.lst ((List.map Qc) p0.core.starts))),(Qd p0.core.axis),(Qd p0.core.amount),(.dat (.lst ((List.map Qc) p0.core.perm))),(.dat (.lst (Qa.toDs p0.core.kids))),(.dat (.lst ((List.map Ql.toD) p0.sources)))]),(.tok 27 v201.length)]⟩ →
  RL prog env (env.hint 65) true (QD [1,1,0,1,0,0] (QE f65)) 2 st (fun e s=>match r with|v601=>e=.exit 0∧∃ d,s=⟨sl d 23 [(3,(.vec 1 ((List.map (fun l=>Dat.lst ((List.map Qc) l))) v601)))],[(.box [(Qd p0.core.kind),(.dat (.lst ((List.map Qc) p0.core.shape))),(Qd p0.core.buffer),(.dat (.lst ((List.map Qc) p0.core.starts))),(Qd p0.core.axis),(Qd p0.core.amount),(.dat (.lst ((List.map Qc) p0.core.perm))),(.dat (.lst (Qa.toDs p0.core.kids))),(.dat (.lst ((List.map Ql.toD) p0.sources)))]),(.tok 27 v601.length)]⟩)
theorem QaK:∀ x r,Z9 x=some r→Qcn x r:=by
 refine Z9.partial_correctness _ (fun Z9 QaK x r hm=>?_)
 unfold Qcn
 obtain ⟨p0,v201,v202⟩:=x
 intro st hst
 refine RL_at hst ?_
 clear hst
 refine Qe (Qe (R_G (Qb 3 ?_)))
 refine QG Ql.toD p0.sources (es:=(List.map Ql.toD) p0.sources) rfl ?_
 refine Qb 1 (Qg ?_)
 refine Qx hm (rfl) (fun hm=>?_) (fun hm=>?_)
 ·refine Qs (Qe (Qz (R_G (Qb 4 ?_))))
  refine QF 3 Ql.toD hm rfl (fun _=>rfl) (fun v602 hm=>?_)
  refine Qb 4 ?_
  obtain ⟨v603,hx,hm⟩:=Qf hm
  refine YZ 27 1 24 1 (fun l=>Dat.lst ((List.map Qc) l)) v201 ([v602.value.shape]:List (List Int)) v603 (xs:=(List.map (fun l=>Dat.lst ((List.map Qc) l))) v201) (es:=(List.map (fun l=>Dat.lst ((List.map Qc) l))) ([v602.value.shape]:List (List Int))) (L:=(List.map (fun l=>Dat.lst ((List.map Qc) l)))) (fun _=>rfl) rfl rfl (fun _=>rfl) hx ?_
  refine Qb 1 (Qg (R_G (Qb 3 (Qg ?_))))
  exact QaK _ _ hm _ (by kernel_rfl)
 refine QP ?_
 obtain rfl:=Qq hm
 exact ⟨rfl,Qm⟩
def JB (x:Qv):Option (List (List Int)) :=
 match x with
 | p0 =>
 Z9 (p0,([]:List (List Int)),0)>>=fun (v601:(List (List Int))) =>
 some v601
def Qdx:Qv→(List (List Int))→Prop:=fun x r=>match x,r with
 | p0,r0=>∀ H,PC prog env 65 ([(Qv.toD p0)].map .dat) H (.dat (.lst ((List.map (fun l=>Dat.lst ((List.map Qc) l))) r0))) H
theorem Qfj:∀ x r,JB x=some r→Qdx x r:=by
 intro p0 r0 hm
 unfold JB at hm
 unfold Qdx
 intro H
 refine PC_sx (ds:=[(Qv.toD p0)]) (fn:=f65) rfl ?_
 refine Qe (R_G (Qb 2 (Qg (Qe (R_G (Qb 1 (Qg (Qe (Qe (R_G (Qb 1 ?_)))))))))))
 refine Qg (Qz ?_)
 obtain ⟨v601,hs,hm⟩:=Qf hm
 refine QT ?_
 refine RL_use (QaK _ _ hs) (by kernel_rfl) ?_
 clear hs
 intro e s hp
 obtain ⟨rfl,d,rfl⟩:=hp
 refine Qe (R_G (Qb 2 (Qg (Qt ?_))))
 obtain rfl:=Qq hm
 exact ⟨trivial,Qk⟩
mutual
def ZR (x:(Qa × Int × Int)):Option (Int) :=
 match x with
 | (p0,v203,v204) =>
 (if v204 < (p0.kids.length:Int) then
  some (decide (v203≥0))
 else
 some false
 )>>=fun (v604:Bool) =>
 if v604=true then
  idx p0.kids v204>>=fun v605 =>
  Jc (v605,v203)>>=fun (v606:Int) =>
  ZR (p0,v606,(W (v204+1)))
 else
 some v203
 partial_fixpoint
def Jc (x:(Qa × Int)):Option Int :=
 match x with
 | (p0,p1) =>
 ((if (p0.shape.length:Int) > 40 then
  some true
 else
 some (decide ((p0.starts.length:Int) > 40))
 )>>=fun (v2:Bool) =>
 if v2=true then
  some true
 else
 some (decide ((p0.perm.length:Int) > 40))
 )>>=fun (v1:Bool) =>
 if v1=true then
  some (-1)
 else
 ZR (p0,(W (p1 - 1)),0)>>=fun (v603:Int) =>
 some v603
 partial_fixpoint
end
def Qak:(Qa × Int × Int)→Int→Prop:=fun x r=>match x with
 | (p0,v203,v204)=>∀ st,prune 1 ((Qw (QD [1,1,1,0,1,0,0] (QE f116))).bind (env.hint 116).keepAt) st=⟨kp 43 [(1,(Qd v203)),(2,(.ptr 0 0)),(5,(Qd v204))],[(.box [(Qd p0.kind),(.dat (.lst ((List.map Qc) p0.shape))),(Qd p0.buffer),(.dat (.lst ((List.map Qc) p0.starts))),(Qd p0.axis),(Qd p0.amount),(.dat (.lst ((List.map Qc) p0.perm))),(.dat (.lst (Qa.toDs p0.kids)))])]⟩ →
  RL prog env (env.hint 116) true (QD [1,1,1,0,1,0,0] (QE f116)) 1 st (fun e s=>match r with|v603=>e=.exit 0∧∃ d,s=⟨sl d 43 [(1,(Qd v603))],[(.box [(Qd p0.kind),(.dat (.lst ((List.map Qc) p0.shape))),(Qd p0.buffer),(.dat (.lst ((List.map Qc) p0.starts))),(Qd p0.axis),(Qd p0.amount),(.dat (.lst ((List.map Qc) p0.perm))),(.dat (.lst (Qa.toDs p0.kids)))])]⟩)
def QbL:(Qa × Int)→Int→Prop:=fun x r=>match x,r with
 | (p0,p1),r0=>∀ H,PC prog env 116 ([(Qa.ex p0),(Qc p1)].map .dat) H (Qd r0) H
theorem g_ref14_left_L1:(∀ x r,ZR x=some r→Qak x r)∧(∀ x r,Jc x=some r→QbL x r):=by
 refine ZR.mutual_partial_correctness Qak QbL ?_ ?_
 ·intro ZR Jc Qad QcU x r hm
  unfold Qak
  obtain ⟨p0,v203,v204⟩:=x
  intro st hst
  refine RL_at hst ?_
  clear hst
  refine Qe (Qe ?_)
  obtain ⟨v604,hs,hm⟩:=Qf hm
  refine Q7 (fun d=>⟨sl d 43 [(1,(Qd v203)),(2,(.ptr 0 0)),(5,(Qd v204)),(32,(Qp v604))],[(.box [(Qd p0.kind),(.dat (.lst ((List.map Qc) p0.shape))),(Qd p0.buffer),(.dat (.lst ((List.map Qc) p0.starts))),(Qd p0.axis),(Qd p0.amount),(.dat (.lst ((List.map Qc) p0.perm))),(.dat (.lst (Qa.toDs p0.kids)))])]⟩) ?_ (fun d=>?_)
  ·replace hm:=hs
   clear hs
   refine R_G (Qb 3 ?_)
   refine QG Qa.toD p0.kids (es:=Qa.toDs p0.kids) (Qa.toDs_eq _) ?_
   refine Qb 2 ?_
   refine Qy 29 hm (rfl) (fun hm=>?_) (fun hm=>?_)
   ·refine Qb 3 (Qg ?_)
    obtain rfl:=Qq hm
    exact Qm
   refine Qb 3 (Qg ?_)
   obtain rfl:=Qq hm
   exact Qm
  clear hs
  refine Qx hm (QC _) (fun hm=>?_) (fun hm=>?_)
  ·refine Qs (Qe (Qz (R_G (Qb 3 ?_))))
   obtain ⟨v605,hx,hm⟩:=Qf hm
   refine Y2 8 Qa.toD p0.kids v204 v605 (es:=Qa.toDs p0.kids) (d:=(Qa.ex v605)) (Qa.toDs_eq _) hx (Qa.toD_eq v605) rfl ?_
   refine Qb 2 ?_
   obtain ⟨v606,hx,hm⟩:=Qf hm
   have hq:=QcU _ _ hx []
   refine Qr hq ?_
   refine Qb 1 (Qg (R_G (Qb 3 (Qg ?_))))
   exact Qad _ _ hm _ (by kernel_rfl)
  refine QP ?_
  obtain rfl:=Qq hm
  exact ⟨rfl,Qm⟩
 ·intro ZR Qad x r0 hm
  unfold QbL
  obtain ⟨p0,p1⟩:=x
  intro H
  refine PC_sx (ds:=[(Qa.ex p0),(Qc p1)]) (fn:=f116) rfl ?_
  refine Qe (R_G (Qb 2 (Qg (Qe (R_G (Qb 3 (Qg (Qe (Qe ?_)))))))))
  obtain ⟨v1,hs,hm⟩:=Qf hm
  refine Q7 (fun d=>⟨sl d 43 [(1,(Qd (W (p1 - 1)))),(2,(.ptr 0 0)),(23,(Qp v1))],[(.box [(Qd p0.kind),(.dat (.lst ((List.map Qc) p0.shape))),(Qd p0.buffer),(.dat (.lst ((List.map Qc) p0.starts))),(Qd p0.axis),(Qd p0.amount),(.dat (.lst ((List.map Qc) p0.perm))),(.dat (.lst (Qa.toDs p0.kids)))])]⟩) ?_ (fun d=>?_)
  ·replace hm:=hs
   clear hs
   refine Qdd ?_
   refine Qb 2 ?_
   refine QG Qc p0.shape (es:=(List.map Qc) p0.shape) rfl ?_
   refine Qb 2 ?_
   obtain ⟨v2,hs,hm⟩:=Qf hm
   refine ZS (j:=10) (fun d=>⟨sl d 43 [(1,(Qd (W (p1 - 1)))),(2,(.ptr 0 0)),(17,(Qp v2))],[(.box [(Qd p0.kind),(.dat (.lst ((List.map Qc) p0.shape))),(Qd p0.buffer),(.dat (.lst ((List.map Qc) p0.starts))),(Qd p0.axis),(Qd p0.amount),(.dat (.lst ((List.map Qc) p0.perm))),(.dat (.lst (Qa.toDs p0.kids)))])]⟩) (fun d=>?_) (fun hJ=>?_)
   ·clear hs
    refine Qb 1 ?_
    refine Qy 18 hm (QC _) (fun hm=>?_) (fun hm=>?_)
    ·refine Qb 5 ?_
     refine Qg ⟨by kernel_rfl,?_⟩
     obtain rfl:=Qq hm
     exact Qm
    refine Qb 2 ?_
    refine QG Qc p0.perm (es:=(List.map Qc) p0.perm) rfl ?_
    refine Qb 2 ?_
    refine Qg ⟨by kernel_rfl,?_⟩
    obtain rfl:=Qq hm
    exact Qm
   clear hm
   refine Qy 12 hs (rfl) (fun hm=>?_) (fun hm=>?_)
   ·refine Qb 5 ?_
    obtain rfl:=Qq hm
    exact hJ _ _
   refine Qb 2 ?_
   refine QG Qc p0.starts (es:=(List.map Qc) p0.starts) rfl ?_
   refine Qb 2 ?_
   obtain rfl:=Qq hm
   exact hJ _ _
  clear hs
  refine Qx hm (QC _) (fun hm=>?_) (fun hm=>?_)
  ·refine Qe (R_G (Qb 1 (Qg (Qt ?_))))
   obtain rfl:=Qq hm
   exact ⟨trivial,Qk⟩
  refine Qs (Qe (Qe (R_G (Qb 1 (Qg (Qz ?_))))))
  obtain ⟨v603,hs,hm⟩:=Qf hm
  refine QT ?_
  refine RL_use (Qad _ _ hs) (by kernel_rfl) ?_
  clear hs
  intro e s hp
  obtain ⟨rfl,d,rfl⟩:=hp
  refine Qe (R_G (Qb 2 (Qg (Qt ?_))))
  obtain rfl:=Qq hm
  exact ⟨trivial,Qk⟩
theorem Qad:∀ x r,ZR x=some r→Qak x r:=g_ref14_left_L1.1
theorem QcU:∀ x r,Jc x=some r→QbL x r:=g_ref14_left_L1.2
def Qbr (x:(Qa × Int)):Option Bool :=
 match x with
 | (p0,p1) =>
 Jc (p0,p1)>>=fun (v1:Int) =>
 some (decide (v1≥0))
def Qe4:(Qa × Int)→Bool→Prop:=fun x r=>match x,r with
 | (p0,p1),r0=>∀ H,PC prog env 95 ([(Qa.ex p0),(Qc p1)].map .dat) H (Qp r0) H
theorem QfP:∀ x r,Qbr x=some r→Qe4 x r:=by
 intro x r0 hm
 unfold Qbr at hm
 unfold Qe4
 obtain ⟨p0,p1⟩:=x
 intro H
 refine PC_sx (ds:=[(Qa.ex p0),(Qc p1)]) (fn:=f95) rfl ?_
 refine Qe (R_G (Qb 2 (Qg (Qe (R_G (Qb 2 ?_))))))
 obtain ⟨v1,hx,hm⟩:=Qf hm
 have hq:=QcU _ _ hx []
 refine Qr hq ?_
 refine Qb 2 (Qg (Qt ?_))
 obtain rfl:=Qq hm
 exact ⟨trivial,Qk⟩
mutual
def ZG (x:(Qa × Int × Int)):Option (Int) :=
 match x with
 | (p0,v201,v202) =>
 if v202 < (p0.kids.length:Int) then
  idx p0.kids v202>>=fun v602 =>
  XH v602>>=fun (v603:Int) =>
  ZG (p0,(if v201 < v603 then v603 else v201),(W (v202+1)))
 else
 some v201
 partial_fixpoint
def XH (x:Qa):Option Int :=
 match x with
 | p0 =>
 ZG (p0,0,0)>>=fun (v601:Int) =>
 some (W (v601+1))
 partial_fixpoint
end
def JP:(Qa × Int × Int)→Int→Prop:=fun x r=>match x with
 | (p0,v201,v202)=>∀ st,prune 1 ((Qw (QD [1,1,0,1,0,0] (QE f117))).bind (env.hint 117).keepAt) st=⟨kp 22 [(1,(.ptr 0 0)),(3,(Qd v201)),(4,(Qd v202))],[(.box [(Qd p0.kind),(.dat (.lst ((List.map Qc) p0.shape))),(Qd p0.buffer),(.dat (.lst ((List.map Qc) p0.starts))),(Qd p0.axis),(Qd p0.amount),(.dat (.lst ((List.map Qc) p0.perm))),(.dat (.lst (Qa.toDs p0.kids)))])]⟩ →
  RL prog env (env.hint 117) true (QD [1,1,0,1,0,0] (QE f117)) 1 st (fun e s=>match r with|v601=>e=.exit 0∧∃ d,s=⟨sl d 22 [(3,(Qd v601))],[(.box [(Qd p0.kind),(.dat (.lst ((List.map Qc) p0.shape))),(Qd p0.buffer),(.dat (.lst ((List.map Qc) p0.starts))),(Qd p0.axis),(Qd p0.amount),(.dat (.lst ((List.map Qc) p0.perm))),(.dat (.lst (Qa.toDs p0.kids)))])]⟩)
def Qbd:Qa→Int→Prop:=fun x r=>match x,r with
 | p0,r0=>∀ H,PC prog env 117 ([(Qa.ex p0)].map .dat) H (Qd r0) H
theorem g_ref14_Depth_L1:(∀ x r,ZG x=some r→JP x r)∧(∀ x r,XH x=some r→Qbd x r):=by
 refine ZG.mutual_partial_correctness JP Qbd ?_ ?_
 ·intro ZG XH JY Qcp x r hm
  unfold JP
  obtain ⟨p0,v201,v202⟩:=x
  intro st hst
  refine RL_at hst ?_
  clear hst
  refine Qe (Qe (R_G (Qb 3 ?_)))
  refine QG Qa.toD p0.kids (es:=Qa.toDs p0.kids) (Qa.toDs_eq _) ?_
  refine Qb 1 (Qg ?_)
  refine Qx hm (rfl) (fun hm=>?_) (fun hm=>?_)
  ·refine Qs (Qe (Qz (R_G (Qb 4 ?_))))
   obtain ⟨v602,hx,hm⟩:=Qf hm
   refine Y2 8 Qa.toD p0.kids v202 v602 (es:=Qa.toDs p0.kids) (d:=(Qa.ex v602)) (Qa.toDs_eq _) hx (Qa.toD_eq v602) rfl ?_
   refine Qb 1 ?_
   obtain ⟨v603,hx,hm⟩:=Qf hm
   have hq:=Qcp _ _ hx []
   refine Qr hq ?_
   refine QL rfl (fun _=>QfU (k:=.i64) (m:=v201) (n:=v603) rfl (by kernel_rfl) (by kernel_rfl)) ?_
   refine Qb 1 (Qg (R_G (Qb 3 (Qg ?_))))
   exact JY _ _ hm _ (by kernel_rfl)
  refine QP ?_
  obtain rfl:=Qq hm
  exact ⟨rfl,Qm⟩
 ·intro ZG JY p0 r0 hm
  unfold Qbd
  intro H
  refine PC_sx (ds:=[(Qa.ex p0)]) (fn:=f117) rfl ?_
  refine Qe (R_G (Qb 2 (Qg (Qe (R_G (Qb 1 (Qg (Qe (Qe (R_G (Qb 1 ?_)))))))))))
  refine Qg (Qz ?_)
  obtain ⟨v601,hs,hm⟩:=Qf hm
  refine QT ?_
  refine RL_use (JY _ _ hs) (by kernel_rfl) ?_
  clear hs
  intro e s hp
  obtain ⟨rfl,d,rfl⟩:=hp
  refine Qe (R_G (Qb 3 (Qg (Qt ?_))))
  obtain rfl:=Qq hm
  exact ⟨trivial,Qk⟩
theorem JY:∀ x r,ZG x=some r→JP x r:=g_ref14_Depth_L1.1
theorem Qcp:∀ x r,XH x=some r→Qbd x r:=g_ref14_Depth_L1.2
def Jp (x:Qa):Option Bool :=
 match x with
 | p0 =>
 idx p0.kids 0>>=fun v1 =>
 Ys (v1.shape,p0.shape)>>=fun (v2:Bool) =>
 (if v2=true then
  some (decide (p0.axis≥0))
 else
 some false
 )>>=fun (v3:Bool) =>
 if v3=true then
  some (decide (p0.axis < (p0.shape.length:Int)))
 else
 some false
def QdU:Qa→Bool→Prop:=fun x r=>match x,r with
 | p0,r0=>∀ H,PC prog env 128 ([(Qa.ex p0)].map .dat) H (Qp r0) H
theorem QdP:∀ x r,Jp x=some r→QdU x r:=by
 intro p0 r0 hm
 unfold Jp at hm
 unfold QdU
 intro H
 refine PC_sx (ds:=[(Qa.ex p0)]) (fn:=f128) rfl ?_
 refine Qe (R_G (Qb 2 (Qg (Qe ?_))))
 refine Qgd ?_
 refine Qb 2 ?_
 obtain ⟨v1,hx,hm⟩:=Qf hm
 refine Y2 8 Qa.toD p0.kids 0 v1 (es:=Qa.toDs p0.kids) (d:=(Qa.ex v1)) (Qa.toDs_eq _) hx (Qa.toD_eq v1) rfl ?_
 refine Qb 4 ?_
 obtain ⟨v2,hx,hm⟩:=Qf hm
 have hq:=Qbm _ _ hx []
 refine Qr hq ?_
 refine Qb 1 ?_
 obtain ⟨v3,hs,hm⟩:=Qf hm
 refine ZS (j:=13) (fun d=>⟨sl d 24 [(1,(.ptr 0 0)),(2,(Qp false)),(15,(Qp v3))],[(.box [(Qd p0.kind),(.dat (.lst ((List.map Qc) p0.shape))),(Qd p0.buffer),(.dat (.lst ((List.map Qc) p0.starts))),(Qd p0.axis),(Qd p0.amount),(.dat (.lst ((List.map Qc) p0.perm))),(.dat (.lst (Qa.toDs p0.kids)))])]⟩) (fun d=>?_) (fun hJ=>?_)
 ·clear hs
  refine Qb 1 ?_
  refine Qy 16 hm (QC _) (fun hm=>?_) (fun hm=>?_)
  ·refine Qb 4 ?_
   refine QG Qc p0.shape (es:=(List.map Qc) p0.shape) rfl ?_
   refine Qb 3 ?_
   refine Qg ⟨by kernel_rfl,?_⟩
   refine Qt ?_
   obtain rfl:=Qq hm
   exact ⟨trivial,Qk⟩
  refine Qb 8 ?_
  refine Qg ⟨by kernel_rfl,?_⟩
  refine Qt ?_
  obtain rfl:=Qq hm
  exact ⟨trivial,Qk⟩
 clear hm
 refine Qy 11 hs (QC _) (fun hm=>?_) (fun hm=>?_)
 ·refine Qb 4 ?_
  obtain rfl:=Qq hm
  exact hJ _ _
 refine Qb 4 ?_
 obtain rfl:=Qq hm
 exact hJ _ _
def Zd (x:(Qa × Qa × Int)):Option (Unit ⊕ Unit) :=
 match x with
 | (v1,p0,v202) =>
 if v202 < (v1.shape.length:Int) then
  (idx p0.perm v202>>=fun v603 =>
  if v603 < 0 then
   some true
  else
  idx p0.perm v202>>=fun v604 =>
  some (decide (v604≥(p0.shape.length:Int)))
  )>>=fun (v602:Bool) =>
  if v602=true then
   some (Sum.inl ())
  else
  Zd (v1,p0,(W (v202+1)))
 else
 some (Sum.inr ())
 partial_fixpoint
def QaY:(Qa × Qa × Int)→(Unit ⊕ Unit)→Prop:=fun x r=>match x with
 | (v1,p0,v202)=>∀ st,prune 1 ((Qw (QD [1,1,1,0,1,0,0] (QE f129))).bind (env.hint 129).keepAt) st=⟨kp 85 [(1,(.ptr 0 0)),(3,(.dat (.lst ((List.map Qc) v1.shape)))),(4,(Qd v202))],[(.box [(Qd p0.kind),(.dat (.lst ((List.map Qc) p0.shape))),(Qd p0.buffer),(.dat (.lst ((List.map Qc) p0.starts))),(Qd p0.axis),(Qd p0.amount),(.dat (.lst ((List.map Qc) p0.perm))),(.dat (.lst (Qa.toDs p0.kids)))])]⟩ →
  RL prog env (env.hint 129) true (QD [1,1,1,0,1,0,0] (QE f129)) 1 st (fun e s=>match r with|.inl _=>e=.ret∧∃ d,s=⟨sl d 85 [(2,(Qp false))],[(.box [(Qd p0.kind),(.dat (.lst ((List.map Qc) p0.shape))),(Qd p0.buffer),(.dat (.lst ((List.map Qc) p0.starts))),(Qd p0.axis),(Qd p0.amount),(.dat (.lst ((List.map Qc) p0.perm))),(.dat (.lst (Qa.toDs p0.kids)))])]⟩|.inr (_)=>e=.exit 0∧∃ d,s=⟨sl d 85 [(1,(.ptr 0 0)),(3,(.dat (.lst ((List.map Qc) v1.shape))))],[(.box [(Qd p0.kind),(.dat (.lst ((List.map Qc) p0.shape))),(Qd p0.buffer),(.dat (.lst ((List.map Qc) p0.starts))),(Qd p0.axis),(Qd p0.amount),(.dat (.lst ((List.map Qc) p0.perm))),(.dat (.lst (Qa.toDs p0.kids)))])]⟩)
theorem Xq:∀ x r,Zd x=some r→QaY x r:=by
 refine Zd.partial_correctness _ (fun Zd Xq x r hm=>?_)
 unfold QaY
 obtain ⟨v1,p0,v202⟩:=x
 intro st hst
 refine RL_at hst ?_
 clear hst
 refine Qe (Qe (R_G (Qb 2 ?_)))
 refine QG Qc v1.shape (es:=(List.map Qc) v1.shape) rfl ?_
 refine Qb 1 (Qg ?_)
 refine Qx hm (rfl) (fun hm=>?_) (fun hm=>?_)
 ·refine Qs (Qe (Qz (Qe ?_)))
  obtain ⟨v602,hs,hm⟩:=Qf hm
  refine Q7 (fun d=>⟨sl d 85 [(1,(.ptr 0 0)),(3,(.dat (.lst ((List.map Qc) v1.shape)))),(4,(Qd v202)),(41,(Qp v602))],[(.box [(Qd p0.kind),(.dat (.lst ((List.map Qc) p0.shape))),(Qd p0.buffer),(.dat (.lst ((List.map Qc) p0.starts))),(Qd p0.axis),(Qd p0.amount),(.dat (.lst ((List.map Qc) p0.perm))),(.dat (.lst (Qa.toDs p0.kids)))])]⟩) ?_ (fun d=>?_)
  ·replace hm:=hs
   clear hs
   refine YM ?_
   refine Qb 3 ?_
   refine QF 1 Qc hm rfl (fun _=>rfl) (fun v603 hm=>?_)
   refine Qb 3 ?_
   refine Qy 31 hm (rfl) (fun hm=>?_) (fun hm=>?_)
   ·refine Qb 10 ?_
    refine Qg ⟨by kernel_rfl,?_⟩
    obtain rfl:=Qq hm
    exact Qm
   refine Qb 3 ?_
   refine QF 1 Qc hm rfl (fun _=>rfl) (fun v604 hm=>?_)
   refine Qb 3 ?_
   refine QG Qc p0.shape (es:=(List.map Qc) p0.shape) rfl ?_
   refine Qb 2 ?_
   refine Qg ⟨by kernel_rfl,?_⟩
   obtain rfl:=Qq hm
   exact Qm
  clear hs
  refine Qx hm (QC _) (fun hm=>?_) (fun hm=>?_)
  ·refine Qe (R_G (Qb 1 (Qg (Qt ?_))))
   obtain rfl:=Qq hm
   exact ⟨rfl,Qm⟩
  refine Qs (R_G (Qb 3 (Qg ?_)))
  exact Xq _ _ hm _ (by kernel_rfl)
 refine QP ?_
 obtain rfl:=Qq hm
 exact ⟨rfl,Qm⟩
def Q1 (x:(Qa × Qa × Int × Int × Int)):Option (Int) :=
 match x with
 | (v1,p0,v805,v1405,v1406) =>
 if v1406 < (v1.shape.length:Int) then
  (idx p0.perm v1406>>=fun v1807 =>
  if v1807=v805 then
   if v1405 < 0 then
    some true
   else
   idx v1.shape v1406>>=fun v1808 =>
   some (decide (v1808 < v1405))
  else
  some false
  )>>=fun (v1806:Bool) =>
  if v1806=true then
   idx v1.shape v1406>>=fun v1809 =>
   Q1 (v1,p0,v805,v1809,(W (v1406+1)))
  else
  Q1 (v1,p0,v805,v1405,(W (v1406+1)))
 else
 some v1405
 partial_fixpoint
def QaZ:(Qa × Qa × Int × Int × Int)→Int→Prop:=fun x r=>match x with
 | (v1,p0,v805,v1405,v1406)=>∀ st,prune 1 ((Qw (QD [1,1,1,1,0,1,0,0,1,0,0,1,0,1,0,0] (QE f129))).bind (env.hint 129).keepAt) st=⟨kp 85 [(1,(.ptr 0 0)),(3,(.dat (.lst ((List.map Qc) v1.shape)))),(5,(Qd v805)),(6,(Qd v1405)),(7,(Qd v1406))],[(.box [(Qd p0.kind),(.dat (.lst ((List.map Qc) p0.shape))),(Qd p0.buffer),(.dat (.lst ((List.map Qc) p0.starts))),(Qd p0.axis),(Qd p0.amount),(.dat (.lst ((List.map Qc) p0.perm))),(.dat (.lst (Qa.toDs p0.kids)))])]⟩ →
  RL prog env (env.hint 129) true (QD [1,1,1,1,0,1,0,0,1,0,0,1,0,1,0,0] (QE f129)) 1 st (fun e s=>match r with|v1805=>e=.exit 4∧∃ d,s=⟨sl d 85 [(1,(.ptr 0 0)),(3,(.dat (.lst ((List.map Qc) v1.shape)))),(5,(Qd v805)),(6,(Qd v1805))],[(.box [(Qd p0.kind),(.dat (.lst ((List.map Qc) p0.shape))),(Qd p0.buffer),(.dat (.lst ((List.map Qc) p0.starts))),(Qd p0.axis),(Qd p0.amount),(.dat (.lst ((List.map Qc) p0.perm))),(.dat (.lst (Qa.toDs p0.kids)))])]⟩)
theorem Xt:∀ x r,Q1 x=some r→QaZ x r:=by
 refine Q1.partial_correctness _ (fun Q1 Xt x r hm=>?_)
 unfold QaZ
 obtain ⟨v1,p0,v805,v1405,v1406⟩:=x
 intro st hst
 refine RL_at hst ?_
 clear hst
 refine Qe (Qe (R_G (Qb 2 ?_)))
 refine QG Qc v1.shape (es:=(List.map Qc) v1.shape) rfl ?_
 refine Qb 1 (Qg ?_)
 refine Qx hm (rfl) (fun hm=>?_) (fun hm=>?_)
 ·refine Qs (Qe (Qz (Qe ?_)))
  obtain ⟨v1806,hs,hm⟩:=Qf hm
  refine Q7 (fun d=>⟨sl d 85 [(1,(.ptr 0 0)),(3,(.dat (.lst ((List.map Qc) v1.shape)))),(5,(Qd v805)),(6,(Qd v1405)),(7,(Qd v1406)),(73,(Qp v1806))],[(.box [(Qd p0.kind),(.dat (.lst ((List.map Qc) p0.shape))),(Qd p0.buffer),(.dat (.lst ((List.map Qc) p0.starts))),(Qd p0.axis),(Qd p0.amount),(.dat (.lst ((List.map Qc) p0.perm))),(.dat (.lst (Qa.toDs p0.kids)))])]⟩) ?_ (fun d=>?_)
  ·replace hm:=hs
   clear hs
   refine R_G (Qb 3 ?_)
   refine QF 1 Qc hm rfl (fun _=>rfl) (fun v1807 hm=>?_)
   refine Qb 4 ?_
   refine Qy 62 hm (QO _ _) (fun hm=>?_) (fun hm=>?_)
   ·refine Qb 3 ?_
    refine Qy 65 hm (rfl) (fun hm=>?_) (fun hm=>?_)
    ·refine Qb 8 (Qg ?_)
     obtain rfl:=Qq hm
     exact Qm
    refine Qb 2 ?_
    refine QF 1 Qc hm rfl (fun _=>rfl) (fun v1808 hm=>?_)
    refine Qb 5 (Qg ?_)
    obtain rfl:=Qq hm
    exact Qm
   refine Qb 11 (Qg ?_)
   obtain rfl:=Qq hm
   exact Qm
  clear hs
  refine Qx hm (QC _) (fun hm=>?_) (fun hm=>?_)
  ·refine R_G (Qb 2 ?_)
   refine QF 1 Qc hm rfl (fun _=>rfl) (fun v1809 hm=>?_)
   refine Qb 2 (Qg (R_G (Qb 3 (Qg ?_))))
   exact Xt _ _ hm _ (by kernel_rfl)
  refine Qs (R_G (Qb 3 (Qg ?_)))
  exact Xt _ _ hm _ (by kernel_rfl)
 refine QP ?_
 obtain rfl:=Qq hm
 exact ⟨rfl,Qm⟩
def Zc (x:(Qa × Qa × Int)):Option (Unit ⊕ Unit) :=
 match x with
 | (p0,v1,v805) =>
 if v805 < (p0.shape.length:Int) then
  Q1 (v1,p0,v805,(-1),0)>>=fun (v1805:Int) =>
  idx p0.shape v805>>=fun v1810 =>
  if v1805≠v1810 then
   some (Sum.inl ())
  else
  Zc (p0,v1,(W (v805+1)))
 else
 some (Sum.inr ())
 partial_fixpoint
def Qa2:(Qa × Qa × Int)→(Unit ⊕ Unit)→Prop:=fun x r=>match x with
 | (p0,v1,v805)=>∀ st,prune 1 ((Qw (QD [1,1,1,1,0,1,0,0] (QE f129))).bind (env.hint 129).keepAt) st=⟨kp 85 [(1,(.ptr 0 0)),(3,(.dat (.lst ((List.map Qc) v1.shape)))),(5,(Qd v805))],[(.box [(Qd p0.kind),(.dat (.lst ((List.map Qc) p0.shape))),(Qd p0.buffer),(.dat (.lst ((List.map Qc) p0.starts))),(Qd p0.axis),(Qd p0.amount),(.dat (.lst ((List.map Qc) p0.perm))),(.dat (.lst (Qa.toDs p0.kids)))])]⟩ →
  RL prog env (env.hint 129) true (QD [1,1,1,1,0,1,0,0] (QE f129)) 1 st (fun e s=>match r with|.inl _=>e=.ret∧∃ d,s=⟨sl d 85 [(2,(Qp false))],[(.box [(Qd p0.kind),(.dat (.lst ((List.map Qc) p0.shape))),(Qd p0.buffer),(.dat (.lst ((List.map Qc) p0.starts))),(Qd p0.axis),(Qd p0.amount),(.dat (.lst ((List.map Qc) p0.perm))),(.dat (.lst (Qa.toDs p0.kids)))])]⟩|.inr (_)=>e=.exit 2∧∃ d,s=⟨sl d 85 [],[(.box [(Qd p0.kind),(.dat (.lst ((List.map Qc) p0.shape))),(Qd p0.buffer),(.dat (.lst ((List.map Qc) p0.starts))),(Qd p0.axis),(Qd p0.amount),(.dat (.lst ((List.map Qc) p0.perm))),(.dat (.lst (Qa.toDs p0.kids)))])]⟩)
theorem Xu:∀ x r,Zc x=some r→Qa2 x r:=by
 refine Zc.partial_correctness _ (fun Zc Xu x r hm=>?_)
 unfold Qa2
 obtain ⟨p0,v1,v805⟩:=x
 intro st hst
 refine RL_at hst ?_
 clear hst
 refine Qe (Qe (R_G (Qb 3 ?_)))
 refine QG Qc p0.shape (es:=(List.map Qc) p0.shape) rfl ?_
 refine Qb 1 (Qg ?_)
 refine Qx hm (rfl) (fun hm=>?_) (fun hm=>?_)
 ·refine Qs (Qe (Qz (Qe (R_G (Qb 1 (Qg (Qe (Qe (R_G (Qb 1 (Qg ?_)))))))))))
  refine Qz ?_
  obtain ⟨v1805,hs,hm⟩:=Qf hm
  refine QT ?_
  refine RL_use (Xt _ _ hs) (by kernel_rfl) ?_
  clear hs
  intro e s hp
  obtain ⟨rfl,d,rfl⟩:=hp
  refine Qe (R_G (Qb 4 ?_))
  refine QF 1 Qc hm rfl (fun _=>rfl) (fun v1810 hm=>?_)
  refine Qb 2 (Qg ?_)
  refine Qx hm (ne_dec _ _) (fun hm=>?_) (fun hm=>?_)
  ·refine Qe (R_G (Qb 1 (Qg (Qt ?_))))
   obtain rfl:=Qq hm
   exact ⟨rfl,Qm⟩
  refine Qs (R_G (Qb 3 (Qg ?_)))
  exact Xu _ _ hm _ (by kernel_rfl)
 refine QP ?_
 obtain rfl:=Qq hm
 exact ⟨rfl,Qm⟩
def Xl (x:Qa):Option Bool :=
 match x with
 | p0 =>
 idx p0.kids 0>>=fun v1 =>
 if (p0.perm.length:Int)≠(v1.shape.length:Int) then
  some false
 else
 (
 Zd (v1,p0,0)>>=fun (out:Unit ⊕ Unit) =>
 match out with
 | .inl _ =>
  some false
 | .inr (_) =>
  (
  Zc (p0,v1,0)>>=fun (out:Unit ⊕ Unit) =>
  match out with
  | .inl _ =>
   some false
  | .inr (_) =>
   some true
  )
 )
def Qb7:Qa→Bool→Prop:=fun x r=>match x,r with
 | p0,r0=>∀ H,PC prog env 129 ([(Qa.ex p0)].map .dat) H (Qp r0) H
theorem Qef:∀ x r,Xl x=some r→Qb7 x r:=by
 intro p0 r0 hm
 unfold Xl at hm
 unfold Qb7
 intro H
 refine PC_sx (ds:=[(Qa.ex p0)]) (fn:=f129) rfl ?_
 refine Qe (R_G (Qb 2 (Qg (Qe (R_G (Qb 2 ?_))))))
 obtain ⟨v1,hx,hm⟩:=Qf hm
 refine Y2 8 Qa.toD p0.kids 0 v1 (es:=Qa.toDs p0.kids) (d:=(Qa.ex v1)) (Qa.toDs_eq _) hx (Qa.toD_eq v1) rfl ?_
 refine Qb 3 (Qg (Qe (Qe (R_G (Qb 2 ?_)))))
 refine QG Qc p0.perm (es:=(List.map Qc) p0.perm) rfl ?_
 refine Qb 1 ?_
 refine QG Qc v1.shape (es:=(List.map Qc) v1.shape) rfl ?_
 refine Qb 1 (Qg ?_)
 refine Qx hm (ne_dec _ _) (fun hm=>?_) (fun hm=>?_)
 ·refine Qe (R_G (Qb 1 (Qg (Qt ?_))))
  obtain rfl:=Qq hm
  exact ⟨trivial,Qk⟩
 refine Qs (Qe (Qe (R_G (Qb 1 (Qg (Qz ?_))))))
 obtain ⟨out,hs,hm⟩:=Qf hm
 refine QT ?_
 rcases out with _|_
 ·refine RL_use (Xq _ _ hs) (by kernel_rfl) ?_
  clear hs
  intro e s hp
  obtain ⟨rfl,d,rfl⟩:=hp
  obtain rfl:=Qq hm
  exact ⟨trivial,Qk⟩
 ·refine RL_use (Xq _ _ hs) (by kernel_rfl) ?_
  clear hs
  intro e s hp
  obtain ⟨rfl,d,rfl⟩:=hp
  refine Qe (Qe (R_G (Qb 1 (Qg (Qz ?_)))))
  obtain ⟨out,hs,hm⟩:=Qf hm
  refine QT ?_
  rcases out with _|_
  ·refine RL_use (Xu _ _ hs) (by kernel_rfl) ?_
   clear hs
   intro e s hp
   obtain ⟨rfl,d,rfl⟩:=hp
   obtain rfl:=Qq hm
   exact ⟨trivial,Qk⟩
  ·refine RL_use (Xu _ _ hs) (by kernel_rfl) ?_
   clear hs
   intro e s hp
   obtain ⟨rfl,d,rfl⟩:=hp
   refine Qe (R_G (Qb 1 (Qg (Qt ?_))))
   obtain rfl:=Qq hm
   exact ⟨trivial,Qk⟩
def ZI (x:(Qa × Qa × Qa × Int)):Option (Unit ⊕ Unit) :=
 match x with
 | (v1,p0,v2,v206) =>
 if v206 < (v1.shape.length:Int) then
  ((if v206=p0.axis then
   idx p0.shape v206>>=fun v608 =>
   idx v1.shape v206>>=fun v609 =>
   idx v2.shape v206>>=fun v610 =>
   some (v608 != (W (v609+v610)))
  else
  some false
  )>>=fun (v607:Bool) =>
  if v607=true then
   some true
  else
  if v206≠p0.axis then
   idx v1.shape v206>>=fun v611 =>
   idx v2.shape v206>>=fun v612 =>
   (if v611≠v612 then
    some true
   else
   idx v1.shape v206>>=fun v614 =>
   idx p0.shape v206>>=fun v615 =>
   some (v614 != v615)
   )>>=fun (v613:Bool) =>
   some v613
  else
  some false
  )>>=fun (v606:Bool) =>
  if v606=true then
   some (Sum.inl ())
  else
  ZI (v1,p0,v2,(W (v206+1)))
 else
 some (Sum.inr ())
 partial_fixpoint
def Qce:(Qa × Qa × Qa × Int)→(Unit ⊕ Unit)→Prop:=fun x r=>match x with
 | (v1,p0,v2,v206)=>∀ st,prune 1 ((Qw (QD [1,1,1,1,0,1,0,0] (QE f130))).bind (env.hint 130).keepAt) st=⟨kp 97 [(1,(.ptr 0 0)),(3,(.dat (.lst ((List.map Qc) v1.shape)))),(4,(.dat (.lst ((List.map Qc) v2.shape)))),(5,(Qd v206))],[(.box [(Qd p0.kind),(.dat (.lst ((List.map Qc) p0.shape))),(Qd p0.buffer),(.dat (.lst ((List.map Qc) p0.starts))),(Qd p0.axis),(Qd p0.amount),(.dat (.lst ((List.map Qc) p0.perm))),(.dat (.lst (Qa.toDs p0.kids)))])]⟩ →
  RL prog env (env.hint 130) true (QD [1,1,1,1,0,1,0,0] (QE f130)) 1 st (fun e s=>match r with|.inl _=>e=.ret∧∃ d,s=⟨sl d 97 [(2,(Qp false))],[(.box [(Qd p0.kind),(.dat (.lst ((List.map Qc) p0.shape))),(Qd p0.buffer),(.dat (.lst ((List.map Qc) p0.starts))),(Qd p0.axis),(Qd p0.amount),(.dat (.lst ((List.map Qc) p0.perm))),(.dat (.lst (Qa.toDs p0.kids)))])]⟩|.inr (_)=>e=.exit 0∧∃ d,s=⟨sl d 97 [],[(.box [(Qd p0.kind),(.dat (.lst ((List.map Qc) p0.shape))),(Qd p0.buffer),(.dat (.lst ((List.map Qc) p0.starts))),(Qd p0.axis),(Qd p0.amount),(.dat (.lst ((List.map Qc) p0.perm))),(.dat (.lst (Qa.toDs p0.kids)))])]⟩)
theorem Jt:∀ x r,ZI x=some r→Qce x r:=by
 refine ZI.partial_correctness _ (fun ZI Jt x r hm=>?_)
 unfold Qce
 obtain ⟨v1,p0,v2,v206⟩:=x
 intro st hst
 refine RL_at hst ?_
 clear hst
 refine Qe (Qe (R_G (Qb 2 ?_)))
 refine QG Qc v1.shape (es:=(List.map Qc) v1.shape) rfl ?_
 refine Qb 1 (Qg ?_)
 refine Qx hm (rfl) (fun hm=>?_) (fun hm=>?_)
 ·refine Qs (Qe (Qz (Qe ?_)))
  obtain ⟨v606,hs,hm⟩:=Qf hm
  refine Q7 (fun d=>⟨sl d 97 [(1,(.ptr 0 0)),(3,(.dat (.lst ((List.map Qc) v1.shape)))),(4,(.dat (.lst ((List.map Qc) v2.shape)))),(5,(Qd v206)),(96,(Qp v606))],[(.box [(Qd p0.kind),(.dat (.lst ((List.map Qc) p0.shape))),(Qd p0.buffer),(.dat (.lst ((List.map Qc) p0.starts))),(Qd p0.axis),(Qd p0.amount),(.dat (.lst ((List.map Qc) p0.perm))),(.dat (.lst (Qa.toDs p0.kids)))])]⟩) ?_ (fun d=>?_)
  ·replace hm:=hs
   clear hs
   refine Qgd ?_
   refine Qb 5 ?_
   obtain ⟨v607,hs,hm⟩:=Qf hm
   refine ZS (j:=21) (fun d=>⟨sl d 97 [(1,(.ptr 0 0)),(3,(.dat (.lst ((List.map Qc) v1.shape)))),(4,(.dat (.lst ((List.map Qc) v2.shape)))),(5,(Qd v206)),(67,(Qp v607))],[(.box [(Qd p0.kind),(.dat (.lst ((List.map Qc) p0.shape))),(Qd p0.buffer),(.dat (.lst ((List.map Qc) p0.starts))),(Qd p0.axis),(Qd p0.amount),(.dat (.lst ((List.map Qc) p0.perm))),(.dat (.lst (Qa.toDs p0.kids)))])]⟩) (fun d=>?_) (fun hJ=>?_)
   ·clear hs
    refine Qb 1 ?_
    refine Qy 68 hm (QC _) (fun hm=>?_) (fun hm=>?_)
    ·refine Qb 28 ?_
     refine Qg ⟨by kernel_rfl,?_⟩
     obtain rfl:=Qq hm
     exact Qm
    refine Qb 5 ?_
    refine Qy 73 hm (ne_dec _ _) (fun hm=>?_) (fun hm=>?_)
    ·refine Qb 2 ?_
     refine QF 1 Qc hm rfl (fun _=>rfl) (fun v611 hm=>?_)
     refine Qb 3 ?_
     refine QF 1 Qc hm rfl (fun _=>rfl) (fun v612 hm=>?_)
     refine Qb 3 ?_
     obtain ⟨v613,hs,hm⟩:=Qf hm
     refine ZS (j:=48) (fun d=>⟨sl d 97 [(1,(.ptr 0 0)),(3,(.dat (.lst ((List.map Qc) v1.shape)))),(4,(.dat (.lst ((List.map Qc) v2.shape)))),(5,(Qd v206)),(68,(Qp false)),(73,(Qp true)),(94,(Qp v613))],[(.box [(Qd p0.kind),(.dat (.lst ((List.map Qc) p0.shape))),(Qd p0.buffer),(.dat (.lst ((List.map Qc) p0.starts))),(Qd p0.axis),(Qd p0.amount),(.dat (.lst ((List.map Qc) p0.perm))),(.dat (.lst (Qa.toDs p0.kids)))])]⟩) (fun d=>?_) (fun hJ=>?_)
     ·clear hs
      refine Qb 2 ?_
      refine Qg ⟨by kernel_rfl,?_⟩
      obtain rfl:=Qq hm
      exact Qm
     clear hm
     refine Qy 83 hs (ne_dec _ _) (fun hm=>?_) (fun hm=>?_)
     ·refine Qb 11 ?_
      obtain rfl:=Qq hm
      exact hJ _ _
     refine Qb 2 ?_
     refine QF 1 Qc hm rfl (fun _=>rfl) (fun v614 hm=>?_)
     refine Qb 4 ?_
     refine QF 1 Qc hm rfl (fun _=>rfl) (fun v615 hm=>?_)
     refine Qb 3 ?_
     obtain rfl:=Qq hm
     exact hJ _ _
    refine Qb 23 ?_
    refine Qg ⟨by kernel_rfl,?_⟩
    obtain rfl:=Qq hm
    exact Qm
   clear hm
   refine Qy 51 hs (QO _ _) (fun hm=>?_) (fun hm=>?_)
   ·refine Qb 3 ?_
    refine QF 1 Qc hm rfl (fun _=>rfl) (fun v608 hm=>?_)
    refine Qb 3 ?_
    refine QF 1 Qc hm rfl (fun _=>rfl) (fun v609 hm=>?_)
    refine Qb 3 ?_
    refine QF 1 Qc hm rfl (fun _=>rfl) (fun v610 hm=>?_)
    refine Qb 4 ?_
    obtain rfl:=Qq hm
    exact hJ _ _
   refine Qb 16 ?_
   obtain rfl:=Qq hm
   exact hJ _ _
  clear hs
  refine Qx hm (QC _) (fun hm=>?_) (fun hm=>?_)
  ·refine Qe (R_G (Qb 1 (Qg (Qt ?_))))
   obtain rfl:=Qq hm
   exact ⟨rfl,Qm⟩
  refine Qs (R_G (Qb 3 (Qg ?_)))
  exact Jt _ _ hm _ (by kernel_rfl)
 refine QP ?_
 obtain rfl:=Qq hm
 exact ⟨rfl,Qm⟩
def JD (x:Qa):Option Bool :=
 match x with
 | p0 =>
 idx p0.kids 0>>=fun v1 =>
 idx p0.kids 1>>=fun v2 =>
 ((if (v1.shape.length:Int)≠(v2.shape.length:Int) then
  some true
 else
 some ((v1.shape.length:Int) != (p0.shape.length:Int))
 )>>=fun (v4:Bool) =>
 (if v4=true then
  some true
 else
 some (decide (p0.axis < 0))
 )>>=fun (v5:Bool) =>
 if v5=true then
  some true
 else
 some (decide (p0.axis≥(v1.shape.length:Int)))
 )>>=fun (v3:Bool) =>
 if v3=true then
  some false
 else
 (
 ZI (v1,p0,v2,0)>>=fun (out:Unit ⊕ Unit) =>
 match out with
 | .inl _ =>
  some false
 | .inr (_) =>
  some true
 )
def Qdf:Qa→Bool→Prop:=fun x r=>match x,r with
 | p0,r0=>∀ H,PC prog env 130 ([(Qa.ex p0)].map .dat) H (Qp r0) H
theorem Qfn:∀ x r,JD x=some r→Qdf x r:=by
 intro p0 r0 hm
 unfold JD at hm
 unfold Qdf
 intro H
 refine PC_sx (ds:=[(Qa.ex p0)]) (fn:=f130) rfl ?_
 refine Qe (R_G (Qb 2 (Qg (Qe (R_G (Qb 2 ?_))))))
 obtain ⟨v1,hx,hm⟩:=Qf hm
 refine Y2 8 Qa.toD p0.kids 0 v1 (es:=Qa.toDs p0.kids) (d:=(Qa.ex v1)) (Qa.toDs_eq _) hx (Qa.toD_eq v1) rfl ?_
 refine Qb 3 (Qg (Qe (R_G (Qb 2 ?_))))
 obtain ⟨v2,hx,hm⟩:=Qf hm
 refine Y2 8 Qa.toD p0.kids 1 v2 (es:=Qa.toDs p0.kids) (d:=(Qa.ex v2)) (Qa.toDs_eq _) hx (Qa.toD_eq v2) rfl ?_
 refine Qb 3 (Qg (Qe (Qe ?_)))
 obtain ⟨v3,hs,hm⟩:=Qf hm
 refine Q7 (fun d=>⟨sl d 97 [(1,(.ptr 0 0)),(3,(.dat (.lst ((List.map Qc) v1.shape)))),(4,(.dat (.lst ((List.map Qc) v2.shape)))),(40,(Qp v3))],[(.box [(Qd p0.kind),(.dat (.lst ((List.map Qc) p0.shape))),(Qd p0.buffer),(.dat (.lst ((List.map Qc) p0.starts))),(Qd p0.axis),(Qd p0.amount),(.dat (.lst ((List.map Qc) p0.perm))),(.dat (.lst (Qa.toDs p0.kids)))])]⟩) ?_ (fun d=>?_)
 ·replace hm:=hs
  clear hs
  refine Qdd ?_
  refine Qb 1 ?_
  refine QG Qc v1.shape (es:=(List.map Qc) v1.shape) rfl ?_
  refine Qb 1 ?_
  refine QG Qc v2.shape (es:=(List.map Qc) v2.shape) rfl ?_
  refine Qb 2 ?_
  obtain ⟨v4,hs,hm⟩:=Qf hm
  refine ZS (j:=13) (fun d=>⟨sl d 97 [(1,(.ptr 0 0)),(3,(.dat (.lst ((List.map Qc) v1.shape)))),(4,(.dat (.lst ((List.map Qc) v2.shape)))),(28,(Qp v4))],[(.box [(Qd p0.kind),(.dat (.lst ((List.map Qc) p0.shape))),(Qd p0.buffer),(.dat (.lst ((List.map Qc) p0.starts))),(Qd p0.axis),(Qd p0.amount),(.dat (.lst ((List.map Qc) p0.perm))),(.dat (.lst (Qa.toDs p0.kids)))])]⟩) (fun d=>?_) (fun hJ=>?_)
  ·clear hs
   refine Qb 1 ?_
   obtain ⟨v5,hs,hm⟩:=Qf hm
   refine ZS (j:=18) (fun d=>⟨sl d 97 [(1,(.ptr 0 0)),(3,(.dat (.lst ((List.map Qc) v1.shape)))),(4,(.dat (.lst ((List.map Qc) v2.shape)))),(33,(Qp v5))],[(.box [(Qd p0.kind),(.dat (.lst ((List.map Qc) p0.shape))),(Qd p0.buffer),(.dat (.lst ((List.map Qc) p0.starts))),(Qd p0.axis),(Qd p0.amount),(.dat (.lst ((List.map Qc) p0.perm))),(.dat (.lst (Qa.toDs p0.kids)))])]⟩) (fun d=>?_) (fun hJ=>?_)
   ·clear hs
    refine Qb 1 ?_
    refine Qy 34 hm (QC _) (fun hm=>?_) (fun hm=>?_)
    ·refine Qb 6 ?_
     refine Qg ⟨by kernel_rfl,?_⟩
     obtain rfl:=Qq hm
     exact Qm
    refine Qb 3 ?_
    refine QG Qc v1.shape (es:=(List.map Qc) v1.shape) rfl ?_
    refine Qb 2 ?_
    refine Qg ⟨by kernel_rfl,?_⟩
    obtain rfl:=Qq hm
    exact Qm
   clear hm
   refine Qy 29 hs (QC _) (fun hm=>?_) (fun hm=>?_)
   ·refine Qb 4 ?_
    obtain rfl:=Qq hm
    exact hJ _ _
   refine Qb 4 ?_
   obtain rfl:=Qq hm
   exact hJ _ _
  clear hm
  refine Qy 21 hs (ne_dec _ _) (fun hm=>?_) (fun hm=>?_)
  ·refine Qb 7 ?_
   obtain rfl:=Qq hm
   exact hJ _ _
  refine Qb 1 ?_
  refine QG Qc v1.shape (es:=(List.map Qc) v1.shape) rfl ?_
  refine Qb 2 ?_
  refine QG Qc p0.shape (es:=(List.map Qc) p0.shape) rfl ?_
  refine Qb 2 ?_
  obtain rfl:=Qq hm
  exact hJ _ _
 clear hs
 refine Qx hm (QC _) (fun hm=>?_) (fun hm=>?_)
 ·refine Qe (R_G (Qb 1 (Qg (Qt ?_))))
  obtain rfl:=Qq hm
  exact ⟨trivial,Qk⟩
 refine Qs (Qe (Qe (R_G (Qb 1 (Qg (Qz ?_))))))
 obtain ⟨out,hs,hm⟩:=Qf hm
 refine QT ?_
 rcases out with _|_
 ·refine RL_use (Jt _ _ hs) (by kernel_rfl) ?_
  clear hs
  intro e s hp
  obtain ⟨rfl,d,rfl⟩:=hp
  obtain rfl:=Qq hm
  exact ⟨trivial,Qk⟩
 ·refine RL_use (Jt _ _ hs) (by kernel_rfl) ?_
  clear hs
  intro e s hp
  obtain ⟨rfl,d,rfl⟩:=hp
  refine Qe (R_G (Qb 1 (Qg (Qt ?_))))
  obtain rfl:=Qq hm
  exact ⟨trivial,Qk⟩
def Yh (x:(Qa × Int)):Option (Unit ⊕ Unit) :=
 match x with
 | (p0,v217) =>
 if v217 < (p0.starts.length:Int) then
  (idx p0.starts v217>>=fun v618 =>
  if v618 < (-65536) then
   some true
  else
  idx p0.starts v217>>=fun v619 =>
  some (decide (v619 > 65536))
  )>>=fun (v617:Bool) =>
  if v617=true then
   some (Sum.inl ())
  else
  Yh (p0,(W (v217+1)))
 else
 some (Sum.inr ())
 partial_fixpoint
def QcX:(Qa × Int)→(Unit ⊕ Unit)→Prop:=fun x r=>match x with
 | (p0,v217)=>∀ st,prune 1 ((Qw (QD [1,1,1,1,1,1,0,1,0,1,1,1,0,0,1,0,0] (QE f126))).bind (env.hint 126).keepAt) st=⟨kp 197 [(2,(.ptr 0 0)),(6,(Qd v217))],[(.box [(Qd p0.kind),(.dat (.lst ((List.map Qc) p0.shape))),(Qd p0.buffer),(.dat (.lst ((List.map Qc) p0.starts))),(Qd p0.axis),(Qd p0.amount),(.dat (.lst ((List.map Qc) p0.perm))),(.dat (.lst (Qa.toDs p0.kids)))])]⟩ →
  RL prog env (env.hint 126) true (QD [1,1,1,1,1,1,0,1,0,1,1,1,0,0,1,0,0] (QE f126)) 1 st (fun e s=>match r with|.inl _=>e=.ret∧∃ d,s=⟨sl d 197 [(4,(Qp false))],[(.box [(Qd p0.kind),(.dat (.lst ((List.map Qc) p0.shape))),(Qd p0.buffer),(.dat (.lst ((List.map Qc) p0.starts))),(Qd p0.axis),(Qd p0.amount),(.dat (.lst ((List.map Qc) p0.perm))),(.dat (.lst (Qa.toDs p0.kids)))])]⟩|.inr (_)=>e=.exit 1∧∃ d,s=⟨sl d 197 [(2,(.ptr 0 0))],[(.box [(Qd p0.kind),(.dat (.lst ((List.map Qc) p0.shape))),(Qd p0.buffer),(.dat (.lst ((List.map Qc) p0.starts))),(Qd p0.axis),(Qd p0.amount),(.dat (.lst ((List.map Qc) p0.perm))),(.dat (.lst (Qa.toDs p0.kids)))])]⟩)
theorem Qam:∀ x r,Yh x=some r→QcX x r:=by
 refine Yh.partial_correctness _ (fun Yh Qam x r hm=>?_)
 unfold QcX
 obtain ⟨p0,v217⟩:=x
 intro st hst
 refine RL_at hst ?_
 clear hst
 refine Qe (Qe (R_G (Qb 3 ?_)))
 refine QG Qc p0.starts (es:=(List.map Qc) p0.starts) rfl ?_
 refine Qb 1 (Qg ?_)
 refine Qx hm (rfl) (fun hm=>?_) (fun hm=>?_)
 ·refine Qs (Qe (Qz (Qe ?_)))
  obtain ⟨v617,hs,hm⟩:=Qf hm
  refine Q7 (fun d=>⟨sl d 197 [(2,(.ptr 0 0)),(6,(Qd v217)),(140,(Qp v617))],[(.box [(Qd p0.kind),(.dat (.lst ((List.map Qc) p0.shape))),(Qd p0.buffer),(.dat (.lst ((List.map Qc) p0.starts))),(Qd p0.axis),(Qd p0.amount),(.dat (.lst ((List.map Qc) p0.perm))),(.dat (.lst (Qa.toDs p0.kids)))])]⟩) ?_ (fun d=>?_)
  ·replace hm:=hs
   clear hs
   refine R_G (Qb 3 ?_)
   refine QF 1 Qc hm rfl (fun _=>rfl) (fun v618 hm=>?_)
   refine Qb 3 ?_
   refine Qy 133 hm (rfl) (fun hm=>?_) (fun hm=>?_)
   ·refine Qb 7 (Qg ?_)
    obtain rfl:=Qq hm
    exact Qm
   refine Qb 3 ?_
   refine QF 1 Qc hm rfl (fun _=>rfl) (fun v619 hm=>?_)
   refine Qb 3 (Qg ?_)
   obtain rfl:=Qq hm
   exact Qm
  clear hs
  refine Qx hm (QC _) (fun hm=>?_) (fun hm=>?_)
  ·refine Qe (R_G (Qb 1 (Qg (Qt ?_))))
   obtain rfl:=Qq hm
   exact ⟨rfl,Qm⟩
  refine Qs (R_G (Qb 3 (Qg ?_)))
  exact Qam _ _ hm _ (by kernel_rfl)
 refine QP ?_
 obtain rfl:=Qq hm
 exact ⟨rfl,Qm⟩
def Jh (x:(Qa × (List (List Int)))):Option Bool :=
 match x with
 | (p0,p1) =>
 (if p0.kind=1 then
  some 0
 else
 some 1
 )>>=fun (v1:Int) =>
 (if p0.kind=7 then
  some 2
 else
 some v1
 )>>=fun (v2:Int) =>
 ((if p0.kind < 1 then
  some true
 else
 some (decide (p0.kind > 7))
 )>>=fun (v4:Bool) =>
 (if v4=true then
  some true
 else
 some ((p0.kids.length:Int) != v2)
 )>>=fun (v5:Bool) =>
 if v5=true then
  some true
 else
 Yg p0.shape>>=fun (v6:Int) =>
 some (v6 != 0)
 )>>=fun (v3:Bool) =>
 if v3=true then
  some false
 else
 ((if p0.kind≠1 then
  some (p0.buffer != 0)
 else
 some false
 )>>=fun (v8:Bool) =>
 (if v8=true then
  some true
 else
 if p0.kind≠2 then
  some (decide ((p0.starts.length:Int) > 0))
 else
 some false
 )>>=fun (v9:Bool) =>
 (if v9=true then
  some true
 else
 (if p0.kind≠3 then
  some (p0.kind != 4)
 else
 some false
 )>>=fun (v11:Bool) =>
 (if v11=true then
  some (p0.kind != 7)
 else
 some false
 )>>=fun (v12:Bool) =>
 if v12=true then
  some (p0.axis != 0)
 else
 some false
 )>>=fun (v10:Bool) =>
 (if v10=true then
  some true
 else
 if p0.kind≠4 then
  some (p0.amount != 0)
 else
 some false
 )>>=fun (v13:Bool) =>
 if v13=true then
  some true
 else
 if p0.kind≠5 then
  some (decide ((p0.perm.length:Int) > 0))
 else
 some false
 )>>=fun (v7:Bool) =>
 if v7=true then
  some false
 else
 if p0.kind=1 then
  (if p0.buffer≥0 then
   some (decide (p0.buffer < (p1.length:Int)))
  else
  some false
  )>>=fun (v14:Bool) =>
  if v14=true then
   idx p1 p0.buffer>>=fun v15 =>
   Ys (v15,p0.shape)>>=fun (v16:Bool) =>
   some v16
  else
  some false
 else
 if p0.kind=2 then
  (
  Yh (p0,0)>>=fun (out:Unit ⊕ Unit) =>
  match out with
  | .inl _ =>
   some false
  | .inr (_) =>
   if (p0.starts.length:Int)=(p0.shape.length:Int) then
    idx p0.kids 0>>=fun v620 =>
    some ((v620.shape.length:Int) == (p0.shape.length:Int))
   else
   some false
  )
 else
 if p0.kind=3 then
  Jp p0>>=fun (v621:Bool) =>
  some v621
 else
 if p0.kind=4 then
  Jp p0>>=fun (v622:Bool) =>
  (if v622=true then
   some (decide (p0.amount≥0))
  else
  some false
  )>>=fun (v623:Bool) =>
  if v623=true then
   if p0.amount=0 then
    some true
   else
   idx p0.shape p0.axis>>=fun v624 =>
   some (decide (p0.amount < v624))
  else
  some false
 else
 if p0.kind=5 then
  Xl p0>>=fun (v625:Bool) =>
  some v625
 else
 if p0.kind=7 then
  JD p0>>=fun (v626:Bool) =>
  some v626
 else
 some true
def Qew:(Qa × (List (List Int)))→Bool→Prop:=fun x r=>match x,r with
 | (p0,p1),r0=>∀ H,PC prog env 126 ([(Qa.ex p0),(.lst ((List.map (fun l=>Dat.lst ((List.map Qc) l))) p1))].map .dat) H (Qp r0) H
theorem QfK:∀ x r,Jh x=some r→Qew x r:=by
 intro x r0 hm
 unfold Jh at hm
 unfold Qew
 obtain ⟨p0,p1⟩:=x
 intro H
 refine PC_sx (ds:=[(Qa.ex p0),(.lst ((List.map (fun l=>Dat.lst ((List.map Qc) l))) p1))]) (fn:=f126) rfl ?_
 refine Qe (R_G (Qb 2 (Qg (Qe (R_G (Qb 1 (Qg (Qe (Qe (R_G (Qb 3 ?_)))))))))))
 refine Qg ?_
 obtain ⟨v1,hs,hm⟩:=Qf hm
 refine Q7 (fun d=>⟨sl d 197 [(1,(.dat (.lst ((List.map (fun l=>Dat.lst ((List.map Qc) l))) p1)))),(2,(.ptr 0 0)),(5,(Qd v1))],[(.box [(Qd p0.kind),(.dat (.lst ((List.map Qc) p0.shape))),(Qd p0.buffer),(.dat (.lst ((List.map Qc) p0.starts))),(Qd p0.axis),(Qd p0.amount),(.dat (.lst ((List.map Qc) p0.perm))),(.dat (.lst (Qa.toDs p0.kids)))])]⟩) ?_ (fun d=>?_)
 ·replace hm:=hs
  clear hs
  refine Qx hm (QO _ _) (fun hm=>?_) (fun hm=>?_)
  ·refine R_G (Qb 1 (Qg ?_))
   obtain rfl:=Qq hm
   exact Qm
  refine Qs ?_
  obtain rfl:=Qq hm
  exact Qm
 clear hs
 refine Qe (Qe (R_G (Qb 3 (Qg ?_))))
 obtain ⟨v2,hs,hm⟩:=Qf hm
 refine Q7 (fun d=>⟨sl d 197 [(1,(.dat (.lst ((List.map (fun l=>Dat.lst ((List.map Qc) l))) p1)))),(2,(.ptr 0 0)),(5,(Qd v2))],[(.box [(Qd p0.kind),(.dat (.lst ((List.map Qc) p0.shape))),(Qd p0.buffer),(.dat (.lst ((List.map Qc) p0.starts))),(Qd p0.axis),(Qd p0.amount),(.dat (.lst ((List.map Qc) p0.perm))),(.dat (.lst (Qa.toDs p0.kids)))])]⟩) ?_ (fun d=>?_)
 ·replace hm:=hs
  clear hs
  refine Qx hm (QO _ _) (fun hm=>?_) (fun hm=>?_)
  ·refine R_G (Qb 1 (Qg ?_))
   obtain rfl:=Qq hm
   exact Qm
  refine Qs ?_
  obtain rfl:=Qq hm
  exact Qm
 clear hs
 refine Qe (Qe ?_)
 obtain ⟨v3,hs,hm⟩:=Qf hm
 refine Q7 (fun d=>⟨sl d 197 [(1,(.dat (.lst ((List.map (fun l=>Dat.lst ((List.map Qc) l))) p1)))),(2,(.ptr 0 0)),(33,(Qp v3))],[(.box [(Qd p0.kind),(.dat (.lst ((List.map Qc) p0.shape))),(Qd p0.buffer),(.dat (.lst ((List.map Qc) p0.starts))),(Qd p0.axis),(Qd p0.amount),(.dat (.lst ((List.map Qc) p0.perm))),(.dat (.lst (Qa.toDs p0.kids)))])]⟩) ?_ (fun d=>?_)
 ·replace hm:=hs
  clear hs
  refine Qdd ?_
  refine Qb 4 ?_
  obtain ⟨v4,hs,hm⟩:=Qf hm
  refine ZS (j:=8) (fun d=>⟨sl d 197 [(1,(.dat (.lst ((List.map (fun l=>Dat.lst ((List.map Qc) l))) p1)))),(2,(.ptr 0 0)),(5,(Qd v2)),(20,(Qp v4))],[(.box [(Qd p0.kind),(.dat (.lst ((List.map Qc) p0.shape))),(Qd p0.buffer),(.dat (.lst ((List.map Qc) p0.starts))),(Qd p0.axis),(Qd p0.amount),(.dat (.lst ((List.map Qc) p0.perm))),(.dat (.lst (Qa.toDs p0.kids)))])]⟩) (fun d=>?_) (fun hJ=>?_)
  ·clear hs
   refine Qb 1 ?_
   obtain ⟨v5,hs,hm⟩:=Qf hm
   refine ZS (j:=15) (fun d=>⟨sl d 197 [(1,(.dat (.lst ((List.map (fun l=>Dat.lst ((List.map Qc) l))) p1)))),(2,(.ptr 0 0)),(27,(Qp v5))],[(.box [(Qd p0.kind),(.dat (.lst ((List.map Qc) p0.shape))),(Qd p0.buffer),(.dat (.lst ((List.map Qc) p0.starts))),(Qd p0.axis),(Qd p0.amount),(.dat (.lst ((List.map Qc) p0.perm))),(.dat (.lst (Qa.toDs p0.kids)))])]⟩) (fun d=>?_) (fun hJ=>?_)
   ·clear hs
    refine Qb 1 ?_
    refine Qy 28 hm (QC _) (fun hm=>?_) (fun hm=>?_)
    ·refine Qb 5 ?_
     refine Qg ⟨by kernel_rfl,?_⟩
     obtain rfl:=Qq hm
     exact Qm
    refine Qb 2 ?_
    obtain ⟨v6,hx,hm⟩:=Qf hm
    have hq:=XJ _ _ hx []
    refine Qr hq ?_
    refine Qb 2 ?_
    refine Qg ⟨by kernel_rfl,?_⟩
    obtain rfl:=Qq hm
    exact Qm
   clear hm
   refine Qy 21 hs (QC _) (fun hm=>?_) (fun hm=>?_)
   ·refine Qb 6 ?_
    obtain rfl:=Qq hm
    exact hJ _ _
   refine Qb 2 ?_
   refine QG Qa.toD p0.kids (es:=Qa.toDs p0.kids) (Qa.toDs_eq _) ?_
   refine Qb 3 ?_
   obtain rfl:=Qq hm
   exact hJ _ _
  clear hm
  refine Qy 16 hs (rfl) (fun hm=>?_) (fun hm=>?_)
  ·refine Qb 4 ?_
   obtain rfl:=Qq hm
   exact hJ _ _
  refine Qb 4 ?_
  obtain rfl:=Qq hm
  exact hJ _ _
 clear hs
 refine Qx hm (QC _) (fun hm=>?_) (fun hm=>?_)
 ·refine Qe (R_G (Qb 1 (Qg (Qt ?_))))
  obtain rfl:=Qq hm
  exact ⟨trivial,Qk⟩
 refine Qs (Qe (Qe ?_))
 obtain ⟨v7,hs,hm⟩:=Qf hm
 refine Q7 (fun d=>⟨sl d 197 [(1,(.dat (.lst ((List.map (fun l=>Dat.lst ((List.map Qc) l))) p1)))),(2,(.ptr 0 0)),(93,(Qp v7))],[(.box [(Qd p0.kind),(.dat (.lst ((List.map Qc) p0.shape))),(Qd p0.buffer),(.dat (.lst ((List.map Qc) p0.starts))),(Qd p0.axis),(Qd p0.amount),(.dat (.lst ((List.map Qc) p0.perm))),(.dat (.lst (Qa.toDs p0.kids)))])]⟩) ?_ (fun d=>?_)
 ·replace hm:=hs
  clear hs
  refine Qdd ?_
  refine Qb 4 ?_
  obtain ⟨v8,hs,hm⟩:=Qf hm
  refine ZS (j:=8) (fun d=>⟨sl d 197 [(1,(.dat (.lst ((List.map (fun l=>Dat.lst ((List.map Qc) l))) p1)))),(2,(.ptr 0 0)),(41,(Qp v8))],[(.box [(Qd p0.kind),(.dat (.lst ((List.map Qc) p0.shape))),(Qd p0.buffer),(.dat (.lst ((List.map Qc) p0.starts))),(Qd p0.axis),(Qd p0.amount),(.dat (.lst ((List.map Qc) p0.perm))),(.dat (.lst (Qa.toDs p0.kids)))])]⟩) (fun d=>?_) (fun hJ=>?_)
  ·clear hs
   refine Qb 1 ?_
   obtain ⟨v9,hs,hm⟩:=Qf hm
   refine ZS (j:=19) (fun d=>⟨sl d 197 [(1,(.dat (.lst ((List.map (fun l=>Dat.lst ((List.map Qc) l))) p1)))),(2,(.ptr 0 0)),(52,(Qp v9))],[(.box [(Qd p0.kind),(.dat (.lst ((List.map Qc) p0.shape))),(Qd p0.buffer),(.dat (.lst ((List.map Qc) p0.starts))),(Qd p0.axis),(Qd p0.amount),(.dat (.lst ((List.map Qc) p0.perm))),(.dat (.lst (Qa.toDs p0.kids)))])]⟩) (fun d=>?_) (fun hJ=>?_)
   ·clear hs
    refine Qb 1 ?_
    obtain ⟨v10,hs,hm⟩:=Qf hm
    refine ZS (j:=39) (fun d=>⟨sl d 197 [(1,(.dat (.lst ((List.map (fun l=>Dat.lst ((List.map Qc) l))) p1)))),(2,(.ptr 0 0)),(72,(Qp v10))],[(.box [(Qd p0.kind),(.dat (.lst ((List.map Qc) p0.shape))),(Qd p0.buffer),(.dat (.lst ((List.map Qc) p0.starts))),(Qd p0.axis),(Qd p0.amount),(.dat (.lst ((List.map Qc) p0.perm))),(.dat (.lst (Qa.toDs p0.kids)))])]⟩) (fun d=>?_) (fun hJ=>?_)
    ·clear hs
     refine Qb 1 ?_
     obtain ⟨v13,hs,hm⟩:=Qf hm
     refine ZS (j:=49) (fun d=>⟨sl d 197 [(1,(.dat (.lst ((List.map (fun l=>Dat.lst ((List.map Qc) l))) p1)))),(2,(.ptr 0 0)),(82,(Qp v13))],[(.box [(Qd p0.kind),(.dat (.lst ((List.map Qc) p0.shape))),(Qd p0.buffer),(.dat (.lst ((List.map Qc) p0.starts))),(Qd p0.axis),(Qd p0.amount),(.dat (.lst ((List.map Qc) p0.perm))),(.dat (.lst (Qa.toDs p0.kids)))])]⟩) (fun d=>?_) (fun hJ=>?_)
     ·clear hs
      refine Qb 1 ?_
      refine Qy 83 hm (QC _) (fun hm=>?_) (fun hm=>?_)
      ·refine Qb 10 ?_
       refine Qg ⟨by kernel_rfl,?_⟩
       obtain rfl:=Qq hm
       exact Qm
      refine Qb 4 ?_
      refine Qy 87 hm (ne_dec _ _) (fun hm=>?_) (fun hm=>?_)
      ·refine Qb 2 ?_
       refine QG Qc p0.perm (es:=(List.map Qc) p0.perm) rfl ?_
       refine Qb 3 ?_
       refine Qg ⟨by kernel_rfl,?_⟩
       obtain rfl:=Qq hm
       exact Qm
      refine Qb 6 ?_
      refine Qg ⟨by kernel_rfl,?_⟩
      obtain rfl:=Qq hm
      exact Qm
     clear hm
     refine Qy 73 hs (QC _) (fun hm=>?_) (fun hm=>?_)
     ·refine Qb 9 ?_
      obtain rfl:=Qq hm
      exact hJ _ _
     refine Qb 4 ?_
     refine Qy 77 hm (ne_dec _ _) (fun hm=>?_) (fun hm=>?_)
     ·refine Qb 5 ?_
      obtain rfl:=Qq hm
      exact hJ _ _
     refine Qb 5 ?_
     obtain rfl:=Qq hm
     exact hJ _ _
    clear hm
    refine Qy 53 hs (QC _) (fun hm=>?_) (fun hm=>?_)
    ·refine Qb 19 ?_
     obtain rfl:=Qq hm
     exact hJ _ _
    refine Qb 4 ?_
    obtain ⟨v11,hs,hm⟩:=Qf hm
    refine ZS (j:=28) (fun d=>⟨sl d 197 [(1,(.dat (.lst ((List.map (fun l=>Dat.lst ((List.map Qc) l))) p1)))),(2,(.ptr 0 0)),(53,(Qp false)),(61,(Qp v11))],[(.box [(Qd p0.kind),(.dat (.lst ((List.map Qc) p0.shape))),(Qd p0.buffer),(.dat (.lst ((List.map Qc) p0.starts))),(Qd p0.axis),(Qd p0.amount),(.dat (.lst ((List.map Qc) p0.perm))),(.dat (.lst (Qa.toDs p0.kids)))])]⟩) (fun d=>?_) (fun hJ=>?_)
    ·clear hs
     refine Qb 1 ?_
     obtain ⟨v12,hs,hm⟩:=Qf hm
     refine ZS (j:=33) (fun d=>⟨sl d 197 [(1,(.dat (.lst ((List.map (fun l=>Dat.lst ((List.map Qc) l))) p1)))),(2,(.ptr 0 0)),(53,(Qp false)),(66,(Qp v12))],[(.box [(Qd p0.kind),(.dat (.lst ((List.map Qc) p0.shape))),(Qd p0.buffer),(.dat (.lst ((List.map Qc) p0.starts))),(Qd p0.axis),(Qd p0.amount),(.dat (.lst ((List.map Qc) p0.perm))),(.dat (.lst (Qa.toDs p0.kids)))])]⟩) (fun d=>?_) (fun hJ=>?_)
     ·clear hs
      refine Qb 1 ?_
      refine Qy 67 hm (QC _) (fun hm=>?_) (fun hm=>?_)
      ·refine Qb 5 ?_
       obtain rfl:=Qq hm
       exact hJ _ _
      refine Qb 5 ?_
      obtain rfl:=Qq hm
      exact hJ _ _
     clear hm
     refine Qy 62 hs (QC _) (fun hm=>?_) (fun hm=>?_)
     ·refine Qb 4 ?_
      obtain rfl:=Qq hm
      exact hJ _ _
     refine Qb 4 ?_
     obtain rfl:=Qq hm
     exact hJ _ _
    clear hm
    refine Qy 57 hs (ne_dec _ _) (fun hm=>?_) (fun hm=>?_)
    ·refine Qb 4 ?_
     obtain rfl:=Qq hm
     exact hJ _ _
    refine Qb 4 ?_
    obtain rfl:=Qq hm
    exact hJ _ _
   clear hm
   refine Qy 42 hs (QC _) (fun hm=>?_) (fun hm=>?_)
   ·refine Qb 10 ?_
    obtain rfl:=Qq hm
    exact hJ _ _
   refine Qb 4 ?_
   refine Qy 46 hm (ne_dec _ _) (fun hm=>?_) (fun hm=>?_)
   ·refine Qb 2 ?_
    refine QG Qc p0.starts (es:=(List.map Qc) p0.starts) rfl ?_
    refine Qb 3 ?_
    obtain rfl:=Qq hm
    exact hJ _ _
   refine Qb 6 ?_
   obtain rfl:=Qq hm
   exact hJ _ _
  clear hm
  refine Qy 37 hs (ne_dec _ _) (fun hm=>?_) (fun hm=>?_)
  ·refine Qb 4 ?_
   obtain rfl:=Qq hm
   exact hJ _ _
  refine Qb 4 ?_
  obtain rfl:=Qq hm
  exact hJ _ _
 clear hs
 refine Qx hm (QC _) (fun hm=>?_) (fun hm=>?_)
 ·refine Qe (R_G (Qb 1 (Qg (Qt ?_))))
  obtain rfl:=Qq hm
  exact ⟨trivial,Qk⟩
 refine Qs (Qe (Qe (R_G (Qb 2 (Qg (Qz (Qe (R_G (Qb 2 (Qg ?_))))))))))
 refine Qx hm (QO _ _) (fun hm=>?_) (fun hm=>?_)
 ·refine Qe ?_
  refine Qgd ?_
  refine Qb 4 ?_
  obtain ⟨v14,hs,hm⟩:=Qf hm
  refine ZS (j:=10) (fun d=>⟨sl d 197 [(1,(.dat (.lst ((List.map (fun l=>Dat.lst ((List.map Qc) l))) p1)))),(2,(.ptr 0 0)),(107,(Qp v14))],[(.box [(Qd p0.kind),(.dat (.lst ((List.map Qc) p0.shape))),(Qd p0.buffer),(.dat (.lst ((List.map Qc) p0.starts))),(Qd p0.axis),(Qd p0.amount),(.dat (.lst ((List.map Qc) p0.perm))),(.dat (.lst (Qa.toDs p0.kids)))])]⟩) (fun d=>?_) (fun hJ=>?_)
  ·clear hs
   refine Qb 1 ?_
   refine Qy 108 hm (QC _) (fun hm=>?_) (fun hm=>?_)
   ·refine Qb 3 ?_
    obtain ⟨v15,hx,hm⟩:=Qf hm
    refine Y2 1 (fun l=>Dat.lst ((List.map Qc) l)) p1 p0.buffer v15 (es:=(List.map (fun l=>Dat.lst ((List.map Qc) l))) p1) (d:=(.lst ((List.map Qc) v15))) rfl hx rfl rfl ?_
    refine Qb 3 ?_
    obtain ⟨v16,hx,hm⟩:=Qf hm
    have hq:=Qbm _ _ hx []
    refine Qr hq ?_
    refine Qb 2 ?_
    refine Qg ⟨by kernel_rfl,?_⟩
    refine Qt ?_
    obtain rfl:=Qq hm
    exact ⟨trivial,Qk⟩
   refine Qb 10 ?_
   refine Qg ⟨by kernel_rfl,?_⟩
   refine Qt ?_
   obtain rfl:=Qq hm
   exact ⟨trivial,Qk⟩
  clear hm
  refine Qy 101 hs (rfl) (fun hm=>?_) (fun hm=>?_)
  ·refine Qb 3 ?_
   refine QG (fun l=>Dat.lst ((List.map Qc) l)) p1 (es:=(List.map (fun l=>Dat.lst ((List.map Qc) l))) p1) rfl ?_
   refine Qb 2 ?_
   obtain rfl:=Qq hm
   exact hJ _ _
  refine Qb 6 ?_
  obtain rfl:=Qq hm
  exact hJ _ _
 refine Qe (R_G (Qb 2 (Qg ?_)))
 refine Qx hm (QO _ _) (fun hm=>?_) (fun hm=>?_)
 ·refine Qe (Qe (R_G (Qb 1 (Qg (Qz ?_)))))
  obtain ⟨out,hs,hm⟩:=Qf hm
  refine QT ?_
  rcases out with _|_
  ·refine RL_use (Qam _ _ hs) (by kernel_rfl) ?_
   clear hs
   intro e s hp
   obtain ⟨rfl,d,rfl⟩:=hp
   obtain rfl:=Qq hm
   exact ⟨trivial,Qk⟩
  ·refine RL_use (Qam _ _ hs) (by kernel_rfl) ?_
   clear hs
   intro e s hp
   obtain ⟨rfl,d,rfl⟩:=hp
   refine Qe ?_
   refine YM ?_
   refine Qb 2 ?_
   refine QG Qc p0.starts (es:=(List.map Qc) p0.starts) rfl ?_
   refine Qb 2 ?_
   refine QG Qc p0.shape (es:=(List.map Qc) p0.shape) rfl ?_
   refine Qb 2 ?_
   refine Qy 148 hm (QO _ _) (fun hm=>?_) (fun hm=>?_)
   ·refine Qb 2 ?_
    obtain ⟨v620,hx,hm⟩:=Qf hm
    refine Y2 8 Qa.toD p0.kids 0 v620 (es:=Qa.toDs p0.kids) (d:=(Qa.ex v620)) (Qa.toDs_eq _) hx (Qa.toD_eq v620) rfl ?_
    refine Qb 2 ?_
    refine QG Qc v620.shape (es:=(List.map Qc) v620.shape) rfl ?_
    refine Qb 2 ?_
    refine QG Qc p0.shape (es:=(List.map Qc) p0.shape) rfl ?_
    refine Qb 3 ?_
    refine Qg ⟨by kernel_rfl,?_⟩
    refine Qt ?_
    obtain rfl:=Qq hm
    exact ⟨trivial,Qk⟩
   refine Qb 12 ?_
   refine Qg ⟨by kernel_rfl,?_⟩
   refine Qt ?_
   obtain rfl:=Qq hm
   exact ⟨trivial,Qk⟩
 refine Qe (R_G (Qb 2 (Qg ?_)))
 refine Qx hm (QO _ _) (fun hm=>?_) (fun hm=>?_)
 ·refine Qe (R_G (Qb 1 ?_))
  obtain ⟨v621,hx,hm⟩:=Qf hm
  have hq:=QdP _ _ hx []
  refine Qr hq ?_
  refine Qb 1 (Qg (Qt ?_))
  obtain rfl:=Qq hm
  exact ⟨trivial,Qk⟩
 refine Qe (R_G (Qb 2 (Qg ?_)))
 refine Qx hm (QO _ _) (fun hm=>?_) (fun hm=>?_)
 ·refine Qe ?_
  refine Qgd ?_
  refine Qb 1 ?_
  obtain ⟨v622,hx,hm⟩:=Qf hm
  have hq:=QdP _ _ hx []
  refine Qr hq ?_
  refine Qb 1 ?_
  obtain ⟨v623,hs,hm⟩:=Qf hm
  refine ZS (j:=7) (fun d=>⟨sl d 197 [(2,(.ptr 0 0)),(172,(Qp v623))],[(.box [(Qd p0.kind),(.dat (.lst ((List.map Qc) p0.shape))),(Qd p0.buffer),(.dat (.lst ((List.map Qc) p0.starts))),(Qd p0.axis),(Qd p0.amount),(.dat (.lst ((List.map Qc) p0.perm))),(.dat (.lst (Qa.toDs p0.kids)))])]⟩) (fun d=>?_) (fun hJ=>?_)
  ·clear hs
   refine Qb 1 ?_
   refine Qy 173 hm (QC _) (fun hm=>?_) (fun hm=>?_)
   ·refine Qb 4 ?_
    refine Qy 177 hm (QO _ _) (fun hm=>?_) (fun hm=>?_)
    ·refine Qb 12 ?_
     refine Qg ⟨by kernel_rfl,?_⟩
     refine Qt ?_
     obtain rfl:=Qq hm
     exact ⟨trivial,Qk⟩
    refine Qb 6 ?_
    refine QF 1 Qc hm rfl (fun _=>rfl) (fun v624 hm=>?_)
    refine Qb 5 ?_
    refine Qg ⟨by kernel_rfl,?_⟩
    refine Qt ?_
    obtain rfl:=Qq hm
    exact ⟨trivial,Qk⟩
   refine Qb 16 ?_
   refine Qg ⟨by kernel_rfl,?_⟩
   refine Qt ?_
   obtain rfl:=Qq hm
   exact ⟨trivial,Qk⟩
  clear hm
  refine Qy 168 hs (QC _) (fun hm=>?_) (fun hm=>?_)
  ·refine Qb 4 ?_
   obtain rfl:=Qq hm
   exact hJ _ _
  refine Qb 4 ?_
  obtain rfl:=Qq hm
  exact hJ _ _
 refine Qe (R_G (Qb 2 (Qg ?_)))
 refine Qx hm (QO _ _) (fun hm=>?_) (fun hm=>?_)
 ·refine Qe (R_G (Qb 1 ?_))
  obtain ⟨v625,hx,hm⟩:=Qf hm
  have hq:=Qef _ _ hx []
  refine Qr hq ?_
  refine Qb 1 (Qg (Qt ?_))
  obtain rfl:=Qq hm
  exact ⟨trivial,Qk⟩
 refine Qe (R_G (Qb 2 (Qg ?_)))
 refine Qx hm (QO _ _) (fun hm=>?_) (fun hm=>?_)
 ·refine Qe (R_G (Qb 1 ?_))
  obtain ⟨v626,hx,hm⟩:=Qf hm
  have hq:=Qfn _ _ hx []
  refine Qr hq ?_
  refine Qb 1 (Qg (Qt ?_))
  obtain rfl:=Qq hm
  exact ⟨trivial,Qk⟩
 refine Qs (Qe (R_G (Qb 1 (Qg (Qt ?_)))))
 obtain rfl:=Qq hm
 exact ⟨trivial,Qk⟩
mutual
def ZC (x:(Qa × (List (List Int)) × Int)):Option (Unit ⊕ Unit) :=
 match x with
 | (p0,p1,v202) =>
 if v202 < (p0.kids.length:Int) then
  idx p0.kids v202>>=fun v602 =>
  XK (v602,p1)>>=fun (v603:Bool) =>
  if v603=false then
   some (Sum.inl ())
  else
  ZC (p0,p1,(W (v202+1)))
 else
 some (Sum.inr ())
 partial_fixpoint
def XK (x:(Qa × (List (List Int)))):Option Bool :=
 match x with
 | (p0,p1) =>
 Jh (p0,p1)>>=fun (v1:Bool) =>
 if v1=false then
  some false
 else
 (
 ZC (p0,p1,0)>>=fun (out:Unit ⊕ Unit) =>
 match out with
 | .inl _ =>
  some false
 | .inr (_) =>
  some true
 )
 partial_fixpoint
end
def JT:(Qa × (List (List Int)) × Int)→(Unit ⊕ Unit)→Prop:=fun x r=>match x with
 | (p0,p1,v202)=>∀ st,prune 1 ((Qw (QD [1,1,0,1,0,0] (QE f118))).bind (env.hint 118).keepAt) st=⟨kp 25 [(1,(.dat (.lst ((List.map (fun l=>Dat.lst ((List.map Qc) l))) p1)))),(2,(.ptr 0 0)),(5,(Qd v202))],[(.box [(Qd p0.kind),(.dat (.lst ((List.map Qc) p0.shape))),(Qd p0.buffer),(.dat (.lst ((List.map Qc) p0.starts))),(Qd p0.axis),(Qd p0.amount),(.dat (.lst ((List.map Qc) p0.perm))),(.dat (.lst (Qa.toDs p0.kids)))])]⟩ →
  RL prog env (env.hint 118) true (QD [1,1,0,1,0,0] (QE f118)) 1 st (fun e s=>match r with|.inl _=>e=.ret∧∃ d,s=⟨sl d 25 [(4,(Qp false))],[(.box [(Qd p0.kind),(.dat (.lst ((List.map Qc) p0.shape))),(Qd p0.buffer),(.dat (.lst ((List.map Qc) p0.starts))),(Qd p0.axis),(Qd p0.amount),(.dat (.lst ((List.map Qc) p0.perm))),(.dat (.lst (Qa.toDs p0.kids)))])]⟩|.inr (_)=>e=.exit 0∧∃ d,s=⟨sl d 25 [],[(.box [(Qd p0.kind),(.dat (.lst ((List.map Qc) p0.shape))),(Qd p0.buffer),(.dat (.lst ((List.map Qc) p0.starts))),(Qd p0.axis),(Qd p0.amount),(.dat (.lst ((List.map Qc) p0.perm))),(.dat (.lst (Qa.toDs p0.kids)))])]⟩)
def Qba:(Qa × (List (List Int)))→Bool→Prop:=fun x r=>match x,r with
 | (p0,p1),r0=>∀ H,PC prog env 118 ([(Qa.ex p0),(.lst ((List.map (fun l=>Dat.lst ((List.map Qc) l))) p1))].map .dat) H (Qp r0) H
theorem g_ref14_nodes_L1:(∀ x r,ZC x=some r→JT x r)∧(∀ x r,XK x=some r→Qba x r):=by
 refine ZC.mutual_partial_correctness JT Qba ?_ ?_
 ·intro ZC XK XW Qcs x r hm
  unfold JT
  obtain ⟨p0,p1,v202⟩:=x
  intro st hst
  refine RL_at hst ?_
  clear hst
  refine Qe (Qe (R_G (Qb 3 ?_)))
  refine QG Qa.toD p0.kids (es:=Qa.toDs p0.kids) (Qa.toDs_eq _) ?_
  refine Qb 1 (Qg ?_)
  refine Qx hm (rfl) (fun hm=>?_) (fun hm=>?_)
  ·refine Qs (Qe (Qz (Qe (R_G (Qb 3 ?_)))))
   obtain ⟨v602,hx,hm⟩:=Qf hm
   refine Y2 8 Qa.toD p0.kids v202 v602 (es:=Qa.toDs p0.kids) (d:=(Qa.ex v602)) (Qa.toDs_eq _) hx (Qa.toD_eq v602) rfl ?_
   refine Qb 2 ?_
   obtain ⟨v603,hx,hm⟩:=Qf hm
   have hq:=Qcs _ _ hx []
   refine Qr hq ?_
   refine Qb 1 (Qg ?_)
   refine Qx hm (ZL _) (fun hm=>?_) (fun hm=>?_)
   ·refine Qe (R_G (Qb 1 (Qg (Qt ?_))))
    obtain rfl:=Qq hm
    exact ⟨rfl,Qm⟩
   refine Qs (R_G (Qb 3 (Qg ?_)))
   exact XW _ _ hm _ (by kernel_rfl)
  refine QP ?_
  obtain rfl:=Qq hm
  exact ⟨rfl,Qm⟩
 ·intro ZC XW x r0 hm
  unfold Qba
  obtain ⟨p0,p1⟩:=x
  intro H
  refine PC_sx (ds:=[(Qa.ex p0),(.lst ((List.map (fun l=>Dat.lst ((List.map Qc) l))) p1))]) (fn:=f118) rfl ?_
  refine Qe (R_G (Qb 2 (Qg (Qe (Qe (R_G (Qb 2 ?_)))))))
  obtain ⟨v1,hx,hm⟩:=Qf hm
  have hq:=QfK _ _ hx []
  refine Qr hq ?_
  refine Qb 1 (Qg ?_)
  refine Qx hm (ZL _) (fun hm=>?_) (fun hm=>?_)
  ·refine Qe (R_G (Qb 1 (Qg (Qt ?_))))
   obtain rfl:=Qq hm
   exact ⟨trivial,Qk⟩
  refine Qs (Qe (Qe (R_G (Qb 1 (Qg (Qz ?_))))))
  obtain ⟨out,hs,hm⟩:=Qf hm
  refine QT ?_
  rcases out with _|_
  ·refine RL_use (XW _ _ hs) (by kernel_rfl) ?_
   clear hs
   intro e s hp
   obtain ⟨rfl,d,rfl⟩:=hp
   obtain rfl:=Qq hm
   exact ⟨trivial,Qk⟩
  ·refine RL_use (XW _ _ hs) (by kernel_rfl) ?_
   clear hs
   intro e s hp
   obtain ⟨rfl,d,rfl⟩:=hp
   refine Qe (R_G (Qb 1 (Qg (Qt ?_))))
   obtain rfl:=Qq hm
   exact ⟨trivial,Qk⟩
theorem XW:∀ x r,ZC x=some r→JT x r:=g_ref14_nodes_L1.1
theorem Qcs:∀ x r,XK x=some r→Qba x r:=g_ref14_nodes_L1.2
def Qbg (x:(Qa × (List (List Int)))):Option Bool :=
 match x with
 | (p0,p1) =>
 XH p0>>=fun (v1:Int) =>
 if v1≤300 then
  XK (p0,p1)>>=fun (v2:Bool) =>
  some v2
 else
 some false
def QdY:(Qa × (List (List Int)))→Bool→Prop:=fun x r=>match x,r with
 | (p0,p1),r0=>∀ H,PC prog env 96 ([(Qa.ex p0),(.lst ((List.map (fun l=>Dat.lst ((List.map Qc) l))) p1))].map .dat) H (Qp r0) H
theorem Qfz:∀ x r,Qbg x=some r→QdY x r:=by
 intro x r0 hm
 unfold Qbg at hm
 unfold QdY
 obtain ⟨p0,p1⟩:=x
 intro H
 refine PC_sx (ds:=[(Qa.ex p0),(.lst ((List.map (fun l=>Dat.lst ((List.map Qc) l))) p1))]) (fn:=f96) rfl ?_
 refine Qe (R_G (Qb 2 (Qg (Qe (R_G (Qb 1 ?_))))))
 obtain ⟨v1,hx,hm⟩:=Qf hm
 have hq:=Qcp _ _ hx []
 refine Qr hq ?_
 refine Qb 2 ?_
 refine Qy 8 hm (rfl) (fun hm=>?_) (fun hm=>?_)
 ·refine Qb 2 ?_
  obtain ⟨v2,hx,hm⟩:=Qf hm
  have hq:=Qcs _ _ hx []
  refine Qr hq ?_
  refine Qb 2 (Qg (Qt ?_))
  obtain rfl:=Qq hm
  exact ⟨trivial,Qk⟩
 refine Qb 5 (Qg (Qt ?_))
 obtain rfl:=Qq hm
 exact ⟨trivial,Qk⟩
mutual
def ZD (x:(Qa × Int × Int)):Option (Unit ⊕ Unit) :=
 match x with
 | (p0,p1,v202) =>
 if v202 < (p0.kids.length:Int) then
  idx p0.kids v202>>=fun v602 =>
  XG (v602,p1)>>=fun (v603:Bool) =>
  if v603=false then
   some (Sum.inl ())
  else
  ZD (p0,p1,(W (v202+1)))
 else
 some (Sum.inr ())
 partial_fixpoint
def XG (x:(Qa × Int)):Option Bool :=
 match x with
 | (p0,p1) =>
 Jn (p0.shape,p1)>>=fun (v1:Bool) =>
 if v1=false then
  some false
 else
 (
 ZD (p0,p1,0)>>=fun (out:Unit ⊕ Unit) =>
 match out with
 | .inl _ =>
  some false
 | .inr (_) =>
  some true
 )
 partial_fixpoint
end
def JH:(Qa × Int × Int)→(Unit ⊕ Unit)→Prop:=fun x r=>match x with
 | (p0,p1,v202)=>∀ st,prune 1 ((Qw (QD [1,1,0,1,0,0] (QE f97))).bind (env.hint 97).keepAt) st=⟨kp 26 [(1,(Qd p1)),(2,(.ptr 0 0)),(5,(Qd v202))],[(.box [(Qd p0.kind),(.dat (.lst ((List.map Qc) p0.shape))),(Qd p0.buffer),(.dat (.lst ((List.map Qc) p0.starts))),(Qd p0.axis),(Qd p0.amount),(.dat (.lst ((List.map Qc) p0.perm))),(.dat (.lst (Qa.toDs p0.kids)))])]⟩ →
  RL prog env (env.hint 97) true (QD [1,1,0,1,0,0] (QE f97)) 1 st (fun e s=>match r with|.inl _=>e=.ret∧∃ d,s=⟨sl d 26 [(4,(Qp false))],[(.box [(Qd p0.kind),(.dat (.lst ((List.map Qc) p0.shape))),(Qd p0.buffer),(.dat (.lst ((List.map Qc) p0.starts))),(Qd p0.axis),(Qd p0.amount),(.dat (.lst ((List.map Qc) p0.perm))),(.dat (.lst (Qa.toDs p0.kids)))])]⟩|.inr (_)=>e=.exit 0∧∃ d,s=⟨sl d 26 [],[(.box [(Qd p0.kind),(.dat (.lst ((List.map Qc) p0.shape))),(Qd p0.buffer),(.dat (.lst ((List.map Qc) p0.starts))),(Qd p0.axis),(Qd p0.amount),(.dat (.lst ((List.map Qc) p0.perm))),(.dat (.lst (Qa.toDs p0.kids)))])]⟩)
def Qbf:(Qa × Int)→Bool→Prop:=fun x r=>match x,r with
 | (p0,p1),r0=>∀ H,PC prog env 97 ([(Qa.ex p0),(Qc p1)].map .dat) H (Qp r0) H
theorem g_ref14_cells_L1:(∀ x r,ZD x=some r→JH x r)∧(∀ x r,XG x=some r→Qbf x r):=by
 refine ZD.mutual_partial_correctness JH Qbf ?_ ?_
 ·intro ZD XG X0 Qct x r hm
  unfold JH
  obtain ⟨p0,p1,v202⟩:=x
  intro st hst
  refine RL_at hst ?_
  clear hst
  refine Qe (Qe (R_G (Qb 3 ?_)))
  refine QG Qa.toD p0.kids (es:=Qa.toDs p0.kids) (Qa.toDs_eq _) ?_
  refine Qb 1 (Qg ?_)
  refine Qx hm (rfl) (fun hm=>?_) (fun hm=>?_)
  ·refine Qs (Qe (Qz (Qe (R_G (Qb 3 ?_)))))
   obtain ⟨v602,hx,hm⟩:=Qf hm
   refine Y2 8 Qa.toD p0.kids v202 v602 (es:=Qa.toDs p0.kids) (d:=(Qa.ex v602)) (Qa.toDs_eq _) hx (Qa.toD_eq v602) rfl ?_
   refine Qb 2 ?_
   obtain ⟨v603,hx,hm⟩:=Qf hm
   have hq:=Qct _ _ hx []
   refine Qr hq ?_
   refine Qb 1 (Qg ?_)
   refine Qx hm (ZL _) (fun hm=>?_) (fun hm=>?_)
   ·refine Qe (R_G (Qb 1 (Qg (Qt ?_))))
    obtain rfl:=Qq hm
    exact ⟨rfl,Qm⟩
   refine Qs (R_G (Qb 3 (Qg ?_)))
   exact X0 _ _ hm _ (by kernel_rfl)
  refine QP ?_
  obtain rfl:=Qq hm
  exact ⟨rfl,Qm⟩
 ·intro ZD X0 x r0 hm
  unfold Qbf
  obtain ⟨p0,p1⟩:=x
  intro H
  refine PC_sx (ds:=[(Qa.ex p0),(Qc p1)]) (fn:=f97) rfl ?_
  refine Qe (R_G (Qb 2 (Qg (Qe (Qe (R_G (Qb 3 ?_)))))))
  obtain ⟨v1,hx,hm⟩:=Qf hm
  have hq:=QdM _ _ hx []
  refine Qr hq ?_
  refine Qb 1 (Qg ?_)
  refine Qx hm (ZL _) (fun hm=>?_) (fun hm=>?_)
  ·refine Qe (R_G (Qb 1 (Qg (Qt ?_))))
   obtain rfl:=Qq hm
   exact ⟨trivial,Qk⟩
  refine Qs (Qe (Qe (R_G (Qb 1 (Qg (Qz ?_))))))
  obtain ⟨out,hs,hm⟩:=Qf hm
  refine QT ?_
  rcases out with _|_
  ·refine RL_use (X0 _ _ hs) (by kernel_rfl) ?_
   clear hs
   intro e s hp
   obtain ⟨rfl,d,rfl⟩:=hp
   obtain rfl:=Qq hm
   exact ⟨trivial,Qk⟩
  ·refine RL_use (X0 _ _ hs) (by kernel_rfl) ?_
   clear hs
   intro e s hp
   obtain ⟨rfl,d,rfl⟩:=hp
   refine Qe (R_G (Qb 1 (Qg (Qt ?_))))
   obtain rfl:=Qq hm
   exact ⟨trivial,Qk⟩
theorem X0:∀ x r,ZD x=some r→JH x r:=g_ref14_cells_L1.1
theorem Qct:∀ x r,XG x=some r→Qbf x r:=g_ref14_cells_L1.2
def J5 (x:(Qa × (List (List Int)) × Int)):Option Bool :=
 match x with
 | (p0,p1,p2) =>
 (if (p1.length:Int)≤20 then
  Qbr (p0,60)>>=fun (v2:Bool) =>
  some v2
 else
 some false
 )>>=fun (v1:Bool) =>
 (if v1=true then
  Qbg (p0,p1)>>=fun (v4:Bool) =>
  some v4
 else
 some false
 )>>=fun (v3:Bool) =>
 if v3=true then
  XG (p0,p2)>>=fun (v5:Bool) =>
  some v5
 else
 some false
def Qd6:(Qa × (List (List Int)) × Int)→Bool→Prop:=fun x r=>match x,r with
 | (p0,p1,p2),r0=>∀ H,PC prog env 64 ([(Qa.ex p0),(.lst ((List.map (fun l=>Dat.lst ((List.map Qc) l))) p1)),(Qc p2)].map .dat) H (Qp r0) H
theorem Qfp:∀ x r,J5 x=some r→Qd6 x r:=by
 intro x r0 hm
 unfold J5 at hm
 unfold Qd6
 obtain ⟨p0,p1,p2⟩:=x
 intro H
 refine PC_sx (ds:=[(Qa.ex p0),(.lst ((List.map (fun l=>Dat.lst ((List.map Qc) l))) p1)),(Qc p2)]) (fn:=f64) rfl ?_
 refine Qe (R_G (Qb 2 (Qg (Qe ?_))))
 refine Qdd ?_
 refine Qb 1 ?_
 refine QG (fun l=>Dat.lst ((List.map Qc) l)) p1 (es:=(List.map (fun l=>Dat.lst ((List.map Qc) l))) p1) rfl ?_
 refine Qb 2 ?_
 obtain ⟨v1,hs,hm⟩:=Qf hm
 refine ZS (j:=7) (fun d=>⟨sl d 24 [(1,(.dat (.lst ((List.map (fun l=>Dat.lst ((List.map Qc) l))) p1)))),(2,(Qd p2)),(3,(.ptr 0 0)),(6,(Qp false)),(13,(Qp v1))],[(.box [(Qd p0.kind),(.dat (.lst ((List.map Qc) p0.shape))),(Qd p0.buffer),(.dat (.lst ((List.map Qc) p0.starts))),(Qd p0.axis),(Qd p0.amount),(.dat (.lst ((List.map Qc) p0.perm))),(.dat (.lst (Qa.toDs p0.kids)))])]⟩) (fun d=>?_) (fun hJ=>?_)
 ·clear hs
  refine Qb 1 ?_
  obtain ⟨v3,hs,hm⟩:=Qf hm
  refine ZS (j:=12) (fun d=>⟨sl d 24 [(2,(Qd p2)),(3,(.ptr 0 0)),(6,(Qp false)),(18,(Qp v3))],[(.box [(Qd p0.kind),(.dat (.lst ((List.map Qc) p0.shape))),(Qd p0.buffer),(.dat (.lst ((List.map Qc) p0.starts))),(Qd p0.axis),(Qd p0.amount),(.dat (.lst ((List.map Qc) p0.perm))),(.dat (.lst (Qa.toDs p0.kids)))])]⟩) (fun d=>?_) (fun hJ=>?_)
  ·clear hs
   refine Qb 1 ?_
   refine Qy 19 hm (QC _) (fun hm=>?_) (fun hm=>?_)
   ·refine Qb 2 ?_
    obtain ⟨v5,hx,hm⟩:=Qf hm
    have hq:=Qct _ _ hx []
    refine Qr hq ?_
    refine Qb 2 ?_
    refine Qg ⟨by kernel_rfl,?_⟩
    refine Qt ?_
    obtain rfl:=Qq hm
    exact ⟨trivial,Qk⟩
   refine Qb 5 ?_
   refine Qg ⟨by kernel_rfl,?_⟩
   refine Qt ?_
   obtain rfl:=Qq hm
   exact ⟨trivial,Qk⟩
  clear hm
  refine Qy 14 hs (QC _) (fun hm=>?_) (fun hm=>?_)
  ·refine Qb 2 ?_
   obtain ⟨v4,hx,hm⟩:=Qf hm
   have hq:=Qfz _ _ hx []
   refine Qr hq ?_
   refine Qb 1 ?_
   obtain rfl:=Qq hm
   exact hJ _ _
  refine Qb 4 ?_
  obtain rfl:=Qq hm
  exact hJ _ _
 clear hm
 refine Qy 10 hs (rfl) (fun hm=>?_) (fun hm=>?_)
 ·refine Qb 1 ?_
  obtain ⟨v2,hx,hm⟩:=Qf hm
  have hq:=QfP _ _ hx []
  refine Qr hq ?_
  refine Qb 1 ?_
  obtain rfl:=Qq hm
  exact hJ _ _
 refine Qb 3 ?_
 obtain rfl:=Qq hm
 exact hJ _ _
def Qbj (x:(Qv × Int)):Option Bool :=
 match x with
 | (p0,p1) =>
 JB p0>>=fun (v1:(List (List Int))) =>
 J5 ((⟨p0.core.kind,p0.core.shape,p0.core.buffer,p0.core.starts,p0.core.axis,p0.core.amount,p0.core.perm,p0.core.kids⟩:Qa),v1,p1)>>=fun (v2:Bool) =>
 some v2
def QdZ:(Qv × Int)→Bool→Prop:=fun x r=>match x,r with
 | (p0,p1),r0=>∀ H,PC prog env 35 ([(Qv.toD p0),(Qc p1)].map .dat) H (Qp r0) H
theorem Qfs:∀ x r,Qbj x=some r→QdZ x r:=by
 intro x r0 hm
 unfold Qbj at hm
 unfold QdZ
 obtain ⟨p0,p1⟩:=x
 intro H
 refine PC_sx (ds:=[(Qv.toD p0),(Qc p1)]) (fn:=f35) rfl ?_
 refine Qe (R_G (Qb 2 (Qg (Qe ?_))))
 refine YM ?_
 refine Qb 3 ?_
 obtain ⟨v1,hx,hm⟩:=Qf hm
 have hq:=Qfj _ _ hx []
 refine Qr hq ?_
 refine Qb 1 ?_
 obtain ⟨v2,hx,hm⟩:=Qf hm
 have hq:=Qfp _ _ hx []
 refine Qr hq ?_
 refine Qb 1 ?_
 refine Qg ⟨by kernel_rfl,?_⟩
 refine Qt ?_
 obtain rfl:=Qq hm
 exact ⟨trivial,Qk⟩
def QaQ (x:(Qv × Int)):Option Bool :=
 match x with
 | (p0,p1) =>
 Qbj ((⟨(⟨p0.core.kind,p0.core.shape,p0.core.buffer,p0.core.starts,p0.core.axis,p0.core.amount,p0.core.perm,p0.core.kids⟩:Qa),p0.sources⟩:Qv),p1)>>=fun (v1:Bool) =>
 if v1=true then
  YL p0.core.shape>>=fun (v2:Int) =>
  some (decide (v2≤p1))
 else
 some false
def Qen:(Qv × Int)→Bool→Prop:=fun x r=>match x,r with
 | (p0,p1),r0=>∀ H,PC prog env 16 ([(Qv.toD p0),(Qc p1)].map .dat) H (Qp r0) H
theorem QfG:∀ x r,QaQ x=some r→Qen x r:=by
 intro x r0 hm
 unfold QaQ at hm
 unfold Qen
 obtain ⟨p0,p1⟩:=x
 intro H
 refine PC_sx (ds:=[(Qv.toD p0),(Qc p1)]) (fn:=f16) rfl ?_
 refine Qe (R_G (Qb 2 (Qg (Qe (R_G (Qb 2 ?_))))))
 obtain ⟨v1,hx,hm⟩:=Qf hm
 have hq:=Qfs _ _ hx []
 refine Qr hq ?_
 refine Qb 1 ?_
 refine Qy 8 hm (QC _) (fun hm=>?_) (fun hm=>?_)
 ·refine Qb 3 ?_
  obtain ⟨v2,hx,hm⟩:=Qf hm
  have hq:=J7 _ _ hx []
  refine Qr hq ?_
  refine Qb 4 (Qg (Qt ?_))
  obtain rfl:=Qq hm
  exact ⟨trivial,Qk⟩
 refine Qb 8 (Qg (Qt ?_))
 obtain rfl:=Qq hm
 exact ⟨trivial,Qk⟩
def Qbs (x:((List Qn) × Qh)):Option (Qv × Bool) :=
 match x with
 | (p0,p1) =>
 (J9 (p0,300)>>=fun (v2:Bool) =>
 if v2=false then
  some true
 else
 J8 ((⟨p1.kind,p1.fn,p1.axis,p1.name,p1.nums,p1.kids⟩:Qh),40)>>=fun (v3:Bool) =>
 some (!v3)
 )>>=fun (v1:Bool) =>
 if v1=true then
  some ((⟨(⟨0,([]:(List Int)),0,([]:(List Int)),0,0,([]:(List Int)),([]:(List Qa))⟩:Qa),([]:(List Ql))⟩:Qv),false)
 else
 QbM (p0,(⟨p1.kind,p1.fn,p1.axis,p1.name,p1.nums,p1.kids⟩:Qh))>>=fun ((v4,v5):(Qv × Int)) =>
 if v5=0 then
  QaQ ((⟨(⟨v4.core.kind,v4.core.shape,v4.core.buffer,v4.core.starts,v4.core.axis,v4.core.amount,v4.core.perm,v4.core.kids⟩:Qa),v4.sources⟩:Qv),400)>>=fun (v6:Bool) =>
  some ((⟨(⟨v4.core.kind,v4.core.shape,v4.core.buffer,v4.core.starts,v4.core.axis,v4.core.amount,v4.core.perm,v4.core.kids⟩:Qa),v4.sources⟩:Qv),v6)
 else
 some ((⟨(⟨v4.core.kind,v4.core.shape,v4.core.buffer,v4.core.starts,v4.core.axis,v4.core.amount,v4.core.perm,v4.core.kids⟩:Qa),v4.sources⟩:Qv),false)
def Qe0:((List Qn) × Qh)→(Qv × Bool)→Prop:=fun x r=>match x,r with
 | (p0,p1),(r0,r1)=>∀ H,PC prog env 4 ([(.lst ((List.map Qn.toD) p0)),(Qh.ex p1)].map .dat) H (.tup [(.dat (Qv.toD r0)),(Qp r1)]) H
theorem QfO:∀ x r,Qbs x=some r→Qe0 x r:=by
 intro x r hm
 unfold Qbs at hm
 unfold Qe0
 obtain ⟨p0,p1⟩:=x
 obtain ⟨r0,r1⟩:=r
 intro H
 refine PC_sx (ds:=[(.lst ((List.map Qn.toD) p0)),(Qh.ex p1)]) (fn:=f4) rfl ?_
 refine Qe (R_G (Qb 3 (Qg (Qe (Qe ?_)))))
 obtain ⟨v1,hs,hm⟩:=Qf hm
 refine Q7 (fun d=>⟨sl d 30 [(0,(.dat (.lst ((List.map Qn.toD) p0)))),(3,(.ptr 0 0)),(4,(.ptr 1 0)),(15,(Qp v1))],[(.box [(Qd p1.kind),(Qd p1.fn),(Qd p1.axis),(.dat (strD p1.name)),(.dat (.lst ((List.map Qc) p1.nums))),(.dat (.lst (Qh.toDs p1.kids)))]),(.box [(Qd 0),(.dat (.lst ((List.map Qc) []))),(Qd 0),(.dat (.lst ((List.map Qc) []))),(Qd 0),(Qd 0),(.dat (.lst ((List.map Qc) []))),(.dat (.lst (Qa.toDs []))),(.dat (.lst ((List.map Ql.toD) [])))])]⟩) ?_ (fun d=>?_)
 ·replace hm:=hs
  clear hs
  refine R_G (Qb 1 ?_)
  obtain ⟨v2,hx,hm⟩:=Qf hm
  have hq:=Qfq _ _ hx []
  refine Qr hq ?_
  refine Qb 2 ?_
  refine Qy 11 hm (ZL _) (fun hm=>?_) (fun hm=>?_)
  ·refine Qb 4 (Qg ?_)
   obtain rfl:=Qq hm
   exact Qm
  refine Qb 1 ?_
  obtain ⟨v3,hx,hm⟩:=Qf hm
  have hq:=Qfy _ _ hx []
  refine Qr hq ?_
  refine Qb 2 (Qg ?_)
  obtain rfl:=Qq hm
  exact Qm
 clear hs
 refine Qx hm (QC _) (fun hm=>?_) (fun hm=>?_)
 ·refine Qe (R_G (Qb 3 (Qg (Qt ?_))))
  obtain ⟨rfl,rfl⟩:=Zn hm
  exact ⟨trivial,Qk⟩
 refine Qs (Qe (R_G (Qb 2 ?_)))
 obtain ⟨⟨v4,v5⟩,hx,hm⟩:=Qf hm
 have hq:=QfF _ _ hx []
 refine Qr hq ?_
 refine Qb 6 (Qg (Qe ?_))
 refine YM ?_
 refine Qb 4 ?_
 refine Qy 26 hm (QO _ _) (fun hm=>?_) (fun hm=>?_)
 ·refine Qb 1 ?_
  obtain ⟨v6,hx,hm⟩:=Qf hm
  have hq:=QfG _ _ hx []
  refine Qr hq ?_
  refine Qb 3 ?_
  refine Qg ⟨by kernel_rfl,?_⟩
  refine Qt ?_
  obtain ⟨rfl,rfl⟩:=Zn hm
  exact ⟨trivial,Qk⟩
 refine Qb 5 ?_
 refine Qg ⟨by kernel_rfl,?_⟩
 refine Qt ?_
 obtain ⟨rfl,rfl⟩:=Zn hm
 exact ⟨trivial,Qk⟩
def Qbo (x:Unit):Option Bool:=some true
def Qfw:Unit→Bool→Prop:=fun x r=>∀ H,PC prog env 5 ([].map .dat) H (Qp r) H
theorem QdK:∀ x r,Qbo x=some r→Qfw x r:=by
 intro x r hm
 cases hm
 intro H
 exact PC_of (n:=200) (by kernel_rfl)
mutual
def ZP (x:(Qa × (List Qi) × Int)):Option ((List Qi)) :=
 match x with
 | (p0,v201,v202) =>
 if v202 < (p0.kids.length:Int) then
  idx p0.kids v202>>=fun v602 =>
  Jg v602>>=fun (v603:Qi) =>
  app 128 v201 ([v603]:List Qi)>>=fun v604 =>
  ZP (p0,v604,(W (v202+1)))
 else
 some v201
 partial_fixpoint
def Jg (x:Qa):Option Qi :=
 match x with
 | p0 =>
 ZP (p0,([]:List Qi),0)>>=fun (v601:(List Qi)) =>
 some (⟨p0.kind,p0.shape,p0.buffer,p0.starts,p0.axis,p0.amount,p0.perm,v601⟩:Qi)
 partial_fixpoint
end
def Qan:(Qa × (List Qi) × Int)→(List Qi)→Prop:=fun x r=>match x with
 | (p0,v201,v202)=>∀ st,prune 5 ((Qw (QD [1,1,0,1,0,0] (QE f20))).bind (env.hint 20).keepAt) st=⟨kp 39 [(1,(.ptr 0 0)),(2,(.ptr 1 0)),(3,(.ptr 3 0)),(4,(Qd v202))],[(.box [(Qd p0.kind),(.dat (.lst ((List.map Qc) p0.shape))),(Qd p0.buffer),(.dat (.lst ((List.map Qc) p0.starts))),(Qd p0.axis),(Qd p0.amount),(.dat (.lst ((List.map Qc) p0.perm))),(.dat (.lst (Qa.toDs p0.kids)))]),(.box [(Qd 0),(.dat (.lst ((List.map Qc) []))),(Qd 0),(.dat (.lst ((List.map Qc) []))),(Qd 0),(Qd 0),(.dat (.lst ((List.map Qc) []))),(.dat (.lst (Qi.toDs [])))]),(.tok 39 v201.length),(.box [(Qd p0.kind),(.dat (.lst ((List.map Qc) p0.shape))),(Qd p0.buffer),(.dat (.lst ((List.map Qc) p0.starts))),(Qd p0.axis),(Qd p0.amount),(.dat (.lst ((List.map Qc) p0.perm))),(.vec 2 (Qi.toDs v201))]),(.tok 39 (([]:List Qi).length))]⟩ →
  RL prog env (env.hint 20) true (QD [1,1,0,1,0,0] (QE f20)) 5 st (fun e s=>match r with|v601=>e=.exit 0∧∃ d,s=⟨sl d 39 [(2,(.ptr 1 0)),(3,(.ptr 3 0))],[(.box [(Qd p0.kind),(.dat (.lst ((List.map Qc) p0.shape))),(Qd p0.buffer),(.dat (.lst ((List.map Qc) p0.starts))),(Qd p0.axis),(Qd p0.amount),(.dat (.lst ((List.map Qc) p0.perm))),(.dat (.lst (Qa.toDs p0.kids)))]),(.box [(Qd 0),(.dat (.lst ((List.map Qc) []))),(Qd 0),(.dat (.lst ((List.map Qc) []))),(Qd 0),(Qd 0),(.dat (.lst ((List.map Qc) []))),(.dat (.lst (Qi.toDs [])))]),(.tok 39 v601.length),(.box [(Qd p0.kind),(.dat (.lst ((List.map Qc) p0.shape))),(Qd p0.buffer),(.dat (.lst ((List.map Qc) p0.starts))),(Qd p0.axis),(Qd p0.amount),(.dat (.lst ((List.map Qc) p0.perm))),(.vec 2 (Qi.toDs v601))]),(.tok 39 (([]:List Qi).length))]⟩)
def QbJ:Qa→Qi→Prop:=fun x r=>match x,r with
 | p0,r0=>∀ H,PC prog env 20 ([(Qa.ex p0)].map .dat) H (.dat (Qi.ex r0)) H
theorem g_law14_Core_L1:(∀ x r,ZP x=some r→Qan x r)∧(∀ x r,Jg x=some r→QbJ x r):=by
 refine ZP.mutual_partial_correctness Qan QbJ ?_ ?_
 ·intro ZP Jg Qae QcS x r hm
  unfold Qan
  obtain ⟨p0,v201,v202⟩:=x
  intro st hst
  refine RL_at hst ?_
  clear hst
  refine Qe (Qe (R_G (Qb 3 ?_)))
  refine QG Qa.toD p0.kids (es:=Qa.toDs p0.kids) (Qa.toDs_eq _) ?_
  refine Qb 1 (Qg ?_)
  refine Qx hm (rfl) (fun hm=>?_) (fun hm=>?_)
  ·refine Qs (Qe (Qz ?_))
   refine YM ?_
   refine Qb 5 ?_
   obtain ⟨v602,hx,hm⟩:=Qf hm
   refine Y2 8 Qa.toD p0.kids v202 v602 (es:=Qa.toDs p0.kids) (d:=(Qa.ex v602)) (Qa.toDs_eq _) hx (Qa.toD_eq v602) rfl ?_
   refine Qb 1 ?_
   obtain ⟨v603,hx,hm⟩:=Qf hm
   have hq:=QcS _ _ hx []
   refine Qr hq ?_
   refine Qb 1 ?_
   obtain ⟨v604,hx,hm⟩:=Qf hm
   refine YZ 39 8 128 2 Qi.toD v201 ([v603]:List Qi) v604 (xs:=Qi.toDs v201) (es:=[(Qi.ex v603)]) (L:=Qi.toDs) Qi.toDs_eq rfl (by simp only [Qi.toDs,Qi.toD_eq]) Qi.fit hx ?_
   refine Qb 2 ?_
   refine Qg ⟨by kernel_rfl,?_⟩
   refine R_G (Qb 3 (Qg ?_))
   exact Qae _ _ hm _ (by kernel_rfl)
  refine QP ?_
  obtain rfl:=Qq hm
  exact ⟨rfl,Qm⟩
 ·intro ZP Qae p0 r0 hm
  unfold QbJ
  intro H
  refine PC_sx (ds:=[(Qa.ex p0)]) (fn:=f20) rfl ?_
  refine Qe (R_G (Qb 2 (Qg (Qe (R_G (Qb 17 (Qg (Qe (Qe (R_G (Qb 1 ?_)))))))))))
  refine Qg (Qz ?_)
  obtain ⟨v601,hs,hm⟩:=Qf hm
  refine QT ?_
  refine RL_use (Qae _ _ hs) (by kernel_rfl) ?_
  clear hs
  intro e s hp
  obtain ⟨rfl,d,rfl⟩:=hp
  refine Qe (R_G (Qb 2 (Qg (Qt ?_))))
  obtain rfl:=Qq hm
  exact ⟨trivial,Qk⟩
theorem Qae:∀ x r,ZP x=some r→Qan x r:=g_law14_Core_L1.1
theorem QcS:∀ x r,Jg x=some r→QbJ x r:=g_law14_Core_L1.2
def ZN (x:(Qv × Qi × (List QB) × Int)):Option ((List QB)) :=
 match x with
 | (p0,v1,v202,v203) =>
 if v203 < (p0.sources.length:Int) then
  idx p0.sources v203>>=fun v603 =>
  app 64 v202 ([(⟨v603.name,v603.value⟩:QB)]:List QB)>>=fun v604 =>
  ZN (p0,v1,v604,(W (v203+1)))
 else
 some v202
 partial_fixpoint
def Qb6:(Qv × Qi × (List QB) × Int)→(List QB)→Prop:=fun x r=>match x with
 | (p0,v1,v202,v203)=>∀ st,prune 5 ((Qw (QD [1,1,0,1,0,0] (QE f6))).bind (env.hint 6).keepAt) st=⟨kp 27 [(1,(.ptr 0 0)),(2,(.ptr 1 0)),(3,(.ptr 3 0)),(4,(Qd v203))],[(.box [(Qd p0.core.kind),(.dat (.lst ((List.map Qc) p0.core.shape))),(Qd p0.core.buffer),(.dat (.lst ((List.map Qc) p0.core.starts))),(Qd p0.core.axis),(Qd p0.core.amount),(.dat (.lst ((List.map Qc) p0.core.perm))),(.dat (.lst (Qa.toDs p0.core.kids))),(.dat (.lst ((List.map Ql.toD) p0.sources)))]),(.box [(Qd 0),(.dat (.lst ((List.map Qc) []))),(Qd 0),(.dat (.lst ((List.map Qc) []))),(Qd 0),(Qd 0),(.dat (.lst ((List.map Qc) []))),(.dat (.lst (Qi.toDs []))),(.dat (.lst ((List.map QB.toD) [])))]),(.tok 70 v202.length),(.box [(Qd v1.kind),(.dat (.lst ((List.map Qc) v1.shape))),(Qd v1.buffer),(.dat (.lst ((List.map Qc) v1.starts))),(Qd v1.axis),(Qd v1.amount),(.dat (.lst ((List.map Qc) v1.perm))),(.dat (.lst (Qi.toDs v1.kids))),(.vec 2 ((List.map QB.toD) v202))]),(.tok 70 (([]:List QB).length))]⟩ →
  RL prog env (env.hint 6) true (QD [1,1,0,1,0,0] (QE f6)) 5 st (fun e s=>match r with|v602=>e=.exit 0∧∃ d,s=⟨sl d 27 [(2,(.ptr 1 0)),(3,(.ptr 3 0))],[(.box [(Qd p0.core.kind),(.dat (.lst ((List.map Qc) p0.core.shape))),(Qd p0.core.buffer),(.dat (.lst ((List.map Qc) p0.core.starts))),(Qd p0.core.axis),(Qd p0.core.amount),(.dat (.lst ((List.map Qc) p0.core.perm))),(.dat (.lst (Qa.toDs p0.core.kids))),(.dat (.lst ((List.map Ql.toD) p0.sources)))]),(.box [(Qd 0),(.dat (.lst ((List.map Qc) []))),(Qd 0),(.dat (.lst ((List.map Qc) []))),(Qd 0),(Qd 0),(.dat (.lst ((List.map Qc) []))),(.dat (.lst (Qi.toDs []))),(.dat (.lst ((List.map QB.toD) [])))]),(.tok 70 v602.length),(.box [(Qd v1.kind),(.dat (.lst ((List.map Qc) v1.shape))),(Qd v1.buffer),(.dat (.lst ((List.map Qc) v1.starts))),(Qd v1.axis),(Qd v1.amount),(.dat (.lst ((List.map Qc) v1.perm))),(.dat (.lst (Qi.toDs v1.kids))),(.vec 2 ((List.map QB.toD) v602))]),(.tok 70 (([]:List QB).length))]⟩)
theorem Qat:∀ x r,ZN x=some r→Qb6 x r:=by
 refine ZN.partial_correctness _ (fun ZN Qat x r hm=>?_)
 unfold Qb6
 obtain ⟨p0,v1,v202,v203⟩:=x
 intro st hst
 refine RL_at hst ?_
 clear hst
 refine Qe (Qe (R_G (Qb 3 ?_)))
 refine QG Ql.toD p0.sources (es:=(List.map Ql.toD) p0.sources) rfl ?_
 refine Qb 1 (Qg ?_)
 refine Qx hm (rfl) (fun hm=>?_) (fun hm=>?_)
 ·refine Qs (Qe (Qz ?_))
  refine YM ?_
  refine Qb 5 ?_
  refine QF 3 Ql.toD hm rfl (fun _=>rfl) (fun v603 hm=>?_)
  refine Qb 2 ?_
  obtain ⟨v604,hx,hm⟩:=Qf hm
  refine YZ 70 3 64 2 QB.toD v202 ([(⟨v603.name,v603.value⟩:QB)]:List QB) v604 (xs:=(List.map QB.toD) v202) (es:=(List.map QB.toD) ([(⟨v603.name,v603.value⟩:QB)]:List QB)) (L:=(List.map QB.toD)) (fun _=>rfl) rfl rfl QB.fit hx ?_
  refine Qb 2 ?_
  refine Qg ⟨by kernel_rfl,?_⟩
  refine R_G (Qb 3 (Qg ?_))
  exact Qat _ _ hm _ (by kernel_rfl)
 refine QP ?_
 obtain rfl:=Qq hm
 exact ⟨rfl,Qm⟩
def Jl (x:Qv):Option QR :=
 match x with
 | p0 =>
 Jg (⟨p0.core.kind,p0.core.shape,p0.core.buffer,p0.core.starts,p0.core.axis,p0.core.amount,p0.core.perm,p0.core.kids⟩:Qa)>>=fun (v1:Qi) =>
 ZN (p0,v1,([]:List QB),0)>>=fun (v602:(List QB)) =>
 some (⟨v1,v602⟩:QR)
def Qc0:Qv→QR→Prop:=fun x r=>match x,r with
 | p0,r0=>∀ H,PC prog env 6 ([(Qv.toD p0)].map .dat) H (.dat (QR.toD r0)) H
theorem Qe7:∀ x r,Jl x=some r→Qc0 x r:=by
 intro p0 r0 hm
 unfold Jl at hm
 unfold Qc0
 intro H
 refine PC_sx (ds:=[(Qv.toD p0)]) (fn:=f6) rfl ?_
 refine Qe (R_G (Qb 2 (Qg (Qe (R_G (Qb 2 ?_))))))
 obtain ⟨v1,hx,hm⟩:=Qf hm
 have hq:=QcS _ _ hx []
 refine Qr hq ?_
 refine Qb 3 (Qg (Qe (Qe (R_G (Qb 1 (Qg (Qz ?_)))))))
 obtain ⟨v602,hs,hm⟩:=Qf hm
 refine QT ?_
 refine RL_use (Qat _ _ hs) (by kernel_rfl) ?_
 clear hs
 intro e s hp
 obtain ⟨rfl,d,rfl⟩:=hp
 refine Qe (R_G (Qb 2 (Qg (Qt ?_))))
 obtain rfl:=Qq hm
 exact ⟨trivial,Qk⟩
def YS (x:((List Int) × Int × (List (List Int)) × Int × (List (List Int)) × Int)):Option ((List (List Int))) :=
 match x with
 | (p0,v202,v201,v803,v1403,v1404) =>
 idx p0 v202>>=fun v1804 =>
 if v1404 < v1804 then
  idx v201 v803>>=fun v1805 =>
  app 8 ([]:List Int) v1805>>=fun v1806 =>
  app 8 v1806 ([v1404]:List Int)>>=fun v1807 =>
  app 24 v1403 ([v1807]:List (List Int))>>=fun v1808 =>
  YS (p0,v202,v201,v803,v1808,(W (v1404+1)))
 else
 some v1403
 partial_fixpoint
def Qdk:((List Int) × Int × (List (List Int)) × Int × (List (List Int)) × Int)→(List (List Int))→Prop:=fun x r=>match x with
 | (p0,v202,v201,v803,v1403,v1404)=>∀ st,prune 1 ((Qw (QD [1,1,0,1,0,0,1,0,0,1,0,1,0,0,1,0,0,1,0,0] (QE f44))).bind (env.hint 44).keepAt) st=⟨kp 44 [(0,(.dat (.lst ((List.map Qc) p0)))),(3,(.dat (.lst ((List.map (fun l=>Dat.lst ((List.map Qc) l))) v201)))),(4,(Qd v202)),(5,(.vec 0 ((List.map (fun l=>Dat.lst ((List.map Qc) l))) v1403))),(6,(Qd v803)),(7,(Qd v1404))],[(.tok 27 v1403.length)]⟩ →
  RL prog env (env.hint 44) true (QD [1,1,0,1,0,0,1,0,0,1,0,1,0,0,1,0,0,1,0,0] (QE f44)) 1 st (fun e s=>match r with|v1803=>e=.exit 4∧∃ d,s=⟨sl d 44 [(0,(.dat (.lst ((List.map Qc) p0)))),(3,(.dat (.lst ((List.map (fun l=>Dat.lst ((List.map Qc) l))) v201)))),(4,(Qd v202)),(5,(.vec 0 ((List.map (fun l=>Dat.lst ((List.map Qc) l))) v1803))),(6,(Qd v803))],[(.tok 27 v1803.length)]⟩)
theorem Qb4:∀ x r,YS x=some r→Qdk x r:=by
 refine YS.partial_correctness _ (fun YS Qb4 x r hm=>?_)
 unfold Qdk
 obtain ⟨p0,v202,v201,v803,v1403,v1404⟩:=x
 intro st hst
 refine RL_at hst ?_
 clear hst
 refine Qe (Qe (R_G (Qb 3 ?_)))
 refine QF 1 Qc hm rfl (fun _=>rfl) (fun v1804 hm=>?_)
 refine Qb 2 (Qg ?_)
 refine Qx hm (rfl) (fun hm=>?_) (fun hm=>?_)
 ·refine Qs (Qe (Qz (R_G (Qb 4 ?_))))
  obtain ⟨v1805,hx,hm⟩:=Qf hm
  refine Y2 1 (fun l=>Dat.lst ((List.map Qc) l)) v201 v803 v1805 (es:=(List.map (fun l=>Dat.lst ((List.map Qc) l))) v201) (d:=(.lst ((List.map Qc) v1805))) rfl hx rfl rfl ?_
  refine Qb 1 ?_
  obtain ⟨v1806,hx,hm⟩:=Qf hm
  refine YZ 3 1 8 1 Qc ([]:List Int) v1805 v1806 (xs:=(List.map Qc) ([]:List Int)) (es:=(List.map Qc) v1805) (L:=(List.map Qc)) (fun _=>rfl) rfl rfl (fun _=>rfl) hx ?_
  refine Qb 2 ?_
  obtain ⟨v1807,hx,hm⟩:=Qf hm
  refine YZ 3 1 8 1 Qc v1806 ([v1404]:List Int) v1807 (xs:=(List.map Qc) v1806) (es:=(List.map Qc) ([v1404]:List Int)) (L:=(List.map Qc)) (fun _=>rfl) rfl rfl (fun _=>rfl) hx ?_
  refine Qb 1 ?_
  obtain ⟨v1808,hx,hm⟩:=Qf hm
  refine YZ 27 1 24 0 (fun l=>Dat.lst ((List.map Qc) l)) v1403 ([v1807]:List (List Int)) v1808 (xs:=(List.map (fun l=>Dat.lst ((List.map Qc) l))) v1403) (es:=(List.map (fun l=>Dat.lst ((List.map Qc) l))) ([v1807]:List (List Int))) (L:=(List.map (fun l=>Dat.lst ((List.map Qc) l)))) (fun _=>rfl) rfl rfl (fun _=>rfl) hx ?_
  refine Qb 1 (Qg (R_G (Qb 3 (Qg ?_))))
  exact Qb4 _ _ hm _ (by kernel_rfl)
 refine QP ?_
 obtain rfl:=Qq hm
 exact ⟨rfl,Qm⟩
def Yv (x:((List (List Int)) × (List Int) × Int × (List (List Int)) × Int)):Option ((List (List Int))) :=
 match x with
 | (v201,p0,v202,v802,v803) =>
 if v803 < (v201.length:Int) then
  YS (p0,v202,v201,v803,v802,0)>>=fun (v1803:(List (List Int))) =>
  Yv (v201,p0,v202,v1803,(W (v803+1)))
 else
 some v802
 partial_fixpoint
def Qdv:((List (List Int)) × (List Int) × Int × (List (List Int)) × Int)→(List (List Int))→Prop:=fun x r=>match x with
 | (v201,p0,v202,v802,v803)=>∀ st,prune 1 ((Qw (QD [1,1,0,1,0,0,1,0,0,1,0,1,0,0] (QE f44))).bind (env.hint 44).keepAt) st=⟨kp 44 [(0,(.dat (.lst ((List.map Qc) p0)))),(3,(.dat (.lst ((List.map (fun l=>Dat.lst ((List.map Qc) l))) v201)))),(4,(Qd v202)),(5,(.vec 0 ((List.map (fun l=>Dat.lst ((List.map Qc) l))) v802))),(6,(Qd v803))],[(.tok 27 v802.length)]⟩ →
  RL prog env (env.hint 44) true (QD [1,1,0,1,0,0,1,0,0,1,0,1,0,0] (QE f44)) 1 st (fun e s=>match r with|v1202=>e=.exit 2∧∃ d,s=⟨sl d 44 [(0,(.dat (.lst ((List.map Qc) p0)))),(4,(Qd v202)),(5,(.vec 0 ((List.map (fun l=>Dat.lst ((List.map Qc) l))) v1202)))],[(.tok 27 v1202.length)]⟩)
theorem QbT:∀ x r,Yv x=some r→Qdv x r:=by
 refine Yv.partial_correctness _ (fun Yv QbT x r hm=>?_)
 unfold Qdv
 obtain ⟨v201,p0,v202,v802,v803⟩:=x
 intro st hst
 refine RL_at hst ?_
 clear hst
 refine Qe (Qe (R_G (Qb 2 ?_)))
 refine QG (fun l=>Dat.lst ((List.map Qc) l)) v201 (es:=(List.map (fun l=>Dat.lst ((List.map Qc) l))) v201) rfl ?_
 refine Qb 1 (Qg ?_)
 refine Qx hm (rfl) (fun hm=>?_) (fun hm=>?_)
 ·refine Qs (Qe (Qz (Qe (R_G (Qb 1 (Qg (Qz ?_)))))))
  obtain ⟨v1803,hs,hm⟩:=Qf hm
  refine QT ?_
  refine RL_use (Qb4 _ _ hs) (by kernel_rfl) ?_
  clear hs
  intro e s hp
  obtain ⟨rfl,d,rfl⟩:=hp
  refine R_G (Qb 3 (Qg ?_))
  exact QbT _ _ hm _ (by kernel_rfl)
 refine QP ?_
 obtain rfl:=Qq hm
 exact ⟨rfl,Qm⟩
def Yt (x:((List Int) × (List (List Int)) × Int)):Option ((List (List Int))) :=
 match x with
 | (p0,v201,v202) =>
 if v202 < (p0.length:Int) then
  Yv (v201,p0,v202,([]:List (List Int)),0)>>=fun (v1202:(List (List Int))) =>
  Yt (p0,v1202,(W (v202+1)))
 else
 some v201
 partial_fixpoint
def QdB:((List Int) × (List (List Int)) × Int)→(List (List Int))→Prop:=fun x r=>match x with
 | (p0,v201,v202)=>∀ st,prune 0 ((Qw (QD [1,1,0,1,0,0] (QE f44))).bind (env.hint 44).keepAt) st=⟨kp 44 [(0,(.dat (.lst ((List.map Qc) p0)))),(3,(.dat (.lst ((List.map (fun l=>Dat.lst ((List.map Qc) l))) v201)))),(4,(Qd v202))],[]⟩ →
  RL prog env (env.hint 44) true (QD [1,1,0,1,0,0] (QE f44)) 0 st (fun e s=>match r with|v601=>e=.exit 0∧∃ d,s=⟨sl d 44 [(3,(.dat (.lst ((List.map (fun l=>Dat.lst ((List.map Qc) l))) v601))))],[]⟩)
theorem Qb3:∀ x r,Yt x=some r→QdB x r:=by
 refine Yt.partial_correctness _ (fun Yt Qb3 x r hm=>?_)
 unfold QdB
 obtain ⟨p0,v201,v202⟩:=x
 intro st hst
 refine RL_at hst ?_
 clear hst
 refine Qe (Qe (R_G (Qb 2 ?_)))
 refine QG Qc p0 (es:=(List.map Qc) p0) rfl ?_
 refine Qb 1 (Qg ?_)
 refine Qx hm (rfl) (fun hm=>?_) (fun hm=>?_)
 ·refine Qs (Qe (Qz (Qe (R_G (Qb 1 (Qg (Qe (Qe (R_G (Qb 1 (Qg ?_)))))))))))
  refine Qz ?_
  obtain ⟨v1202,hs,hm⟩:=Qf hm
  refine QT ?_
  refine RL_use (QbT _ _ hs) (by kernel_rfl) ?_
  clear hs
  intro e s hp
  obtain ⟨rfl,d,rfl⟩:=hp
  refine R_G (Qb 2 (Qg (R_G (Qb 3 (Qg ?_)))))
  exact Qb3 _ _ hm _ (by kernel_rfl)
 refine QP ?_
 obtain rfl:=Qq hm
 exact ⟨rfl,Qm⟩
def X3 (x:(List Int)):Option (List (List Int)) :=
 match x with
 | p0 =>
 Yt (p0,([([]:(List Int))]:List (List Int)),0)>>=fun (v601:(List (List Int))) =>
 some v601
def Qe2:(List Int)→(List (List Int))→Prop:=fun x r=>match x,r with
 | p0,r0=>∀ H,PC prog env 44 ([(.lst ((List.map Qc) p0))].map .dat) H (.dat (.lst ((List.map (fun l=>Dat.lst ((List.map Qc) l))) r0))) H
theorem Qe3:∀ x r,X3 x=some r→Qe2 x r:=by
 intro p0 r0 hm
 unfold X3 at hm
 unfold Qe2
 intro H
 refine PC_sx (ds:=[(.lst ((List.map Qc) p0))]) (fn:=f44) rfl ?_
 refine Qe (R_G (Qb 1 (Qg (Qe (R_G (Qb 3 (Qg (Qe (Qe (R_G (Qb 1 ?_)))))))))))
 refine Qg (Qz ?_)
 obtain ⟨v601,hs,hm⟩:=Qf hm
 refine QT ?_
 refine RL_use (Qb3 _ _ hs) (by kernel_rfl) ?_
 clear hs
 intro e s hp
 obtain ⟨rfl,d,rfl⟩:=hp
 refine Qe (R_G (Qb 2 (Qg (Qt ?_))))
 obtain rfl:=Qq hm
 exact ⟨trivial,Qk⟩
def ZX (x:((List Int) × (List Int) × Int)):Option (Unit ⊕ Unit) :=
 match x with
 | (p0,p1,v201) =>
 if v201 < (p0.length:Int) then
  (idx p1 v201>>=fun v602 =>
  if v602 < 0 then
   some true
  else
  idx p1 v201>>=fun v603 =>
  idx p0 v201>>=fun v604 =>
  some (decide (v603≥v604))
  )>>=fun (v601:Bool) =>
  if v601=true then
   some (Sum.inl ())
  else
  ZX (p0,p1,(W (v201+1)))
 else
 some (Sum.inr ())
 partial_fixpoint
def QcA:((List Int) × (List Int) × Int)→(Unit ⊕ Unit)→Prop:=fun x r=>match x with
 | (p0,p1,v201)=>∀ st,prune 0 ((Qw (QD [1,1,0,1,0,0] (QE f46))).bind (env.hint 46).keepAt) st=⟨kp 33 [(0,(.dat (.lst ((List.map Qc) p0)))),(1,(.dat (.lst ((List.map Qc) p1)))),(5,(Qd v201))],[]⟩ →
  RL prog env (env.hint 46) true (QD [1,1,0,1,0,0] (QE f46)) 0 st (fun e s=>match r with|.inl _=>e=.ret∧∃ d,s=⟨sl d 33 [(4,(Qp false))],[]⟩|.inr (_)=>e=.exit 0∧∃ d,s=⟨sl d 33 [],[]⟩)
theorem JJ:∀ x r,ZX x=some r→QcA x r:=by
 refine ZX.partial_correctness _ (fun ZX JJ x r hm=>?_)
 unfold QcA
 obtain ⟨p0,p1,v201⟩:=x
 intro st hst
 refine RL_at hst ?_
 clear hst
 refine Qe (Qe (R_G (Qb 2 ?_)))
 refine QG Qc p0 (es:=(List.map Qc) p0) rfl ?_
 refine Qb 1 (Qg ?_)
 refine Qx hm (rfl) (fun hm=>?_) (fun hm=>?_)
 ·refine Qs (Qe (Qz (Qe ?_)))
  obtain ⟨v601,hs,hm⟩:=Qf hm
  refine Q7 (fun d=>⟨sl d 33 [(0,(.dat (.lst ((List.map Qc) p0)))),(1,(.dat (.lst ((List.map Qc) p1)))),(5,(Qd v201)),(32,(Qp v601))],[]⟩) ?_ (fun d=>?_)
  ·replace hm:=hs
   clear hs
   refine YM ?_
   refine Qb 2 ?_
   refine QF 1 Qc hm rfl (fun _=>rfl) (fun v602 hm=>?_)
   refine Qb 3 ?_
   refine Qy 22 hm (rfl) (fun hm=>?_) (fun hm=>?_)
   ·refine Qb 10 ?_
    refine Qg ⟨by kernel_rfl,?_⟩
    obtain rfl:=Qq hm
    exact Qm
   refine Qb 2 ?_
   refine QF 1 Qc hm rfl (fun _=>rfl) (fun v603 hm=>?_)
   refine Qb 3 ?_
   refine QF 1 Qc hm rfl (fun _=>rfl) (fun v604 hm=>?_)
   refine Qb 3 ?_
   refine Qg ⟨by kernel_rfl,?_⟩
   obtain rfl:=Qq hm
   exact Qm
  clear hs
  refine Qx hm (QC _) (fun hm=>?_) (fun hm=>?_)
  ·refine Qe (R_G (Qb 1 (Qg (Qt ?_))))
   obtain rfl:=Qq hm
   exact ⟨rfl,Qm⟩
  refine Qs (R_G (Qb 3 (Qg ?_)))
  exact JJ _ _ hm _ (by kernel_rfl)
 refine QP ?_
 obtain rfl:=Qq hm
 exact ⟨rfl,Qm⟩
def XM (x:((List Int) × (List Int))):Option Bool :=
 match x with
 | (p0,p1) =>
 if (p0.length:Int)≠(p1.length:Int) then
  some false
 else
 (
 ZX (p0,p1,0)>>=fun (out:Unit ⊕ Unit) =>
 match out with
 | .inl _ =>
  some false
 | .inr (_) =>
  some true
 )
def QdT:((List Int) × (List Int))→Bool→Prop:=fun x r=>match x,r with
 | (p0,p1),r0=>∀ H,PC prog env 46 ([(.lst ((List.map Qc) p0)),(.lst ((List.map Qc) p1))].map .dat) H (Qp r0) H
theorem Qcv:∀ x r,XM x=some r→QdT x r:=by
 intro x r0 hm
 unfold XM at hm
 unfold QdT
 obtain ⟨p0,p1⟩:=x
 intro H
 refine PC_sx (ds:=[(.lst ((List.map Qc) p0)),(.lst ((List.map Qc) p1))]) (fn:=f46) rfl ?_
 refine Qe (R_G (Qb 1 (Qg (Qe (Qe (R_G (Qb 1 ?_)))))))
 refine QG Qc p0 (es:=(List.map Qc) p0) rfl ?_
 refine Qb 1 ?_
 refine QG Qc p1 (es:=(List.map Qc) p1) rfl ?_
 refine Qb 1 (Qg ?_)
 refine Qx hm (ne_dec _ _) (fun hm=>?_) (fun hm=>?_)
 ·refine Qe (R_G (Qb 1 (Qg (Qt ?_))))
  obtain rfl:=Qq hm
  exact ⟨trivial,Qk⟩
 refine Qs (Qe (Qe (R_G (Qb 1 (Qg (Qz ?_))))))
 obtain ⟨out,hs,hm⟩:=Qf hm
 refine QT ?_
 rcases out with _|_
 ·refine RL_use (JJ _ _ hs) (by kernel_rfl) ?_
  clear hs
  intro e s hp
  obtain ⟨rfl,d,rfl⟩:=hp
  obtain rfl:=Qq hm
  exact ⟨trivial,Qk⟩
 ·refine RL_use (JJ _ _ hs) (by kernel_rfl) ?_
  clear hs
  intro e s hp
  obtain ⟨rfl,d,rfl⟩:=hp
  refine Qe (R_G (Qb 1 (Qg (Qt ?_))))
  obtain rfl:=Qq hm
  exact ⟨trivial,Qk⟩
def ZK (x:((List Int) × (List Int) × Int × Int)):Option (Int) :=
 match x with
 | (p0,p1,v202,v203) =>
 if v203 < (p0.length:Int) then
  idx p0 v203>>=fun v603 =>
  idx p1 v203>>=fun v604 =>
  ZK (p0,p1,(W ((W (v202 * v603))+v604)),(W (v203+1)))
 else
 some v202
 partial_fixpoint
def Qco:((List Int) × (List Int) × Int × Int)→Int→Prop:=fun x r=>match x with
 | (p0,p1,v202,v203)=>∀ st,prune 0 ((Qw (QD [1,1,1,0,1,0,0] (QE f23))).bind (env.hint 23).keepAt) st=⟨kp 29 [(0,(.dat (.lst ((List.map Qc) p0)))),(1,(.dat (.lst ((List.map Qc) p1)))),(5,(Qd v202)),(6,(Qd v203))],[]⟩ →
  RL prog env (env.hint 23) true (QD [1,1,1,0,1,0,0] (QE f23)) 0 st (fun e s=>match r with|v602=>e=.exit 0∧∃ d,s=⟨sl d 29 [(5,(Qd v602))],[]⟩)
theorem QaF:∀ x r,ZK x=some r→Qco x r:=by
 refine ZK.partial_correctness _ (fun ZK QaF x r hm=>?_)
 unfold Qco
 obtain ⟨p0,p1,v202,v203⟩:=x
 intro st hst
 refine RL_at hst ?_
 clear hst
 refine Qe (Qe (R_G (Qb 2 ?_)))
 refine QG Qc p0 (es:=(List.map Qc) p0) rfl ?_
 refine Qb 1 (Qg ?_)
 refine Qx hm (rfl) (fun hm=>?_) (fun hm=>?_)
 ·refine Qs (Qe (Qz ?_))
  refine YM ?_
  refine Qb 3 ?_
  refine QF 1 Qc hm rfl (fun _=>rfl) (fun v603 hm=>?_)
  refine Qb 4 ?_
  refine QF 1 Qc hm rfl (fun _=>rfl) (fun v604 hm=>?_)
  refine Qb 3 ?_
  refine Qg ⟨by kernel_rfl,?_⟩
  refine R_G (Qb 3 (Qg ?_))
  exact QaF _ _ hm _ (by kernel_rfl)
 refine QP ?_
 obtain rfl:=Qq hm
 exact ⟨rfl,Qm⟩
def Yf (x:((List Int) × (List Int))):Option Int :=
 match x with
 | (p0,p1) =>
 XM (p0,p1)>>=fun (v1:Bool) =>
 if v1=false then
  some (-1)
 else
 ZK (p0,p1,0,0)>>=fun (v602:Int) =>
 some v602
def QdC:((List Int) × (List Int))→Int→Prop:=fun x r=>match x,r with
 | (p0,p1),r0=>∀ H,PC prog env 23 ([(.lst ((List.map Qc) p0)),(.lst ((List.map Qc) p1))].map .dat) H (Qd r0) H
theorem QaL:∀ x r,Yf x=some r→QdC x r:=by
 intro x r0 hm
 unfold Yf at hm
 unfold QdC
 obtain ⟨p0,p1⟩:=x
 intro H
 refine PC_sx (ds:=[(.lst ((List.map Qc) p0)),(.lst ((List.map Qc) p1))]) (fn:=f23) rfl ?_
 refine Qe (R_G (Qb 1 (Qg (Qe (Qe (R_G (Qb 2 ?_)))))))
 obtain ⟨v1,hx,hm⟩:=Qf hm
 have hq:=Qcv _ _ hx []
 refine Qr hq ?_
 refine Qb 1 (Qg ?_)
 refine Qx hm (ZL _) (fun hm=>?_) (fun hm=>?_)
 ·refine Qe (R_G (Qb 1 (Qg (Qt ?_))))
  obtain rfl:=Qq hm
  exact ⟨trivial,Qk⟩
 refine Qs (Qe (R_G (Qb 1 (Qg (Qe (Qe (R_G (Qb 1 (Qg (Qz ?_))))))))))
 obtain ⟨v602,hs,hm⟩:=Qf hm
 refine QT ?_
 refine RL_use (QaF _ _ hs) (by kernel_rfl) ?_
 clear hs
 intro e s hp
 obtain ⟨rfl,d,rfl⟩:=hp
 refine Qe (R_G (Qb 2 (Qg (Qt ?_))))
 obtain rfl:=Qq hm
 exact ⟨trivial,Qk⟩
def Yz (x:(Qo × (List Int))):Option Int :=
 match x with
 | (p0,p1) =>
 Yf (p0.shape,p1)>>=fun (v1:Int) =>
 if v1 < 0 then
  some 0
 else
 idx p0.data v1>>=fun v2 =>
 some v2
def QeH:(Qo × (List Int))→Int→Prop:=fun x r=>match x,r with
 | (p0,p1),r0=>∀ H,PC prog env 45 ([(Qo.toD p0),(.lst ((List.map Qc) p1))].map .dat) H (Qd r0) H
theorem QaM:∀ x r,Yz x=some r→QeH x r:=by
 intro x r0 hm
 unfold Yz at hm
 unfold QeH
 obtain ⟨p0,p1⟩:=x
 intro H
 refine PC_sx (ds:=[(Qo.toD p0),(.lst ((List.map Qc) p1))]) (fn:=f45) rfl ?_
 refine Qe (R_G (Qb 2 (Qg (Qe (R_G (Qb 3 ?_))))))
 obtain ⟨v1,hx,hm⟩:=Qf hm
 have hq:=QaL _ _ hx []
 refine Qr hq ?_
 refine Qb 1 (Qg (Qe (Qe (R_G (Qb 2 (Qg ?_))))))
 refine Qx hm (rfl) (fun hm=>?_) (fun hm=>?_)
 ·refine Qe (R_G (Qb 1 (Qg (Qt ?_))))
  obtain rfl:=Qq hm
  exact ⟨trivial,Qk⟩
 refine Qs (Qe (R_G (Qb 3 ?_)))
 refine QF 1 Qc hm rfl (fun _=>rfl) (fun v2 hm=>?_)
 refine Qb 2 (Qg (Qt ?_))
 obtain rfl:=Qq hm
 exact ⟨trivial,Qk⟩
def Ym (x:((List Int) × Qa × (List Qo) × (List (List Int)) × Int × (List Int) × (List Int) × Qo × (List Int) × Int)):Option ((List Int)) :=
 match x with
 | (v604,p0,p1,v1,v203,v603,v202,v605,v806,v807) =>
 if v807 < (v604.length:Int) then
  Zo (v806.length=v604.length)>>=fun (_:Unit) =>
  idx v806 v807>>=fun v1207 =>
  idx v806 v807>>=fun v1209 =>
  idx p0.starts v807>>=fun v1210 =>
  Zo (v806.length=v604.length)>>=fun (_:Unit) =>
  idx v806 v807>>=fun v1211 =>
  setM v806 v807 (W (v1209+v1210))>>=fun v1213 =>
  Ym (v604,p0,p1,v1,v203,v603,v202,v605,v1213,(W (v807+1)))
 else
 some v806
 partial_fixpoint
def QcB:((List Int) × Qa × (List Qo) × (List (List Int)) × Int × (List Int) × (List Int) × Qo × (List Int) × Int)→(List Int)→Prop:=fun x r=>match x with
 | (v604,p0,p1,v1,v203,v603,v202,v605,v806,v807)=>∀ st,prune 7 ((Qw (QD [1,1,1,0,1,0,0,1,0,0,1,1,0,1,0,1,0,1,0,0] (QE f21))).bind (env.hint 21).keepAt) st=⟨kp 186 [(1,(.dat (.lst ((List.map Qo.toD) p1)))),(2,(.ptr 0 0)),(4,(.ptr 1 0)),(5,(.ptr 3 0)),(6,(.dat (.lst ((List.map (fun l=>Dat.lst ((List.map Qc) l))) v1)))),(7,(Qd v203)),(8,(.ms 5 (gb 0 v603.isEmpty) 0 v604.length v604.length)),(9,(.ptr 6 0)),(10,(Qd v807))],[(.box [(Qd p0.kind),(.dat (.lst ((List.map Qc) p0.shape))),(Qd p0.buffer),(.dat (.lst ((List.map Qc) p0.starts))),(Qd p0.axis),(Qd p0.amount),(.dat (.lst ((List.map Qc) p0.perm))),(.dat (.lst (Qa.toDs p0.kids)))]),(.box [(.dat (.lst ((List.map Qc) []))),(.dat (.lst ((List.map Qc) [])))]),(.tok 2 v202.length),(.box [(.dat (.lst ((List.map Qc) p0.shape))),(.vec 2 ((List.map Qc) v202))]),(.tok 2 (([]:List Int).length)),(.mt 3 (gb 0 v603.isEmpty) (cellsOf Qc v806)),(.box [(.dat (.lst ((List.map Qc) v605.shape))),(.dat (.lst ((List.map Qc) v605.data)))])]⟩ →
  RL prog env (env.hint 21) true (QD [1,1,1,0,1,0,0,1,0,0,1,1,0,1,0,1,0,1,0,0] (QE f21)) 7 st (fun e s=>match r with|v1206=>e=.exit 3∧∃ d,s=⟨sl d 186 [(1,(.dat (.lst ((List.map Qo.toD) p1)))),(2,(.ptr 0 0)),(4,(.ptr 1 0)),(5,(.ptr 3 0)),(6,(.dat (.lst ((List.map (fun l=>Dat.lst ((List.map Qc) l))) v1)))),(7,(Qd v203)),(8,(.ms 5 (gb 0 v603.isEmpty) 0 v604.length v604.length)),(9,(.ptr 6 0))],[(.box [(Qd p0.kind),(.dat (.lst ((List.map Qc) p0.shape))),(Qd p0.buffer),(.dat (.lst ((List.map Qc) p0.starts))),(Qd p0.axis),(Qd p0.amount),(.dat (.lst ((List.map Qc) p0.perm))),(.dat (.lst (Qa.toDs p0.kids)))]),(.box [(.dat (.lst ((List.map Qc) []))),(.dat (.lst ((List.map Qc) [])))]),(.tok 2 v202.length),(.box [(.dat (.lst ((List.map Qc) p0.shape))),(.vec 2 ((List.map Qc) v202))]),(.tok 2 (([]:List Int).length)),(.mt 3 (gb 0 v603.isEmpty) (cellsOf Qc v1206)),(.box [(.dat (.lst ((List.map Qc) v605.shape))),(.dat (.lst ((List.map Qc) v605.data)))])]⟩)
theorem Qa5:∀ x r,Ym x=some r→QcB x r:=by
 refine Ym.partial_correctness _ (fun Ym Qa5 x r hm=>?_)
 unfold QcB
 obtain ⟨v604,p0,p1,v1,v203,v603,v202,v605,v806,v807⟩:=x
 intro st hst
 refine RL_at hst ?_
 clear hst
 refine Qe (Qe (R_G (Qb 2 (Qb 1 (Qb 1 (Qg ?_))))))
 refine Qx hm (rfl) (fun hm=>?_) (fun hm=>?_)
 ·refine Qs (Qe (Qz ?_))
  refine YM ?_
  refine Qb 4 ?_
  obtain ⟨_,hl1208,hm⟩:=Qf hm
  replace hl1208:=Q3 hl1208
  obtain ⟨v1207,hx,hm⟩:=Qf hm
  refine QL rfl (fun _=>Q6 (e:=3) (n:=v807) (j:=(v807).toNat) (tt:=5) (g:=(gb 0 v603.isEmpty)) (lo:=0) (len:=v604.length) (cap:=v604.length) (k:=.i64) (by kernel_rfl) (by kernel_rfl) rfl (by kernel_rfl) (by kernel_rfl) (idx_nat hx) (Nat.lt_of_lt_of_eq (idx_lt hx) hl1208)) ?_
  obtain ⟨v1209,hx,hm⟩:=Qf hm
  refine QL rfl (fun _=>Y4 (tt:=5) (g:=(gb 0 v603.isEmpty)) (j:=(0+(v807).toNat)) (e:=3) (cs:=cellsOf Qc v806) (v:=.dat (Qc v1209)) (by kernel_rfl) (by kernel_rfl) rfl (by kernel_rfl) (Z7 (by kernel_rfl)) (cells_idx Qc hx)) ?_
  refine Qb 3 ?_
  refine QF 1 Qc hm rfl (fun _=>rfl) (fun v1210 hm=>?_)
  refine Qb 2 ?_
  obtain ⟨_,hl1212,hm⟩:=Qf hm
  replace hl1212:=Q3 hl1212
  obtain ⟨v1211,hx,hm⟩:=Qf hm
  refine QL rfl (fun _=>Q6 (e:=3) (n:=v807) (j:=(v807).toNat) (tt:=5) (g:=(gb 0 v603.isEmpty)) (lo:=0) (len:=v604.length) (cap:=v604.length) (k:=.i64) (by kernel_rfl) (by kernel_rfl) rfl (by kernel_rfl) (by kernel_rfl) (idx_nat hx) (Nat.lt_of_lt_of_eq (idx_lt hx) hl1212)) ?_
  obtain ⟨v1213,hx,hm⟩:=Qf hm
  refine Z5 (fun H=>H.set 5 (.mt 3 (gb 0 v603.isEmpty) (cellsOf Qc v1213))) rfl (by kernel_rfl) (fun _=>Qbu Qc (l:=v806) (n:=v807) (y:=(W (v1209+v1210))) hx (fun _=>rfl) (by kernel_rfl) rfl (by kernel_rfl) (by kernel_rfl) (by kernel_rfl) (by kernel_rfl)) ?_
  refine Qg ⟨by kernel_rfl,?_⟩
  refine R_G (Qb 3 (Qg ?_))
  exact Qa5 _ _ hm _ (prune_of2 [(.box [(Qd p0.kind),(.dat (.lst ((List.map Qc) p0.shape))),(Qd p0.buffer),(.dat (.lst ((List.map Qc) p0.starts))),(Qd p0.axis),(Qd p0.amount),(.dat (.lst ((List.map Qc) p0.perm))),(.dat (.lst (Qa.toDs p0.kids)))]),(.box [(.dat (.lst ((List.map Qc) []))),(.dat (.lst ((List.map Qc) [])))]),(.tok 2 v202.length),(.box [(.dat (.lst ((List.map Qc) p0.shape))),(.vec 2 ((List.map Qc) v202))]),(.tok 2 (([]:List Int).length)),(.mt 3 (gb 0 v603.isEmpty) (cellsOf Qc v1213)),(.box [(.dat (.lst ((List.map Qc) v605.shape))),(.dat (.lst ((List.map Qc) v605.data)))])] (fun _=>(pg_cons (by kernel_rfl) (pg_cons (by kernel_rfl) (pg_cons (by kernel_rfl) (pg_cons (by kernel_rfl) (pg_cons (by kernel_rfl) (pg_cons (purge_mt Qc _ _ _ _ _) (pg_cons (by kernel_rfl) pg_nil)))))))) rfl)
 refine QP ?_
 obtain rfl:=Qq hm
 exact ⟨rfl,Qm⟩
def Yq (x:(Qa × (List (List Int)) × Int × (List Qo) × (List Int) × (List Int) × (List Int) × Qo × Nat × (List Int) × Int)):Option ((Nat × (List Int))) :=
 match x with
 | (p0,v1,v203,p1,v202,v603,v604,v605,v1434,v1435,v1436) =>
 if v1436 < (p0.perm.length:Int) then
  idx v1 v203>>=fun v1836 =>
  idx p0.perm v1436>>=fun v1837 =>
  idx v1836 v1837>>=fun v1838 =>
  app 8 v1435 ([v1838]:List Int)>>=fun v1839 =>
  Yq (p0,v1,v203,p1,v202,v603,v604,v605,(gb v1434 ([v1838]:List Int).isEmpty),v1839,(W (v1436+1)))
 else
 some (v1434,v1435)
 partial_fixpoint
def QcR:(Qa × (List (List Int)) × Int × (List Qo) × (List Int) × (List Int) × (List Int) × Qo × Nat × (List Int) × Int)→(Nat × (List Int))→Prop:=fun x r=>match x with
 | (p0,v1,v203,p1,v202,v603,v604,v605,v1434,v1435,v1436)=>∀ st,prune 8 ((Qw (QD [1,1,1,0,1,0,0,1,0,0,1,1,0,1,0,1,1,1,1,1,1,1,0,1,1,0,0] (QE f21))).bind (env.hint 21).keepAt) st=⟨kp 186 [(1,(.dat (.lst ((List.map Qo.toD) p1)))),(2,(.ptr 0 0)),(4,(.ptr 1 0)),(5,(.ptr 3 0)),(6,(.dat (.lst ((List.map (fun l=>Dat.lst ((List.map Qc) l))) v1)))),(7,(Qd v203)),(8,(.ms 7 v1434 0 v1435.length v1435.length)),(9,(.ptr 6 0)),(11,(Qd v1436))],[(.box [(Qd p0.kind),(.dat (.lst ((List.map Qc) p0.shape))),(Qd p0.buffer),(.dat (.lst ((List.map Qc) p0.starts))),(Qd p0.axis),(Qd p0.amount),(.dat (.lst ((List.map Qc) p0.perm))),(.dat (.lst (Qa.toDs p0.kids)))]),(.box [(.dat (.lst ((List.map Qc) []))),(.dat (.lst ((List.map Qc) [])))]),(.tok 2 v202.length),(.box [(.dat (.lst ((List.map Qc) p0.shape))),(.vec 2 ((List.map Qc) v202))]),(.tok 2 (([]:List Int).length)),(.mt 3 (gb 0 v603.isEmpty) (cellsOf Qc v604)),(.box [(.dat (.lst ((List.map Qc) v605.shape))),(.dat (.lst ((List.map Qc) v605.data)))]),(.mt 3 v1434 (cellsOf Qc v1435))]⟩ →
  RL prog env (env.hint 21) true (QD [1,1,1,0,1,0,0,1,0,0,1,1,0,1,0,1,1,1,1,1,1,1,0,1,1,0,0] (QE f21)) 8 st (fun e s=>match r with|(v1834,v1835)=>e=.exit 5∧∃ d,s=⟨sl d 186 [(1,(.dat (.lst ((List.map Qo.toD) p1)))),(2,(.ptr 0 0)),(4,(.ptr 1 0)),(5,(.ptr 3 0)),(6,(.dat (.lst ((List.map (fun l=>Dat.lst ((List.map Qc) l))) v1)))),(7,(Qd v203)),(8,(.ms 7 v1834 0 v1835.length v1835.length)),(9,(.ptr 6 0))],[(.box [(Qd p0.kind),(.dat (.lst ((List.map Qc) p0.shape))),(Qd p0.buffer),(.dat (.lst ((List.map Qc) p0.starts))),(Qd p0.axis),(Qd p0.amount),(.dat (.lst ((List.map Qc) p0.perm))),(.dat (.lst (Qa.toDs p0.kids)))]),(.box [(.dat (.lst ((List.map Qc) []))),(.dat (.lst ((List.map Qc) [])))]),(.tok 2 v202.length),(.box [(.dat (.lst ((List.map Qc) p0.shape))),(.vec 2 ((List.map Qc) v202))]),(.tok 2 (([]:List Int).length)),(.mt 3 (gb 0 v603.isEmpty) (cellsOf Qc v604)),(.box [(.dat (.lst ((List.map Qc) v605.shape))),(.dat (.lst ((List.map Qc) v605.data)))]),(.mt 3 v1834 (cellsOf Qc v1835))]⟩)
theorem Qa4:∀ x r,Yq x=some r→QcR x r:=by
 refine Yq.partial_correctness _ (fun Yq Qa4 x r hm=>?_)
 unfold QcR
 obtain ⟨p0,v1,v203,p1,v202,v603,v604,v605,v1434,v1435,v1436⟩:=x
 intro st hst
 refine RL_at hst ?_
 clear hst
 refine Qe (Qe (R_G (Qb 3 ?_)))
 refine QG Qc p0.perm (es:=(List.map Qc) p0.perm) rfl ?_
 refine Qb 1 (Qg ?_)
 refine Qx hm (rfl) (fun hm=>?_) (fun hm=>?_)
 ·refine Qs (Qe (Qz ?_))
  refine YM ?_
  refine Qb 3 ?_
  obtain ⟨v1836,hx,hm⟩:=Qf hm
  refine Y2 1 (fun l=>Dat.lst ((List.map Qc) l)) v1 v203 v1836 (es:=(List.map (fun l=>Dat.lst ((List.map Qc) l))) v1) (d:=(.lst ((List.map Qc) v1836))) rfl hx rfl rfl ?_
  refine Qb 4 ?_
  refine QF 1 Qc hm rfl (fun _=>rfl) (fun v1837 hm=>?_)
  refine Qb 1 ?_
  refine QF 1 Qc hm rfl (fun _=>rfl) (fun v1838 hm=>?_)
  refine Qb 2 ?_
  obtain ⟨v1839,hx,hm⟩:=Qf hm
  refine Z5 (v:=.ms 7 (gb v1434 ([v1838]:List Int).isEmpty) 0 v1839.length v1839.length) (fun H=>H.set 7 (.mt 3 (gb v1434 ([v1838]:List Int).isEmpty) (cellsOf Qc v1839))) rfl (by kernel_rfl) (fun _ hk=>QfB Qc (l:=v1435) (es:=([v1838]:List Int)) (bytes:=8) (e:=3) (tt:=7) (g:=v1434) (m:=v1435.length) hx (fun _=>rfl) (by kernel_rfl) (by kernel_rfl) (by kernel_rfl) (by kernel_rfl) rfl rfl (by kernel_rfl) rfl (by kernel_rfl) (by kernel_rfl) hk) ?_
  refine Qb 1 ?_
  refine Qg ⟨by kernel_rfl,?_⟩
  refine R_G (Qb 3 (Qg ?_))
  exact Qa4 _ _ hm _ (prune_of2 [(.box [(Qd p0.kind),(.dat (.lst ((List.map Qc) p0.shape))),(Qd p0.buffer),(.dat (.lst ((List.map Qc) p0.starts))),(Qd p0.axis),(Qd p0.amount),(.dat (.lst ((List.map Qc) p0.perm))),(.dat (.lst (Qa.toDs p0.kids)))]),(.box [(.dat (.lst ((List.map Qc) []))),(.dat (.lst ((List.map Qc) [])))]),(.tok 2 v202.length),(.box [(.dat (.lst ((List.map Qc) p0.shape))),(.vec 2 ((List.map Qc) v202))]),(.tok 2 (([]:List Int).length)),(.mt 3 (gb 0 v603.isEmpty) (cellsOf Qc v604)),(.box [(.dat (.lst ((List.map Qc) v605.shape))),(.dat (.lst ((List.map Qc) v605.data)))]),(.mt 3 (gb v1434 ([v1838]:List Int).isEmpty) (cellsOf Qc v1839))] (fun _=>(pg_cons (by kernel_rfl) (pg_cons (by kernel_rfl) (pg_cons (by kernel_rfl) (pg_cons (by kernel_rfl) (pg_cons (by kernel_rfl) (pg_cons (purge_mt Qc _ _ _ _ _) (pg_cons (by kernel_rfl) (pg_cons (purge_mt Qc _ _ _ _ _) pg_nil))))))))) rfl)
 refine QP ?_
 obtain rfl:=Qq hm
 exact ⟨rfl,Qm⟩
def QZ (x:((List (List Int)) × (List Qo) × Qa × (List Int) × Int)):Option ((List Int)) :=
 match x with
 | (v1,p1,p0,v202,v203) =>
 if v203 < (v1.length:Int) then
  idx v1 v203>>=fun v603 =>
  app 8 ([]:List Int) v603>>=fun v604 =>
  idx p1 0>>=fun v605 =>
  if p0.kind=2 then
   Ym (v604,p0,p1,v1,v203,v603,v202,v605,v604,0)>>=fun (v1206:(List Int)) =>
   Zo (v1206.length=v604.length)>>=fun (_:Unit) =>
   Yz (v605,v1206)>>=fun (v1215:Int) =>
   app 8 v202 ([v1215]:List Int)>>=fun v1216 =>
   QZ (v1,p1,p0,v1216,(W (v203+1)))
  else
  if p0.kind=3 then
   idx v605.shape p0.axis>>=fun v1217 =>
   idx v604 p0.axis>>=fun v1218 =>
   idx v604 p0.axis>>=fun v1219 =>
   idx v604 p0.axis>>=fun v1220 =>
   setM v604 p0.axis (W ((W (v1217 - 1)) - v1219))>>=fun v1221 =>
   Zo (v1221.length=v604.length)>>=fun (_:Unit) =>
   Yz (v605,v1221)>>=fun (v1223:Int) =>
   app 8 v202 ([v1223]:List Int)>>=fun v1224 =>
   QZ (v1,p1,p0,v1224,(W (v203+1)))
  else
  if p0.kind=4 then
   idx v604 p0.axis>>=fun v1225 =>
   idx v604 p0.axis>>=fun v1226 =>
   idx v605.shape p0.axis>>=fun v1227 =>
   remM (W (v1226+p0.amount)) v1227>>=fun v1228 =>
   idx v604 p0.axis>>=fun v1229 =>
   setM v604 p0.axis v1228>>=fun v1230 =>
   Zo (v1230.length=v604.length)>>=fun (_:Unit) =>
   Yz (v605,v1230)>>=fun (v1232:Int) =>
   app 8 v202 ([v1232]:List Int)>>=fun v1233 =>
   QZ (v1,p1,p0,v1233,(W (v203+1)))
  else
  if p0.kind=5 then
   Yq (p0,v1,v203,p1,v202,v603,v604,v605,0,([]:List Int),0)>>=fun ((v1834,v1835):(Nat × (List Int))) =>
   Yz (v605,v1835)>>=fun (v1840:Int) =>
   app 8 v202 ([v1840]:List Int)>>=fun v1841 =>
   QZ (v1,p1,p0,v1841,(W (v203+1)))
  else
  if p0.kind=6 then
   if (v605.data.length:Int)=0 then
    app 8 v202 ([0]:List Int)>>=fun v1842 =>
    QZ (v1,p1,p0,v1842,(W (v203+1)))
   else
   remM v203 (v605.data.length:Int)>>=fun v1843 =>
   idx v605.data v1843>>=fun v1844 =>
   app 8 v202 ([v1844]:List Int)>>=fun v1845 =>
   QZ (v1,p1,p0,v1845,(W (v203+1)))
  else
  (if p0.kind=7 then
   idx v604 p0.axis>>=fun v1849 =>
   idx v604 p0.axis>>=fun v1850 =>
   idx v605.shape p0.axis>>=fun v1851 =>
   if v1850≥v1851 then
    idx v604 p0.axis>>=fun v1852 =>
    idx v604 p0.axis>>=fun v1853 =>
    idx v605.shape p0.axis>>=fun v1854 =>
    idx v604 p0.axis>>=fun v1855 =>
    setM v604 p0.axis (W (v1853 - v1854))>>=fun v1856 =>
    idx p1 1>>=fun v1857 =>
    some (v1856,v1857.shape,v1857.data)
   else
   some (v604,v605.shape,v605.data)
  else
  some (v604,v605.shape,v605.data)
  )>>=fun ((v1846,v1847,v1848):((List Int) × (List Int) × (List Int))) =>
  Zo (v1846.length=v604.length)>>=fun (_:Unit) =>
  Yz ((⟨v1847,v1848⟩:Qo),v1846)>>=fun (v1859:Int) =>
  app 8 v202 ([v1859]:List Int)>>=fun v1860 =>
  QZ (v1,p1,p0,v1860,(W (v203+1)))
 else
 some v202
 partial_fixpoint
def QcG:((List (List Int)) × (List Qo) × Qa × (List Int) × Int)→(List Int)→Prop:=fun x r=>match x with
 | (v1,p1,p0,v202,v203)=>∀ st,prune 5 ((Qw (QD [1,1,1,0,1,0,0] (QE f21))).bind (env.hint 21).keepAt) st=⟨kp 186 [(1,(.dat (.lst ((List.map Qo.toD) p1)))),(2,(.ptr 0 0)),(4,(.ptr 1 0)),(5,(.ptr 3 0)),(6,(.dat (.lst ((List.map (fun l=>Dat.lst ((List.map Qc) l))) v1)))),(7,(Qd v203))],[(.box [(Qd p0.kind),(.dat (.lst ((List.map Qc) p0.shape))),(Qd p0.buffer),(.dat (.lst ((List.map Qc) p0.starts))),(Qd p0.axis),(Qd p0.amount),(.dat (.lst ((List.map Qc) p0.perm))),(.dat (.lst (Qa.toDs p0.kids)))]),(.box [(.dat (.lst ((List.map Qc) []))),(.dat (.lst ((List.map Qc) [])))]),(.tok 2 v202.length),(.box [(.dat (.lst ((List.map Qc) p0.shape))),(.vec 2 ((List.map Qc) v202))]),(.tok 2 (([]:List Int).length))]⟩ →
  RL prog env (env.hint 21) true (QD [1,1,1,0,1,0,0] (QE f21)) 5 st (fun e s=>match r with|v602=>e=.exit 0∧∃ d,s=⟨sl d 186 [(4,(.ptr 1 0)),(5,(.ptr 3 0))],[(.box [(Qd p0.kind),(.dat (.lst ((List.map Qc) p0.shape))),(Qd p0.buffer),(.dat (.lst ((List.map Qc) p0.starts))),(Qd p0.axis),(Qd p0.amount),(.dat (.lst ((List.map Qc) p0.perm))),(.dat (.lst (Qa.toDs p0.kids)))]),(.box [(.dat (.lst ((List.map Qc) []))),(.dat (.lst ((List.map Qc) [])))]),(.tok 2 v602.length),(.box [(.dat (.lst ((List.map Qc) p0.shape))),(.vec 2 ((List.map Qc) v602))]),(.tok 2 (([]:List Int).length))]⟩)
theorem ZU:∀ x r,QZ x=some r→QcG x r:=by
 refine QZ.partial_correctness _ (fun QZ ZU x r hm=>?_)
 unfold QcG
 obtain ⟨v1,p1,p0,v202,v203⟩:=x
 intro st hst
 refine RL_at hst ?_
 clear hst
 refine Qe (Qe (R_G (Qb 2 ?_)))
 refine QG (fun l=>Dat.lst ((List.map Qc) l)) v1 (es:=(List.map (fun l=>Dat.lst ((List.map Qc) l))) v1) rfl ?_
 refine Qb 1 (Qg ?_)
 refine Qx hm (rfl) (fun hm=>?_) (fun hm=>?_)
 ·refine Qs (Qe (Qz (Qe (R_G (Qb 3 ?_)))))
  obtain ⟨v603,hx,hm⟩:=Qf hm
  refine Y2 1 (fun l=>Dat.lst ((List.map Qc) l)) v1 v203 v603 (es:=(List.map (fun l=>Dat.lst ((List.map Qc) l))) v1) (d:=(.lst ((List.map Qc) v603))) rfl hx rfl rfl ?_
  refine Qb 1 ?_
  obtain ⟨v604,hx,hm⟩:=Qf hm
  refine Z5 (v:=.ms 5 (gb 0 v603.isEmpty) 0 v604.length v604.length) (fun H=>H.set 5 (.mt 3 (gb 0 v603.isEmpty) (cellsOf Qc v604))) rfl (by kernel_rfl) (fun _ hk=>QfB Qc (l:=([]:List Int)) (es:=v603) (bytes:=8) (e:=3) (tt:=5) (g:=0) (m:=([]:List Int).length) hx (fun _=>rfl) (by kernel_rfl) (by kernel_rfl) (by kernel_rfl) (by kernel_rfl) rfl rfl (by kernel_rfl) rfl (by kernel_rfl) (source_lst (fun _=>rfl)) hk) ?_
  refine Qb 1 (Qg (Qe (R_G (Qb 1 ?_))))
  refine QF 2 Qo.toD hm rfl (fun _=>rfl) (fun v605 hm=>?_)
  refine Qb 3 (Qg (Qe (Qe (R_G (Qb 2 (Qg (Qz (Qe (R_G (Qb 2 (Qg ?_)))))))))))
  refine Qx hm (QO _ _) (fun hm=>?_) (fun hm=>?_)
  ·refine Qe (R_G (Qb 1 (Qg (Qz ?_))))
   obtain ⟨v1206,hs,hm⟩:=Qf hm
   refine QT ?_
   refine RL_use (Qa5 _ _ hs) (prune_of2 [(.box [(Qd p0.kind),(.dat (.lst ((List.map Qc) p0.shape))),(Qd p0.buffer),(.dat (.lst ((List.map Qc) p0.starts))),(Qd p0.axis),(Qd p0.amount),(.dat (.lst ((List.map Qc) p0.perm))),(.dat (.lst (Qa.toDs p0.kids)))]),(.box [(.dat (.lst ((List.map Qc) []))),(.dat (.lst ((List.map Qc) [])))]),(.tok 2 v202.length),(.box [(.dat (.lst ((List.map Qc) p0.shape))),(.vec 2 ((List.map Qc) v202))]),(.tok 2 (([]:List Int).length)),(.mt 3 (gb 0 v603.isEmpty) (cellsOf Qc v604)),(.box [(.dat (.lst ((List.map Qc) v605.shape))),(.dat (.lst ((List.map Qc) v605.data)))])] (fun _=>(pg_cons (by kernel_rfl) (pg_cons (by kernel_rfl) (pg_cons (by kernel_rfl) (pg_cons (by kernel_rfl) (pg_cons (by kernel_rfl) (pg_cons (purge_mt Qc _ _ _ _ _) (pg_cons (by kernel_rfl) pg_nil)))))))) rfl) ?_
   clear hs
   intro e s hp
   obtain ⟨rfl,d,rfl⟩:=hp
   refine YM ?_
   refine Qb 4 ?_
   obtain ⟨_,hl1214,hm⟩:=Qf hm
   replace hl1214:=Q3 hl1214
   obtain ⟨v1215,hx,hm⟩:=Qf hm
   have hq:=QaM _ _ hx []
   refine Qci (args:=[(.dat (.agg [(.lst ((List.map Qc) v605.shape)),(.lst ((List.map Qc) v605.data))])),(.ms 5 (gb 0 v603.isEmpty) 0 v604.length v604.length)]) hq (ps_cons (by kernel_rfl) (ps_cons (p1_ms (pc_ms (e:=3) Qc v1206 hl1214 (fun _=>rfl) (by kernel_rfl))) ps_nil)) ?_
   refine Qb 1 ?_
   obtain ⟨v1216,hx,hm⟩:=Qf hm
   refine YZ 2 1 8 2 Qc v202 ([v1215]:List Int) v1216 (xs:=(List.map Qc) v202) (es:=(List.map Qc) ([v1215]:List Int)) (L:=(List.map Qc)) (fun _=>rfl) rfl rfl (fun _=>rfl) hx ?_
   refine Qb 2 ?_
   refine Qg ⟨by kernel_rfl,?_⟩
   refine R_G (Qb 3 (Qg ?_))
   exact ZU _ _ hm _ (by kernel_rfl)
  refine Qe (R_G (Qb 2 (Qg ?_)))
  refine Qx hm (QO _ _) (fun hm=>?_) (fun hm=>?_)
  ·refine YM ?_
   refine Qb 7 ?_
   refine QF 1 Qc hm rfl (fun _=>rfl) (fun v1217 hm=>?_)
   refine Qb 5 ?_
   obtain ⟨v1218,hx,hm⟩:=Qf hm
   refine QL rfl (fun _=>Q6 (e:=3) (n:=p0.axis) (j:=(p0.axis).toNat) (tt:=5) (g:=(gb 0 v603.isEmpty)) (lo:=0) (len:=v604.length) (cap:=v604.length) (k:=.i64) (by kernel_rfl) (by kernel_rfl) rfl (by kernel_rfl) (by kernel_rfl) (idx_nat hx) (Nat.lt_of_lt_of_eq (idx_lt hx) rfl)) ?_
   obtain ⟨v1219,hx,hm⟩:=Qf hm
   refine QL rfl (fun _=>Y4 (tt:=5) (g:=(gb 0 v603.isEmpty)) (j:=(0+(p0.axis).toNat)) (e:=3) (cs:=cellsOf Qc v604) (v:=.dat (Qc v1219)) (by kernel_rfl) (by kernel_rfl) rfl (by kernel_rfl) (Z7 (by kernel_rfl)) (cells_idx Qc hx)) ?_
   refine Qb 1 ?_
   obtain ⟨v1220,hx,hm⟩:=Qf hm
   refine QL rfl (fun _=>Q6 (e:=3) (n:=p0.axis) (j:=(p0.axis).toNat) (tt:=5) (g:=(gb 0 v603.isEmpty)) (lo:=0) (len:=v604.length) (cap:=v604.length) (k:=.i64) (by kernel_rfl) (by kernel_rfl) rfl (by kernel_rfl) (by kernel_rfl) (idx_nat hx) (Nat.lt_of_lt_of_eq (idx_lt hx) rfl)) ?_
   obtain ⟨v1221,hx,hm⟩:=Qf hm
   refine Z5 (fun H=>H.set 5 (.mt 3 (gb 0 v603.isEmpty) (cellsOf Qc v1221))) rfl (by kernel_rfl) (fun _=>Qbu Qc (l:=v604) (n:=p0.axis) (y:=(W ((W (v1217 - 1)) - v1219))) hx (fun _=>rfl) (by kernel_rfl) rfl (by kernel_rfl) (by kernel_rfl) (by kernel_rfl) (by kernel_rfl)) ?_
   refine Qg ⟨by kernel_rfl,?_⟩
   refine YM ?_
   refine Qb 4 ?_
   obtain ⟨_,hl1222,hm⟩:=Qf hm
   replace hl1222:=Q3 hl1222
   obtain ⟨v1223,hx,hm⟩:=Qf hm
   have hq:=QaM _ _ hx []
   refine Qci (args:=[(.dat (.agg [(.lst ((List.map Qc) v605.shape)),(.lst ((List.map Qc) v605.data))])),(.ms 5 (gb 0 v603.isEmpty) 0 v604.length v604.length)]) hq (ps_cons (by kernel_rfl) (ps_cons (p1_ms (pc_ms (e:=3) Qc v1221 hl1222 (fun _=>rfl) (by kernel_rfl))) ps_nil)) ?_
   refine Qb 1 ?_
   obtain ⟨v1224,hx,hm⟩:=Qf hm
   refine YZ 2 1 8 2 Qc v202 ([v1223]:List Int) v1224 (xs:=(List.map Qc) v202) (es:=(List.map Qc) ([v1223]:List Int)) (L:=(List.map Qc)) (fun _=>rfl) rfl rfl (fun _=>rfl) hx ?_
   refine Qb 2 ?_
   refine Qg ⟨by kernel_rfl,?_⟩
   refine R_G (Qb 3 (Qg ?_))
   exact ZU _ _ hm _ (by kernel_rfl)
  refine Qe (R_G (Qb 2 (Qg ?_)))
  refine Qx hm (QO _ _) (fun hm=>?_) (fun hm=>?_)
  ·refine YM ?_
   refine Qb 6 ?_
   obtain ⟨v1225,hx,hm⟩:=Qf hm
   refine QL rfl (fun _=>Q6 (e:=3) (n:=p0.axis) (j:=(p0.axis).toNat) (tt:=5) (g:=(gb 0 v603.isEmpty)) (lo:=0) (len:=v604.length) (cap:=v604.length) (k:=.i64) (by kernel_rfl) (by kernel_rfl) rfl (by kernel_rfl) (by kernel_rfl) (idx_nat hx) (Nat.lt_of_lt_of_eq (idx_lt hx) rfl)) ?_
   obtain ⟨v1226,hx,hm⟩:=Qf hm
   refine QL rfl (fun _=>Y4 (tt:=5) (g:=(gb 0 v603.isEmpty)) (j:=(0+(p0.axis).toNat)) (e:=3) (cs:=cellsOf Qc v604) (v:=.dat (Qc v1226)) (by kernel_rfl) (by kernel_rfl) rfl (by kernel_rfl) (Z7 (by kernel_rfl)) (cells_idx Qc hx)) ?_
   refine Qb 7 ?_
   refine QF 1 Qc hm rfl (fun _=>rfl) (fun v1227 hm=>?_)
   refine Qb 1 ?_
   obtain ⟨v1228,hx,hm⟩:=Qf hm
   refine QL rfl (fun _=>QeG (a:=(W (v1226+p0.amount))) (b:=v1227) hx rfl (by kernel_rfl) (by kernel_rfl)) ?_
   obtain ⟨v1229,hx,hm⟩:=Qf hm
   refine QL rfl (fun _=>Q6 (e:=3) (n:=p0.axis) (j:=(p0.axis).toNat) (tt:=5) (g:=(gb 0 v603.isEmpty)) (lo:=0) (len:=v604.length) (cap:=v604.length) (k:=.i64) (by kernel_rfl) (by kernel_rfl) rfl (by kernel_rfl) (by kernel_rfl) (idx_nat hx) (Nat.lt_of_lt_of_eq (idx_lt hx) rfl)) ?_
   obtain ⟨v1230,hx,hm⟩:=Qf hm
   refine Z5 (fun H=>H.set 5 (.mt 3 (gb 0 v603.isEmpty) (cellsOf Qc v1230))) rfl (by kernel_rfl) (fun _=>Qbu Qc (l:=v604) (n:=p0.axis) (y:=v1228) hx (fun _=>rfl) (by kernel_rfl) rfl (by kernel_rfl) (by kernel_rfl) (by kernel_rfl) (by kernel_rfl)) ?_
   refine Qg ⟨by kernel_rfl,?_⟩
   refine YM ?_
   refine Qb 4 ?_
   obtain ⟨_,hl1231,hm⟩:=Qf hm
   replace hl1231:=Q3 hl1231
   obtain ⟨v1232,hx,hm⟩:=Qf hm
   have hq:=QaM _ _ hx []
   refine Qci (args:=[(.dat (.agg [(.lst ((List.map Qc) v605.shape)),(.lst ((List.map Qc) v605.data))])),(.ms 5 (gb 0 v603.isEmpty) 0 v604.length v604.length)]) hq (ps_cons (by kernel_rfl) (ps_cons (p1_ms (pc_ms (e:=3) Qc v1230 hl1231 (fun _=>rfl) (by kernel_rfl))) ps_nil)) ?_
   refine Qb 1 ?_
   obtain ⟨v1233,hx,hm⟩:=Qf hm
   refine YZ 2 1 8 2 Qc v202 ([v1232]:List Int) v1233 (xs:=(List.map Qc) v202) (es:=(List.map Qc) ([v1232]:List Int)) (L:=(List.map Qc)) (fun _=>rfl) rfl rfl (fun _=>rfl) hx ?_
   refine Qb 2 ?_
   refine Qg ⟨by kernel_rfl,?_⟩
   refine R_G (Qb 3 (Qg ?_))
   exact ZU _ _ hm _ (by kernel_rfl)
  refine Qe (R_G (Qb 2 (Qg ?_)))
  refine Qx hm (QO _ _) (fun hm=>?_) (fun hm=>?_)
  ·refine Qe (R_G (Qb 1 (Qg (Qe (R_G (Qb 1 (Qg (Qz ?_))))))))
   obtain ⟨⟨v1834,v1835⟩,hs,hm⟩:=Qf hm
   refine QT ?_
   refine RL_use (Qa4 _ _ hs) (prune_of2 [(.box [(Qd p0.kind),(.dat (.lst ((List.map Qc) p0.shape))),(Qd p0.buffer),(.dat (.lst ((List.map Qc) p0.starts))),(Qd p0.axis),(Qd p0.amount),(.dat (.lst ((List.map Qc) p0.perm))),(.dat (.lst (Qa.toDs p0.kids)))]),(.box [(.dat (.lst ((List.map Qc) []))),(.dat (.lst ((List.map Qc) [])))]),(.tok 2 v202.length),(.box [(.dat (.lst ((List.map Qc) p0.shape))),(.vec 2 ((List.map Qc) v202))]),(.tok 2 (([]:List Int).length)),(.mt 3 (gb 0 v603.isEmpty) (cellsOf Qc v604)),(.box [(.dat (.lst ((List.map Qc) v605.shape))),(.dat (.lst ((List.map Qc) v605.data)))]),(.mt 3 0 (cellsOf Qc ([]:List Int)))] (fun _=>(pg_cons (by kernel_rfl) (pg_cons (by kernel_rfl) (pg_cons (by kernel_rfl) (pg_cons (by kernel_rfl) (pg_cons (by kernel_rfl) (pg_cons (purge_mt Qc _ _ _ _ _) (pg_cons (by kernel_rfl) (pg_cons (purge_mt Qc _ _ _ _ _) pg_nil))))))))) rfl) ?_
   clear hs
   intro e s hp
   obtain ⟨rfl,d,rfl⟩:=hp
   refine YM ?_
   refine Qb 4 ?_
   obtain ⟨v1840,hx,hm⟩:=Qf hm
   have hq:=QaM _ _ hx []
   refine Qci (args:=[(.dat (.agg [(.lst ((List.map Qc) v605.shape)),(.lst ((List.map Qc) v605.data))])),(.ms 7 v1834 0 v1835.length v1835.length)]) hq (ps_cons (by kernel_rfl) (ps_cons (p1_ms (pc_ms (e:=3) Qc v1835 rfl (fun _=>rfl) (by kernel_rfl))) ps_nil)) ?_
   refine Qb 1 ?_
   obtain ⟨v1841,hx,hm⟩:=Qf hm
   refine YZ 2 1 8 2 Qc v202 ([v1840]:List Int) v1841 (xs:=(List.map Qc) v202) (es:=(List.map Qc) ([v1840]:List Int)) (L:=(List.map Qc)) (fun _=>rfl) rfl rfl (fun _=>rfl) hx ?_
   refine Qb 2 ?_
   refine Qg ⟨by kernel_rfl,?_⟩
   refine R_G (Qb 3 (Qg ?_))
   exact ZU _ _ hm _ (by kernel_rfl)
  refine Qe (R_G (Qb 2 (Qg ?_)))
  refine Qx hm (QO _ _) (fun hm=>?_) (fun hm=>?_)
  ·refine Qe (Qe (R_G (Qb 2 ?_)))
   refine QG Qc v605.data (es:=(List.map Qc) v605.data) rfl ?_
   refine Qb 1 (Qg ?_)
   refine Qx hm (QO _ _) (fun hm=>?_) (fun hm=>?_)
   ·refine Qe (R_G (Qb 3 ?_))
    obtain ⟨v1842,hx,hm⟩:=Qf hm
    refine YZ 2 1 8 2 Qc v202 ([0]:List Int) v1842 (xs:=(List.map Qc) v202) (es:=(List.map Qc) ([0]:List Int)) (L:=(List.map Qc)) (fun _=>rfl) rfl rfl (fun _=>rfl) hx ?_
    refine Qb 2 (Qg (QP (R_G (Qb 3 (Qg ?_)))))
    exact ZU _ _ hm _ (by kernel_rfl)
   refine Qs (Qe ?_)
   refine YM ?_
   refine Qb 7 ?_
   refine QG Qc v605.data (es:=(List.map Qc) v605.data) rfl ?_
   obtain ⟨v1843,hx,hm⟩:=Qf hm
   refine QL rfl (fun _=>QeG (a:=v203) (b:=(v605.data.length:Int)) hx rfl (by kernel_rfl) (by kernel_rfl)) ?_
   refine QF 1 Qc hm rfl (fun _=>rfl) (fun v1844 hm=>?_)
   refine Qb 2 ?_
   obtain ⟨v1845,hx,hm⟩:=Qf hm
   refine YZ 2 1 8 2 Qc v202 ([v1844]:List Int) v1845 (xs:=(List.map Qc) v202) (es:=(List.map Qc) ([v1844]:List Int)) (L:=(List.map Qc)) (fun _=>rfl) rfl rfl (fun _=>rfl) hx ?_
   refine Qb 2 ?_
   refine Qg ⟨by kernel_rfl,?_⟩
   refine QP (R_G (Qb 3 (Qg ?_)))
   exact ZU _ _ hm _ (by kernel_rfl)
  refine Qe (R_G (Qb 2 (Qg ?_)))
  obtain ⟨⟨v1846,v1847,v1848⟩,hs,hm⟩:=Qf hm
  refine Q7 (fun d=>⟨sl d 186 [(1,(.dat (.lst ((List.map Qo.toD) p1)))),(2,(.ptr 0 0)),(4,(.ptr 1 0)),(5,(.ptr 3 0)),(6,(.dat (.lst ((List.map (fun l=>Dat.lst ((List.map Qc) l))) v1)))),(7,(Qd v203)),(8,(.ms 5 (gb 0 v603.isEmpty) 0 v604.length v604.length)),(9,(.ptr 6 0))],[(.box [(Qd p0.kind),(.dat (.lst ((List.map Qc) p0.shape))),(Qd p0.buffer),(.dat (.lst ((List.map Qc) p0.starts))),(Qd p0.axis),(Qd p0.amount),(.dat (.lst ((List.map Qc) p0.perm))),(.dat (.lst (Qa.toDs p0.kids)))]),(.box [(.dat (.lst ((List.map Qc) []))),(.dat (.lst ((List.map Qc) [])))]),(.tok 2 v202.length),(.box [(.dat (.lst ((List.map Qc) p0.shape))),(.vec 2 ((List.map Qc) v202))]),(.tok 2 (([]:List Int).length)),(.mt 3 (gb 0 v603.isEmpty) (cellsOf Qc v1846)),(.box [(.dat (.lst ((List.map Qc) v1847))),(.dat (.lst ((List.map Qc) v1848)))])]⟩) ?_ (fun d=>?_)
  ·replace hm:=hs
   clear hs
   refine Qx hm (QO _ _) (fun hm=>?_) (fun hm=>?_)
   ·refine Qe ?_
    refine YM ?_
    refine Qb 3 ?_
    obtain ⟨v1849,hx,hm⟩:=Qf hm
    refine QL rfl (fun _=>Q6 (e:=3) (n:=p0.axis) (j:=(p0.axis).toNat) (tt:=5) (g:=(gb 0 v603.isEmpty)) (lo:=0) (len:=v604.length) (cap:=v604.length) (k:=.i64) (by kernel_rfl) (by kernel_rfl) rfl (by kernel_rfl) (by kernel_rfl) (idx_nat hx) (Nat.lt_of_lt_of_eq (idx_lt hx) rfl)) ?_
    obtain ⟨v1850,hx,hm⟩:=Qf hm
    refine QL rfl (fun _=>Y4 (tt:=5) (g:=(gb 0 v603.isEmpty)) (j:=(0+(p0.axis).toNat)) (e:=3) (cs:=cellsOf Qc v604) (v:=.dat (Qc v1850)) (by kernel_rfl) (by kernel_rfl) rfl (by kernel_rfl) (Z7 (by kernel_rfl)) (cells_idx Qc hx)) ?_
    refine Qb 4 ?_
    refine QF 1 Qc hm rfl (fun _=>rfl) (fun v1851 hm=>?_)
    refine Qb 2 ?_
    refine Qg ⟨by kernel_rfl,?_⟩
    refine Qx hm (rfl) (fun hm=>?_) (fun hm=>?_)
    ·refine Qe ?_
     refine YM ?_
     refine Qb 6 ?_
     obtain ⟨v1852,hx,hm⟩:=Qf hm
     refine QL rfl (fun _=>Q6 (e:=3) (n:=p0.axis) (j:=(p0.axis).toNat) (tt:=5) (g:=(gb 0 v603.isEmpty)) (lo:=0) (len:=v604.length) (cap:=v604.length) (k:=.i64) (by kernel_rfl) (by kernel_rfl) rfl (by kernel_rfl) (by kernel_rfl) (idx_nat hx) (Nat.lt_of_lt_of_eq (idx_lt hx) rfl)) ?_
     obtain ⟨v1853,hx,hm⟩:=Qf hm
     refine QL rfl (fun _=>Y4 (tt:=5) (g:=(gb 0 v603.isEmpty)) (j:=(0+(p0.axis).toNat)) (e:=3) (cs:=cellsOf Qc v604) (v:=.dat (Qc v1853)) (by kernel_rfl) (by kernel_rfl) rfl (by kernel_rfl) (Z7 (by kernel_rfl)) (cells_idx Qc hx)) ?_
     refine Qb 4 ?_
     refine QF 1 Qc hm rfl (fun _=>rfl) (fun v1854 hm=>?_)
     refine Qb 2 ?_
     obtain ⟨v1855,hx,hm⟩:=Qf hm
     refine QL rfl (fun _=>Q6 (e:=3) (n:=p0.axis) (j:=(p0.axis).toNat) (tt:=5) (g:=(gb 0 v603.isEmpty)) (lo:=0) (len:=v604.length) (cap:=v604.length) (k:=.i64) (by kernel_rfl) (by kernel_rfl) rfl (by kernel_rfl) (by kernel_rfl) (idx_nat hx) (Nat.lt_of_lt_of_eq (idx_lt hx) rfl)) ?_
     obtain ⟨v1856,hx,hm⟩:=Qf hm
     refine Z5 (fun H=>H.set 5 (.mt 3 (gb 0 v603.isEmpty) (cellsOf Qc v1856))) rfl (by kernel_rfl) (fun _=>Qbu Qc (l:=v604) (n:=p0.axis) (y:=(W (v1853 - v1854))) hx (fun _=>rfl) (by kernel_rfl) rfl (by kernel_rfl) (by kernel_rfl) (by kernel_rfl) (by kernel_rfl)) ?_
     refine Qg ⟨by kernel_rfl,?_⟩
     refine R_G (Qb 1 ?_)
     refine QF 2 Qo.toD hm rfl (fun _=>rfl) (fun v1857 hm=>?_)
     refine Qb 2 (Qg ?_)
     obtain ⟨rfl,rfl,rfl⟩:=J3 hm
     exact Qm
    refine Qs ?_
    obtain ⟨rfl,rfl,rfl⟩:=J3 hm
    exact Qm
   refine Qs ?_
   obtain ⟨rfl,rfl,rfl⟩:=J3 hm
   exact Qm
  clear hs
  refine YM ?_
  refine Qb 4 ?_
  obtain ⟨_,hl1858,hm⟩:=Qf hm
  replace hl1858:=Q3 hl1858
  obtain ⟨v1859,hx,hm⟩:=Qf hm
  have hq:=QaM _ _ hx []
  refine Qci (args:=[(.dat (.agg [(.lst ((List.map Qc) v1847)),(.lst ((List.map Qc) v1848))])),(.ms 5 (gb 0 v603.isEmpty) 0 v604.length v604.length)]) hq (ps_cons (by kernel_rfl) (ps_cons (p1_ms (pc_ms (e:=3) Qc v1846 hl1858 (fun _=>rfl) (by kernel_rfl))) ps_nil)) ?_
  refine Qb 1 ?_
  obtain ⟨v1860,hx,hm⟩:=Qf hm
  refine YZ 2 1 8 2 Qc v202 ([v1859]:List Int) v1860 (xs:=(List.map Qc) v202) (es:=(List.map Qc) ([v1859]:List Int)) (L:=(List.map Qc)) (fun _=>rfl) rfl rfl (fun _=>rfl) hx ?_
  refine Qb 2 ?_
  refine Qg ⟨by kernel_rfl,?_⟩
  refine R_G (Qb 3 (Qg ?_))
  exact ZU _ _ hm _ (by kernel_rfl)
 refine QP ?_
 obtain rfl:=Qq hm
 exact ⟨rfl,Qm⟩
def J6 (x:(Qa × (List Qo))):Option Qo :=
 match x with
 | (p0,p1) =>
 X3 p0.shape>>=fun (v1:(List (List Int))) =>
 QZ (v1,p1,p0,([]:List Int),0)>>=fun (v602:(List Int)) =>
 some (⟨p0.shape,v602⟩:Qo)
def Qd5:(Qa × (List Qo))→Qo→Prop:=fun x r=>match x,r with
 | (p0,p1),r0=>∀ H,PC prog env 21 ([(Qa.ex p0),(.lst ((List.map Qo.toD) p1))].map .dat) H (.dat (Qo.toD r0)) H
theorem Qfv:∀ x r,J6 x=some r→Qd5 x r:=by
 intro x r0 hm
 unfold J6 at hm
 unfold Qd5
 obtain ⟨p0,p1⟩:=x
 intro H
 refine PC_sx (ds:=[(Qa.ex p0),(.lst ((List.map Qo.toD) p1))]) (fn:=f21) rfl ?_
 refine Qe (R_G (Qb 2 (Qg (Qe (R_G (Qb 5 (Qg (Qe (R_G (Qb 2 ?_))))))))))
 obtain ⟨v1,hx,hm⟩:=Qf hm
 have hq:=Qe3 _ _ hx []
 refine Qr hq ?_
 refine Qb 1 (Qg (Qe (Qe (R_G (Qb 1 (Qg (Qz ?_)))))))
 obtain ⟨v602,hs,hm⟩:=Qf hm
 refine QT ?_
 refine RL_use (ZU _ _ hs) (by kernel_rfl) ?_
 clear hs
 intro e s hp
 obtain ⟨rfl,d,rfl⟩:=hp
 refine Qe (R_G (Qb 2 (Qg (Qt ?_))))
 obtain rfl:=Qq hm
 exact ⟨trivial,Qk⟩
mutual
def Zv (x:(Qa × Qv × (List Qo) × Int)):Option ((List Qo)) :=
 match x with
 | (p1,p0,v202,v203) =>
 if v203 < (p1.kids.length:Int) then
  idx p1.kids v203>>=fun v603 =>
  YU (p0,v603)>>=fun (v604:Qo) =>
  app 48 v202 ([v604]:List Qo)>>=fun v605 =>
  Zv (p1,p0,v605,(W (v203+1)))
 else
 some v202
 partial_fixpoint
def YU (x:(Qv × Qa)):Option Qo :=
 match x with
 | (p0,p1) =>
 if p1.kind=1 then
  idx p0.sources p1.buffer>>=fun v1 =>
  some v1.value
 else
 Zv (p1,p0,([]:List Qo),0)>>=fun (v602:(List Qo)) =>
 J6 ((⟨p1.kind,p1.shape,p1.buffer,p1.starts,p1.axis,p1.amount,p1.perm,p1.kids⟩:Qa),v602)>>=fun (v606:Qo) =>
 some v606
 partial_fixpoint
end
def Ju:(Qa × Qv × (List Qo) × Int)→(List Qo)→Prop:=fun x r=>match x with
 | (p1,p0,v202,v203)=>∀ st,prune 4 ((Qw (QD [1,1,1,0,1,0,0] (QE f7))).bind (env.hint 7).keepAt) st=⟨kp 37 [(2,(.ptr 0 0)),(3,(.ptr 1 0)),(4,(.ptr 2 0)),(5,(.vec 3 ((List.map Qo.toD) v202))),(6,(Qd v203))],[(.box [(Qd p0.core.kind),(.dat (.lst ((List.map Qc) p0.core.shape))),(Qd p0.core.buffer),(.dat (.lst ((List.map Qc) p0.core.starts))),(Qd p0.core.axis),(Qd p0.core.amount),(.dat (.lst ((List.map Qc) p0.core.perm))),(.dat (.lst (Qa.toDs p0.core.kids))),(.dat (.lst ((List.map Ql.toD) p0.sources)))]),(.box [(Qd p1.kind),(.dat (.lst ((List.map Qc) p1.shape))),(Qd p1.buffer),(.dat (.lst ((List.map Qc) p1.starts))),(Qd p1.axis),(Qd p1.amount),(.dat (.lst ((List.map Qc) p1.perm))),(.dat (.lst (Qa.toDs p1.kids)))]),(.box [(.dat (.lst ((List.map Qc) []))),(.dat (.lst ((List.map Qc) [])))]),(.tok 45 v202.length)]⟩ →
  RL prog env (env.hint 7) true (QD [1,1,1,0,1,0,0] (QE f7)) 4 st (fun e s=>match r with|v602=>e=.exit 0∧∃ d,s=⟨sl d 37 [(3,(.ptr 1 0)),(4,(.ptr 2 0)),(5,(.vec 3 ((List.map Qo.toD) v602)))],[(.box [(Qd p0.core.kind),(.dat (.lst ((List.map Qc) p0.core.shape))),(Qd p0.core.buffer),(.dat (.lst ((List.map Qc) p0.core.starts))),(Qd p0.core.axis),(Qd p0.core.amount),(.dat (.lst ((List.map Qc) p0.core.perm))),(.dat (.lst (Qa.toDs p0.core.kids))),(.dat (.lst ((List.map Ql.toD) p0.sources)))]),(.box [(Qd p1.kind),(.dat (.lst ((List.map Qc) p1.shape))),(Qd p1.buffer),(.dat (.lst ((List.map Qc) p1.starts))),(Qd p1.axis),(Qd p1.amount),(.dat (.lst ((List.map Qc) p1.perm))),(.dat (.lst (Qa.toDs p1.kids)))]),(.box [(.dat (.lst ((List.map Qc) []))),(.dat (.lst ((List.map Qc) [])))]),(.tok 45 v602.length)]⟩)
def QaB:(Qv × Qa)→Qo→Prop:=fun x r=>match x,r with
 | (p0,p1),r0=>∀ H,PC prog env 7 ([(Qv.toD p0),(Qa.ex p1)].map .dat) H (.dat (Qo.toD r0)) H
theorem g_ref16_Direct_L1:(∀ x r,Zv x=some r→Ju x r)∧(∀ x r,YU x=some r→QaB x r):=by
 refine Zv.mutual_partial_correctness Ju QaB ?_ ?_
 ·intro Zv YU Jr QbX x r hm
  unfold Ju
  obtain ⟨p1,p0,v202,v203⟩:=x
  intro st hst
  refine RL_at hst ?_
  clear hst
  refine Qe (Qe (R_G (Qb 3 ?_)))
  refine QG Qa.toD p1.kids (es:=Qa.toDs p1.kids) (Qa.toDs_eq _) ?_
  refine Qb 1 (Qg ?_)
  refine Qx hm (rfl) (fun hm=>?_) (fun hm=>?_)
  ·refine Qs (Qe (Qz ?_))
   refine YM ?_
   refine Qb 5 ?_
   obtain ⟨v603,hx,hm⟩:=Qf hm
   refine Y2 8 Qa.toD p1.kids v203 v603 (es:=Qa.toDs p1.kids) (d:=(Qa.ex v603)) (Qa.toDs_eq _) hx (Qa.toD_eq v603) rfl ?_
   refine Qb 1 ?_
   obtain ⟨v604,hx,hm⟩:=Qf hm
   have hq:=QbX _ _ hx []
   refine Qr hq ?_
   refine Qb 1 ?_
   obtain ⟨v605,hx,hm⟩:=Qf hm
   refine YZ 45 2 48 3 Qo.toD v202 ([v604]:List Qo) v605 (xs:=(List.map Qo.toD) v202) (es:=(List.map Qo.toD) ([v604]:List Qo)) (L:=(List.map Qo.toD)) (fun _=>rfl) rfl rfl Qo.fit hx ?_
   refine Qb 1 ?_
   refine Qg ⟨by kernel_rfl,?_⟩
   refine R_G (Qb 3 (Qg ?_))
   exact Jr _ _ hm _ (by kernel_rfl)
  refine QP ?_
  obtain rfl:=Qq hm
  exact ⟨rfl,Qm⟩
 ·intro Zv Jr x r0 hm
  unfold QaB
  obtain ⟨p0,p1⟩:=x
  intro H
  refine PC_sx (ds:=[(Qv.toD p0),(Qa.ex p1)]) (fn:=f7) rfl ?_
  refine Qe (R_G (Qb 3 (Qg (Qe (Qe (R_G (Qb 3 (Qg ?_))))))))
  refine Qx hm (QO _ _) (fun hm=>?_) (fun hm=>?_)
  ·refine Qe (R_G (Qb 4 ?_))
   refine QF 3 Ql.toD hm rfl (fun _=>rfl) (fun v1 hm=>?_)
   refine Qb 3 (Qg (Qt ?_))
   obtain rfl:=Qq hm
   exact ⟨trivial,Qk⟩
  refine Qs (Qe (R_G (Qb 1 (Qg (Qe (Qe (R_G (Qb 1 (Qg (Qz ?_))))))))))
  obtain ⟨v602,hs,hm⟩:=Qf hm
  refine QT ?_
  refine RL_use (Jr _ _ hs) (by kernel_rfl) ?_
  clear hs
  intro e s hp
  obtain ⟨rfl,d,rfl⟩:=hp
  refine Qe (R_G (Qb 2 ?_))
  obtain ⟨v606,hx,hm⟩:=Qf hm
  have hq:=Qfv _ _ hx []
  refine Qr hq ?_
  refine Qb 1 (Qg (Qt ?_))
  obtain rfl:=Qq hm
  exact ⟨trivial,Qk⟩
theorem Jr:∀ x r,Zv x=some r→Ju x r:=g_ref16_Direct_L1.1
theorem QbX:∀ x r,YU x=some r→QaB x r:=g_ref16_Direct_L1.2
def ZW (x:((List Int) × (List Int) × Int)):Option (Unit ⊕ Unit) :=
 match x with
 | (p1,p0,v201) =>
 if v201 < (p1.length:Int) then
  idx p1 v201>>=fun v601 =>
  (if v601 < 0 then
   some true
  else
  idx p0 v201>>=fun v603 =>
  some (decide (v601≥v603))
  )>>=fun (v602:Bool) =>
  if v602=true then
   some (Sum.inl ())
  else
  ZW (p1,p0,(W (v201+1)))
 else
 some (Sum.inr ())
 partial_fixpoint
def QcH:((List Int) × (List Int) × Int)→(Unit ⊕ Unit)→Prop:=fun x r=>match x with
 | (p1,p0,v201)=>∀ st,prune 0 ((Qw (QD [1,1,0,1,0,0] (QE f39))).bind (env.hint 39).keepAt) st=⟨kp 30 [(0,(.dat (.lst ((List.map Qc) p0)))),(12,(.dat (.lst ((List.map Qc) p1)))),(13,(Qd (p1.length:Int))),(14,(Qd v201))],[]⟩ →
  RL prog env (env.hint 39) true (QD [1,1,0,1,0,0] (QE f39)) 0 st (fun e s=>match r with|.inl _=>e=.ret∧∃ d,s=⟨sl d 30 [(4,(Qp false))],[]⟩|.inr (_)=>e=.exit 0∧∃ d,s=⟨sl d 30 [],[]⟩)
theorem JV:∀ x r,ZW x=some r→QcH x r:=by
 refine ZW.partial_correctness _ (fun ZW JV x r hm=>?_)
 unfold QcH
 obtain ⟨p1,p0,v201⟩:=x
 intro st hst
 refine RL_at hst ?_
 clear hst
 refine Qe (R_G (Qb 1 (Qg (Qe ?_))))
 refine Qx hm (rfl) (fun hm=>?_) (fun hm=>?_)
 ·refine Qs (Qe (Qz (Qe (R_G (Qb 1 ?_)))))
  refine QF 1 Qc hm rfl (fun _=>rfl) (fun v601 hm=>?_)
  refine Qb 3 (Qg (Qe ?_))
  obtain ⟨v602,hs,hm⟩:=Qf hm
  refine Q7 (fun d=>⟨sl d 30 [(0,(.dat (.lst ((List.map Qc) p0)))),(12,(.dat (.lst ((List.map Qc) p1)))),(13,(Qd (p1.length:Int))),(14,(Qd v201)),(28,(Qp v602))],[]⟩) ?_ (fun d=>?_)
  ·replace hm:=hs
   clear hs
   refine R_G (Qb 3 ?_)
   refine Qy 21 hm (rfl) (fun hm=>?_) (fun hm=>?_)
   ·refine Qb 7 (Qg ?_)
    obtain rfl:=Qq hm
    exact Qm
   refine Qb 3 ?_
   refine QF 1 Qc hm rfl (fun _=>rfl) (fun v603 hm=>?_)
   refine Qb 3 (Qg ?_)
   obtain rfl:=Qq hm
   exact Qm
  clear hs
  refine Qx hm (QC _) (fun hm=>?_) (fun hm=>?_)
  ·refine Qe (R_G (Qb 1 (Qg (Qt ?_))))
   obtain rfl:=Qq hm
   exact ⟨rfl,Qm⟩
  refine Qs (R_G (Qb 2 (Qg ?_)))
  exact JV _ _ hm _ (by kernel_rfl)
 refine QP ?_
 obtain rfl:=Qq hm
 exact ⟨rfl,Qm⟩
def Xe (x:((List Int) × (List Int))):Option Bool :=
 match x with
 | (p0,p1) =>
 if (p1.length:Int)≠(p0.length:Int) then
  some false
 else
 (
 ZW (p1,p0,0)>>=fun (out:Unit ⊕ Unit) =>
 match out with
 | .inl _ =>
  some false
 | .inr (_) =>
  some true
 )
def QdW:((List Int) × (List Int))→Bool→Prop:=fun x r=>match x,r with
 | (p0,p1),r0=>∀ H,PC prog env 39 ([(.lst ((List.map Qc) p0)),(.lst ((List.map Qc) p1))].map .dat) H (Qp r0) H
theorem Qbh:∀ x r,Xe x=some r→QdW x r:=by
 intro x r0 hm
 unfold Xe at hm
 unfold QdW
 obtain ⟨p0,p1⟩:=x
 intro H
 refine PC_sx (ds:=[(.lst ((List.map Qc) p0)),(.lst ((List.map Qc) p1))]) (fn:=f39) rfl ?_
 refine Qe (R_G (Qb 1 (Qg (Qe (Qe (R_G (Qb 1 ?_)))))))
 refine QG Qc p1 (es:=(List.map Qc) p1) rfl ?_
 refine Qb 1 ?_
 refine QG Qc p0 (es:=(List.map Qc) p0) rfl ?_
 refine Qb 1 (Qg ?_)
 refine Qx hm (ne_dec _ _) (fun hm=>?_) (fun hm=>?_)
 ·refine Qe (R_G (Qb 1 (Qg (Qt ?_))))
  obtain rfl:=Qq hm
  exact ⟨trivial,Qk⟩
 refine Qs (Qe (Qe (R_G (Qb 1 ?_))))
 refine QG Qc p1 (es:=(List.map Qc) p1) rfl ?_
 refine Qb 1 (Qg (Qz ?_))
 obtain ⟨out,hs,hm⟩:=Qf hm
 refine QT ?_
 rcases out with _|_
 ·refine RL_use (JV _ _ hs) (by kernel_rfl) ?_
  clear hs
  intro e s hp
  obtain ⟨rfl,d,rfl⟩:=hp
  obtain rfl:=Qq hm
  exact ⟨trivial,Qk⟩
 ·refine RL_use (JV _ _ hs) (by kernel_rfl) ?_
  clear hs
  intro e s hp
  obtain ⟨rfl,d,rfl⟩:=hp
  refine Qe (R_G (Qb 1 (Qg (Qt ?_))))
  obtain rfl:=Qq hm
  exact ⟨trivial,Qk⟩
def QaA (x:Int):Option Bool :=
 match x with
 | p0 =>
 some (decide (p0 < 0))
def Qdt:Int→Bool→Prop:=fun x r=>match x,r with
 | p0,r0=>∀ H,PC prog env 122 ([(Qc p0)].map .dat) H (Qp r0) H
theorem Qfk:∀ x r,QaA x=some r→Qdt x r:=by
 intro p0 r0 hm
 unfold QaA at hm
 unfold Qdt
 intro H
 refine PC_sx (ds:=[(Qc p0)]) (fn:=f122) rfl ?_
 refine Qe (R_G (Qb 1 (Qg (Qe (R_G (Qb 3 (Qg (Qt ?_))))))))
 obtain rfl:=Qq hm
 exact ⟨trivial,Qk⟩
def QI (x:((List Int) × Int)):Option (Int ⊕ Unit) :=
 match x with
 | (p0,v201) =>
 if v201 < (p0.length:Int) then
  idx p0 v201>>=fun v602 =>
  QaA v602>>=fun (v603:Bool) =>
  if v603=true then
   some (Sum.inl v201)
  else
  QI (p0,(W (v201+1)))
 else
 some (Sum.inr ())
 partial_fixpoint
def Yx:((List Int) × Int)→(Int ⊕ Unit)→Prop:=fun x r=>match x with
 | (p0,v201)=>∀ st,prune 0 ((Qw (QD [1,0,1,0,0] (QE f127))).bind (env.hint 127).keepAt) st=⟨kp 19 [(0,(.dat (.lst ((List.map Qc) p0)))),(1,(.dat (.raw (.func (.func 122) #[] #[])))),(7,(Qd (p0.length:Int))),(8,(Qd v201))],[]⟩ →
  RL prog env (env.hint 127) true (QD [1,0,1,0,0] (QE f127)) 0 st (fun e s=>match r with|.inl v601=>e=.ret∧∃ d,s=⟨sl d 19 [(4,(Qd v601))],[]⟩|.inr (_)=>e=.exit 0∧∃ d,s=⟨sl d 19 [],[]⟩)
theorem Q9:∀ x r,QI x=some r→Yx x r:=by
 refine QI.partial_correctness _ (fun QI Q9 x r hm=>?_)
 unfold Yx
 obtain ⟨p0,v201⟩:=x
 intro st hst
 refine RL_at hst ?_
 clear hst
 refine Qe (R_G (Qb 1 (Qg (Qe ?_))))
 refine Qx hm (rfl) (fun hm=>?_) (fun hm=>?_)
 ·refine Qs (Qe (Qz (Qe (R_G (Qb 2 (Qg (Qe (R_G (Qb 3 ?_)))))))))
  refine QF 1 Qc hm rfl (fun _=>rfl) (fun v602 hm=>?_)
  refine Qb 1 ?_
  obtain ⟨v603,hx,hm⟩:=Qf hm
  have hq:=Qfk _ _ hx []
  refine Qr hq ?_
  refine Qg ?_
  refine Qx hm (QC _) (fun hm=>?_) (fun hm=>?_)
  ·refine Qe (R_G (Qb 2 (Qg (Qt ?_))))
   obtain rfl:=Qq hm
   exact ⟨rfl,Qm⟩
  refine Qs (R_G (Qb 2 (Qg ?_)))
  exact Q9 _ _ hm _ (by kernel_rfl)
 refine QP ?_
 obtain rfl:=Qq hm
 exact ⟨rfl,Qm⟩
def Zg (x:(List Int)):Option Int :=
 match x with
 | p0 =>
 (
 QI (p0,0)>>=fun (out:Int ⊕ Unit) =>
 match out with
 | .inl v601 =>
  some v601
 | .inr (_) =>
  some (-1)
 )
def YJ:(List Int)→Int→Prop:=fun x r=>match x,r with
 | p0,r0=>∀ H,PC prog env 127 ([(.lst ((List.map Qc) p0)),(.raw (.func (.func 122) #[] #[]))].map .dat) H (Qd r0) H
theorem Jx:∀ x r,Zg x=some r→YJ x r:=by
 intro p0 r0 hm
 unfold Zg at hm
 unfold YJ
 intro H
 refine PC_sx (ds:=[(.lst ((List.map Qc) p0)),(.raw (.func (.func 122) #[] #[]))]) (fn:=f127) rfl ?_
 refine Qe (R_G (Qb 1 (Qg (Qe (Qe (R_G (Qb 1 ?_)))))))
 refine QG Qc p0 (es:=(List.map Qc) p0) rfl ?_
 refine Qb 1 (Qg (Qz ?_))
 obtain ⟨out,hs,hm⟩:=Qf hm
 refine QT ?_
 rcases out with v601|_
 ·refine RL_use (Q9 _ _ hs) (by kernel_rfl) ?_
  clear hs
  intro e s hp
  obtain ⟨rfl,d,rfl⟩:=hp
  obtain rfl:=Qq hm
  exact ⟨trivial,Qk⟩
 ·refine RL_use (Q9 _ _ hs) (by kernel_rfl) ?_
  clear hs
  intro e s hp
  obtain ⟨rfl,d,rfl⟩:=hp
  refine Qe (R_G (Qb 1 (Qg (Qt ?_))))
  obtain rfl:=Qq hm
  exact ⟨trivial,Qk⟩
def QX (x:(List Int)):Option Bool :=
 match x with
 | p0 =>
 Zg p0>>=fun (v1:Int) =>
 some (decide (v1≥0))
def Yu:(List Int)→Bool→Prop:=fun x r=>match x,r with
 | p0,r0=>∀ H,PC prog env 121 ([(.lst ((List.map Qc) p0)),(.raw (.func (.func 122) #[] #[]))].map .dat) H (Qp r0) H
theorem X8:∀ x r,QX x=some r→Yu x r:=by
 intro p0 r0 hm
 unfold QX at hm
 unfold Yu
 intro H
 refine PC_sx (ds:=[(.lst ((List.map Qc) p0)),(.raw (.func (.func 122) #[] #[]))]) (fn:=f121) rfl ?_
 refine Qe (R_G (Qb 1 (Qg (Qe (R_G (Qb 2 ?_))))))
 obtain ⟨v1,hx,hm⟩:=Qf hm
 have hq:=Jx _ _ hx []
 refine Qr hq ?_
 refine Qb 2 (Qg (Qt ?_))
 obtain rfl:=Qq hm
 exact ⟨trivial,Qk⟩
def QaG (x:Int):Option Bool :=
 match x with
 | p0 =>
 some (decide (p0 > 65536))
def QdG:Int→Bool→Prop:=fun x r=>match x,r with
 | p0,r0=>∀ H,PC prog env 123 ([(Qc p0)].map .dat) H (Qp r0) H
theorem Qfc:∀ x r,QaG x=some r→QdG x r:=by
 intro p0 r0 hm
 unfold QaG at hm
 unfold QdG
 intro H
 refine PC_sx (ds:=[(Qc p0)]) (fn:=f123) rfl ?_
 refine Qe (R_G (Qb 1 (Qg (Qe (R_G (Qb 3 (Qg (Qt ?_))))))))
 obtain rfl:=Qq hm
 exact ⟨trivial,Qk⟩
def QJ (x:((List Int) × Int)):Option (Int ⊕ Unit) :=
 match x with
 | (p0,v201) =>
 if v201 < (p0.length:Int) then
  idx p0 v201>>=fun v602 =>
  QaG v602>>=fun (v603:Bool) =>
  if v603=true then
   some (Sum.inl v201)
  else
  QJ (p0,(W (v201+1)))
 else
 some (Sum.inr ())
 partial_fixpoint
def Yy:((List Int) × Int)→(Int ⊕ Unit)→Prop:=fun x r=>match x with
 | (p0,v201)=>∀ st,prune 0 ((Qw (QD [1,0,1,0,0] (QE f127))).bind (env.hint 127).keepAt) st=⟨kp 19 [(0,(.dat (.lst ((List.map Qc) p0)))),(1,(.dat (.raw (.func (.func 123) #[] #[])))),(7,(Qd (p0.length:Int))),(8,(Qd v201))],[]⟩ →
  RL prog env (env.hint 127) true (QD [1,0,1,0,0] (QE f127)) 0 st (fun e s=>match r with|.inl v601=>e=.ret∧∃ d,s=⟨sl d 19 [(4,(Qd v601))],[]⟩|.inr (_)=>e=.exit 0∧∃ d,s=⟨sl d 19 [],[]⟩)
theorem Za:∀ x r,QJ x=some r→Yy x r:=by
 refine QJ.partial_correctness _ (fun QJ Za x r hm=>?_)
 unfold Yy
 obtain ⟨p0,v201⟩:=x
 intro st hst
 refine RL_at hst ?_
 clear hst
 refine Qe (R_G (Qb 1 (Qg (Qe ?_))))
 refine Qx hm (rfl) (fun hm=>?_) (fun hm=>?_)
 ·refine Qs (Qe (Qz (Qe (R_G (Qb 2 (Qg (Qe (R_G (Qb 3 ?_)))))))))
  refine QF 1 Qc hm rfl (fun _=>rfl) (fun v602 hm=>?_)
  refine Qb 1 ?_
  obtain ⟨v603,hx,hm⟩:=Qf hm
  have hq:=Qfc _ _ hx []
  refine Qr hq ?_
  refine Qg ?_
  refine Qx hm (QC _) (fun hm=>?_) (fun hm=>?_)
  ·refine Qe (R_G (Qb 2 (Qg (Qt ?_))))
   obtain rfl:=Qq hm
   exact ⟨rfl,Qm⟩
  refine Qs (R_G (Qb 2 (Qg ?_)))
  exact Za _ _ hm _ (by kernel_rfl)
 refine QP ?_
 obtain rfl:=Qq hm
 exact ⟨rfl,Qm⟩
def Zf (x:(List Int)):Option Int :=
 match x with
 | p0 =>
 (
 QJ (p0,0)>>=fun (out:Int ⊕ Unit) =>
 match out with
 | .inl v601 =>
  some v601
 | .inr (_) =>
  some (-1)
 )
def YI:(List Int)→Int→Prop:=fun x r=>match x,r with
 | p0,r0=>∀ H,PC prog env 127 ([(.lst ((List.map Qc) p0)),(.raw (.func (.func 123) #[] #[]))].map .dat) H (Qd r0) H
theorem Jw:∀ x r,Zf x=some r→YI x r:=by
 intro p0 r0 hm
 unfold Zf at hm
 unfold YI
 intro H
 refine PC_sx (ds:=[(.lst ((List.map Qc) p0)),(.raw (.func (.func 123) #[] #[]))]) (fn:=f127) rfl ?_
 refine Qe (R_G (Qb 1 (Qg (Qe (Qe (R_G (Qb 1 ?_)))))))
 refine QG Qc p0 (es:=(List.map Qc) p0) rfl ?_
 refine Qb 1 (Qg (Qz ?_))
 obtain ⟨out,hs,hm⟩:=Qf hm
 refine QT ?_
 rcases out with v601|_
 ·refine RL_use (Za _ _ hs) (by kernel_rfl) ?_
  clear hs
  intro e s hp
  obtain ⟨rfl,d,rfl⟩:=hp
  obtain rfl:=Qq hm
  exact ⟨trivial,Qk⟩
 ·refine RL_use (Za _ _ hs) (by kernel_rfl) ?_
  clear hs
  intro e s hp
  obtain ⟨rfl,d,rfl⟩:=hp
  refine Qe (R_G (Qb 1 (Qg (Qt ?_))))
  obtain rfl:=Qq hm
  exact ⟨trivial,Qk⟩
def QY (x:(List Int)):Option Bool :=
 match x with
 | p0 =>
 Zf p0>>=fun (v1:Int) =>
 some (decide (v1≥0))
def YA:(List Int)→Bool→Prop:=fun x r=>match x,r with
 | p0,r0=>∀ H,PC prog env 121 ([(.lst ((List.map Qc) p0)),(.raw (.func (.func 123) #[] #[]))].map .dat) H (Qp r0) H
theorem Jf:∀ x r,QY x=some r→YA x r:=by
 intro p0 r0 hm
 unfold QY at hm
 unfold YA
 intro H
 refine PC_sx (ds:=[(.lst ((List.map Qc) p0)),(.raw (.func (.func 123) #[] #[]))]) (fn:=f121) rfl ?_
 refine Qe (R_G (Qb 1 (Qg (Qe (R_G (Qb 2 ?_))))))
 obtain ⟨v1,hx,hm⟩:=Qf hm
 have hq:=Jw _ _ hx []
 refine Qr hq ?_
 refine Qb 2 (Qg (Qt ?_))
 obtain rfl:=Qq hm
 exact ⟨trivial,Qk⟩
def JF (x:(List Int)):Option Int :=
 match x with
 | p0 =>
 QX p0>>=fun (v1:Bool) =>
 if v1=true then
  some 6
 else
 QY p0>>=fun (v2:Bool) =>
 if v2=true then
  some 7
 else
 some 0
def Qev:(List Int)→Int→Prop:=fun x r=>match x,r with
 | p0,r0=>∀ H,PC prog env 104 ([(.lst ((List.map Qc) p0))].map .dat) H (Qd r0) H
theorem Qer:∀ x r,JF x=some r→Qev x r:=by
 intro p0 r0 hm
 unfold JF at hm
 unfold Qev
 intro H
 refine PC_sx (ds:=[(.lst ((List.map Qc) p0))]) (fn:=f104) rfl ?_
 refine Qe (R_G (Qb 1 (Qg (Qe (Qz (Qe (R_G (Qb 1 ?_))))))))
 obtain ⟨v1,hx,hm⟩:=Qf hm
 have hq:=X8 _ _ hx []
 refine Qr hq ?_
 refine Qb 1 (Qg ?_)
 refine Qx hm (QC _) (fun hm=>?_) (fun hm=>?_)
 ·refine Qe (R_G (Qb 1 (Qg (Qt ?_))))
  obtain rfl:=Qq hm
  exact ⟨trivial,Qk⟩
 refine Qe (R_G (Qb 1 ?_))
 obtain ⟨v2,hx,hm⟩:=Qf hm
 have hq:=Jf _ _ hx []
 refine Qr hq ?_
 refine Qb 1 (Qg ?_)
 refine Qx hm (QC _) (fun hm=>?_) (fun hm=>?_)
 ·refine Qe (R_G (Qb 1 (Qg (Qt ?_))))
  obtain rfl:=Qq hm
  exact ⟨trivial,Qk⟩
 refine Qs (Qe (R_G (Qb 1 (Qg (Qt ?_)))))
 obtain rfl:=Qq hm
 exact ⟨trivial,Qk⟩
def Q0 (x:((List Int) × Int × Int)):Option (Int ⊕ Unit) :=
 match x with
 | (p0,p1,v201) =>
 if v201 < (p0.length:Int) then
  idx p0 v201>>=fun v602 =>
  if p1=v602 then
   some (Sum.inl v201)
  else
  Q0 (p0,p1,(W (v201+1)))
 else
 some (Sum.inr ())
 partial_fixpoint
def J1:((List Int) × Int × Int)→(Int ⊕ Unit)→Prop:=fun x r=>match x with
 | (p0,p1,v201)=>∀ st,prune 0 ((Qw (QD [1,0,1,0,0] (QE f124))).bind (env.hint 124).keepAt) st=⟨kp 19 [(0,(.dat (.lst ((List.map Qc) p0)))),(1,(Qd p1)),(7,(Qd (p0.length:Int))),(8,(Qd v201))],[]⟩ →
  RL prog env (env.hint 124) true (QD [1,0,1,0,0] (QE f124)) 0 st (fun e s=>match r with|.inl v601=>e=.ret∧∃ d,s=⟨sl d 19 [(4,(Qd v601))],[]⟩|.inr (_)=>e=.exit 0∧∃ d,s=⟨sl d 19 [],[]⟩)
theorem YH:∀ x r,Q0 x=some r→J1 x r:=by
 refine Q0.partial_correctness _ (fun Q0 YH x r hm=>?_)
 unfold J1
 obtain ⟨p0,p1,v201⟩:=x
 intro st hst
 refine RL_at hst ?_
 clear hst
 refine Qe (R_G (Qb 1 (Qg (Qe ?_))))
 refine Qx hm (rfl) (fun hm=>?_) (fun hm=>?_)
 ·refine Qs (Qe (Qz (Qe (R_G (Qb 2 (Qg (Qe (R_G (Qb 3 ?_)))))))))
  refine QF 1 Qc hm rfl (fun _=>rfl) (fun v602 hm=>?_)
  refine Qb 2 (Qg ?_)
  refine Qx hm (QO _ _) (fun hm=>?_) (fun hm=>?_)
  ·refine Qe (R_G (Qb 2 (Qg (Qt ?_))))
   obtain rfl:=Qq hm
   exact ⟨rfl,Qm⟩
  refine Qs (R_G (Qb 2 (Qg ?_)))
  exact YH _ _ hm _ (by kernel_rfl)
 refine QP ?_
 obtain rfl:=Qq hm
 exact ⟨rfl,Qm⟩
def Y9 (x:((List Int) × Int)):Option Int :=
 match x with
 | (p0,p1) =>
 (
 Q0 (p0,p1,0)>>=fun (out:Int ⊕ Unit) =>
 match out with
 | .inl v601 =>
  some v601
 | .inr (_) =>
  some (-1)
 )
def QaH:((List Int) × Int)→Int→Prop:=fun x r=>match x,r with
 | (p0,p1),r0=>∀ H,PC prog env 124 ([(.lst ((List.map Qc) p0)),(Qc p1)].map .dat) H (Qd r0) H
theorem QcT:∀ x r,Y9 x=some r→QaH x r:=by
 intro x r0 hm
 unfold Y9 at hm
 unfold QaH
 obtain ⟨p0,p1⟩:=x
 intro H
 refine PC_sx (ds:=[(.lst ((List.map Qc) p0)),(Qc p1)]) (fn:=f124) rfl ?_
 refine Qe (R_G (Qb 1 (Qg (Qe (Qe (R_G (Qb 1 ?_)))))))
 refine QG Qc p0 (es:=(List.map Qc) p0) rfl ?_
 refine Qb 1 (Qg (Qz ?_))
 obtain ⟨out,hs,hm⟩:=Qf hm
 refine QT ?_
 rcases out with v601|_
 ·refine RL_use (YH _ _ hs) (by kernel_rfl) ?_
  clear hs
  intro e s hp
  obtain ⟨rfl,d,rfl⟩:=hp
  obtain rfl:=Qq hm
  exact ⟨trivial,Qk⟩
 ·refine RL_use (YH _ _ hs) (by kernel_rfl) ?_
  clear hs
  intro e s hp
  obtain ⟨rfl,d,rfl⟩:=hp
  refine Qe (R_G (Qb 1 (Qg (Qt ?_))))
  obtain rfl:=Qq hm
  exact ⟨trivial,Qk⟩
def Z2 (x:((List Int) × Int)):Option Bool :=
 match x with
 | (p0,p1) =>
 Y9 (p0,p1)>>=fun (v1:Int) =>
 some (decide (v1≥0))
def J2:((List Int) × Int)→Bool→Prop:=fun x r=>match x,r with
 | (p0,p1),r0=>∀ H,PC prog env 105 ([(.lst ((List.map Qc) p0)),(Qc p1)].map .dat) H (Qp r0) H
theorem Qca:∀ x r,Z2 x=some r→J2 x r:=by
 intro x r0 hm
 unfold Z2 at hm
 unfold J2
 obtain ⟨p0,p1⟩:=x
 intro H
 refine PC_sx (ds:=[(.lst ((List.map Qc) p0)),(Qc p1)]) (fn:=f105) rfl ?_
 refine Qe (R_G (Qb 1 (Qg (Qe (R_G (Qb 2 ?_))))))
 obtain ⟨v1,hx,hm⟩:=Qf hm
 have hq:=QcT _ _ hx []
 refine Qr hq ?_
 refine Qb 2 (Qg (Qt ?_))
 obtain rfl:=Qq hm
 exact ⟨trivial,Qk⟩
def Qb5 (x:(Int × Int × Int)):Option (Int × Bool) :=
 match x with
 | (p0,p1,p2) =>
 ((if p0 < 0 then
  some true
 else
 some (decide (p1 < 0))
 )>>=fun (v2:Bool) =>
 (if v2=true then
  some true
 else
 some (decide (p0 > p2))
 )>>=fun (v3:Bool) =>
 (if v3=true then
  some true
 else
 some (decide (p1 > p2))
 )>>=fun (v4:Bool) =>
 if v4=true then
  some true
 else
 if p1 > 0 then
  quoM p2 p1>>=fun v5 =>
  some (decide (p0 > v5))
 else
 some false
 )>>=fun (v1:Bool) =>
 if v1=true then
  some (0,false)
 else
 some ((W (p0 * p1)),true)
def Qfe:(Int × Int × Int)→(Int × Bool)→Prop:=fun x r=>match x,r with
 | (p0,p1,p2),(r0,r1)=>∀ H,PC prog env 108 ([(Qc p0),(Qc p1),(Qc p2)].map .dat) H (.tup [(Qd r0),(Qp r1)]) H
theorem Qf3:∀ x r,Qb5 x=some r→Qfe x r:=by
 intro x r hm
 unfold Qb5 at hm
 unfold Qfe
 obtain ⟨p0,p1,p2⟩:=x
 obtain ⟨r0,r1⟩:=r
 intro H
 refine PC_sx (ds:=[(Qc p0),(Qc p1),(Qc p2)]) (fn:=f108) rfl ?_
 refine Qe (R_G (Qb 2 (Qg (Qe (Qe ?_)))))
 obtain ⟨v1,hs,hm⟩:=Qf hm
 refine Q7 (fun d=>⟨sl d 38 [(0,(Qd p0)),(1,(Qd p1)),(34,(Qp v1))],[]⟩) ?_ (fun d=>?_)
 ·replace hm:=hs
  clear hs
  refine Qdd ?_
  refine Qb 3 ?_
  obtain ⟨v2,hs,hm⟩:=Qf hm
  refine ZS (j:=6) (fun d=>⟨sl d 38 [(0,(Qd p0)),(1,(Qd p1)),(2,(Qd p2)),(13,(Qp v2))],[]⟩) (fun d=>?_) (fun hJ=>?_)
  ·clear hs
   refine Qb 1 ?_
   obtain ⟨v3,hs,hm⟩:=Qf hm
   refine ZS (j:=11) (fun d=>⟨sl d 38 [(0,(Qd p0)),(1,(Qd p1)),(2,(Qd p2)),(18,(Qp v3))],[]⟩) (fun d=>?_) (fun hJ=>?_)
   ·clear hs
    refine Qb 1 ?_
    obtain ⟨v4,hs,hm⟩:=Qf hm
    refine ZS (j:=16) (fun d=>⟨sl d 38 [(0,(Qd p0)),(1,(Qd p1)),(2,(Qd p2)),(23,(Qp v4))],[]⟩) (fun d=>?_) (fun hJ=>?_)
    ·clear hs
     refine Qb 1 ?_
     refine Qy 24 hm (QC _) (fun hm=>?_) (fun hm=>?_)
     ·refine Qb 10 ?_
      refine Qg ⟨by kernel_rfl,?_⟩
      obtain rfl:=Qq hm
      exact Qm
     refine Qb 3 ?_
     refine Qy 27 hm (rfl) (fun hm=>?_) (fun hm=>?_)
     ·refine Qb 3 ?_
      obtain ⟨v5,hx,hm⟩:=Qf hm
      refine QL rfl (fun _=>Qge (a:=p2) (b:=p1) hx rfl (by kernel_rfl) (by kernel_rfl)) ?_
      refine Qb 3 ?_
      refine Qg ⟨by kernel_rfl,?_⟩
      obtain rfl:=Qq hm
      exact Qm
     refine Qb 7 ?_
     refine Qg ⟨by kernel_rfl,?_⟩
     obtain rfl:=Qq hm
     exact Qm
    clear hm
    refine Qy 19 hs (QC _) (fun hm=>?_) (fun hm=>?_)
    ·refine Qb 4 ?_
     obtain rfl:=Qq hm
     exact hJ _ _
    refine Qb 4 ?_
    obtain rfl:=Qq hm
    exact hJ _ _
   clear hm
   refine Qy 14 hs (QC _) (fun hm=>?_) (fun hm=>?_)
   ·refine Qb 4 ?_
    obtain rfl:=Qq hm
    exact hJ _ _
   refine Qb 4 ?_
   obtain rfl:=Qq hm
   exact hJ _ _
  clear hm
  refine Qy 10 hs (rfl) (fun hm=>?_) (fun hm=>?_)
  ·refine Qb 3 ?_
   obtain rfl:=Qq hm
   exact hJ _ _
  refine Qb 3 ?_
  obtain rfl:=Qq hm
  exact hJ _ _
 clear hs
 refine Qx hm (QC _) (fun hm=>?_) (fun hm=>?_)
 ·refine Qe (R_G (Qb 2 (Qg (Qt ?_))))
  obtain ⟨rfl,rfl⟩:=Zn hm
  exact ⟨trivial,Qk⟩
 refine Qs (Qe (R_G (Qb 5 (Qg (Qt ?_)))))
 obtain ⟨rfl,rfl⟩:=Zn hm
 exact ⟨trivial,Qk⟩
def JE (x:(Int × Int)):Option (Int × Bool) :=
 match x with
 | (p0,p1) =>
 Qb5 (p0,p1,65536)>>=fun ((v1,v2):(Int × Bool)) =>
 some (v1,v2)
def QcI:(Int × Int)→(Int × Bool)→Prop:=fun x r=>match x,r with
 | (p0,p1),(r0,r1)=>∀ H,PC prog env 107 ([(Qc p0),(Qc p1)].map .dat) H (.tup [(Qd r0),(Qp r1)]) H
theorem QeO:∀ x r,JE x=some r→QcI x r:=by
 intro x r hm
 unfold JE at hm
 unfold QcI
 obtain ⟨p0,p1⟩:=x
 obtain ⟨r0,r1⟩:=r
 intro H
 refine PC_sx (ds:=[(Qc p0),(Qc p1)]) (fn:=f107) rfl ?_
 refine Qe (R_G (Qb 2 (Qg (Qe (R_G (Qb 2 ?_))))))
 obtain ⟨⟨v1,v2⟩,hx,hm⟩:=Qf hm
 have hq:=Qf3 _ _ hx []
 refine Qr hq ?_
 refine Qb 4 (Qg (Qt ?_))
 obtain ⟨rfl,rfl⟩:=Zn hm
 exact ⟨trivial,Qk⟩
def QN (x:((List Int) × Int × Int)):Option (Int ⊕ Int) :=
 match x with
 | (p0,v201,v202) =>
 if v202 < (p0.length:Int) then
  idx p0 v202>>=fun v603 =>
  JE (v201,v603)>>=fun ((v604,v605):(Int × Bool)) =>
  if v605=false then
   some (Sum.inl v604)
  else
  QN (p0,v604,(W (v202+1)))
 else
 some (Sum.inr v201)
 partial_fixpoint
def Xv:((List Int) × Int × Int)→(Int ⊕ Int)→Prop:=fun x r=>match x with
 | (p0,v201,v202)=>∀ st,prune 0 ((Qw (QD [1,1,0,1,0,0] (QE f125))).bind (env.hint 125).keepAt) st=⟨kp 31 [(2,(.dat (.raw (.func (.func 107) #[] #[])))),(8,(Qd v201)),(13,(.dat (.lst ((List.map Qc) p0)))),(14,(Qd (p0.length:Int))),(15,(Qd v202))],[]⟩ →
  RL prog env (env.hint 125) true (QD [1,1,0,1,0,0] (QE f125)) 0 st (fun e s=>match r with|.inl v601=>e=.ret∧∃ d,s=⟨sl d 31 [(6,(Qd v601)),(7,(Qp false))],[]⟩|.inr (v602)=>e=.exit 0∧∃ d,s=⟨sl d 31 [(8,(Qd v602))],[]⟩)
theorem ZB:∀ x r,QN x=some r→Xv x r:=by
 refine QN.partial_correctness _ (fun QN ZB x r hm=>?_)
 unfold Xv
 obtain ⟨p0,v201,v202⟩:=x
 intro st hst
 refine RL_at hst ?_
 clear hst
 refine Qe (R_G (Qb 1 (Qg (Qe ?_))))
 refine Qx hm (rfl) (fun hm=>?_) (fun hm=>?_)
 ·refine Qs (Qe (Qz (Qe (R_G ?_))))
  refine QF 1 Qc hm rfl (fun _=>rfl) (fun v603 hm=>?_)
  refine Qb 2 (Qg (Qe (R_G (Qb 3 ?_))))
  obtain ⟨⟨v604,v605⟩,hx,hm⟩:=Qf hm
  have hq:=QeO _ _ hx []
  refine Qr hq ?_
  refine Qb 5 (Qg (Qe (R_G (Qb 2 (Qg ?_)))))
  refine Qx hm (ZL _) (fun hm=>?_) (fun hm=>?_)
  ·refine Qe (R_G (Qb 3 (Qg (Qt ?_))))
   obtain rfl:=Qq hm
   exact ⟨rfl,Qm⟩
  refine Qs (R_G (Qb 2 (Qg ?_)))
  exact ZB _ _ hm _ (by kernel_rfl)
 refine QP ?_
 obtain rfl:=Qq hm
 exact ⟨rfl,Qm⟩
def Z0 (x:((List Int) × Int)):Option (Int × Bool) :=
 match x with
 | (p0,p1) =>
 (
 QN (p0,p1,0)>>=fun (out:Int ⊕ Int) =>
 match out with
 | .inl v601 =>
  some (v601,false)
 | .inr (v602) =>
  some (v602,true)
 )
def X2:((List Int) × Int)→(Int × Bool)→Prop:=fun x r=>match x,r with
 | (p0,p1),(r0,r1)=>∀ H,PC prog env 125 ([(.lst ((List.map Qc) p0)),(Qc p1),(.raw (.func (.func 107) #[] #[]))].map .dat) H (.tup [(Qd r0),(Qp r1)]) H
theorem Qa6:∀ x r,Z0 x=some r→X2 x r:=by
 intro x r hm
 unfold Z0 at hm
 unfold X2
 obtain ⟨p0,p1⟩:=x
 obtain ⟨r0,r1⟩:=r
 intro H
 refine PC_sx (ds:=[(.lst ((List.map Qc) p0)),(Qc p1),(.raw (.func (.func 107) #[] #[]))]) (fn:=f125) rfl ?_
 refine Qe (R_G (Qb 2 (Qg (Qe (R_G (Qb 3 (Qg (Qe (Qe (R_G (Qb 1 ?_)))))))))))
 refine QG Qc p0 (es:=(List.map Qc) p0) rfl ?_
 refine Qb 1 (Qg (Qz ?_))
 obtain ⟨out,hs,hm⟩:=Qf hm
 refine QT ?_
 rcases out with v601|v602
 ·refine RL_use (ZB _ _ hs) (by kernel_rfl) ?_
  clear hs
  intro e s hp
  obtain ⟨rfl,d,rfl⟩:=hp
  obtain ⟨rfl,rfl⟩:=Zn hm
  exact ⟨trivial,Qk⟩
 ·refine RL_use (ZB _ _ hs) (by kernel_rfl) ?_
  clear hs
  intro e s hp
  obtain ⟨rfl,d,rfl⟩:=hp
  refine Qe (R_G (Qb 3 (Qg (Qt ?_))))
  obtain ⟨rfl,rfl⟩:=Zn hm
  exact ⟨trivial,Qk⟩
def ZZ (x:((List Int) × Int)):Option (Int × Int) :=
 match x with
 | (p0,p1) =>
 JF p0>>=fun (v1:Int) =>
 if v1≠0 then
  some (0,v1)
 else
 Z0 (p0,p1)>>=fun ((v2,v3):(Int × Bool)) =>
 if v3=false then
  some (0,7)
 else
 some (v2,0)
def XU:((List Int) × Int)→(Int × Int)→Prop:=fun x r=>match x,r with
 | (p0,p1),(r0,r1)=>∀ H,PC prog env 106 ([(.lst ((List.map Qc) p0)),(Qc p1),(.raw (.func (.func 107) #[] #[]))].map .dat) H (.tup [(Qd r0),(Qd r1)]) H
theorem Qa7:∀ x r,ZZ x=some r→XU x r:=by
 intro x r hm
 unfold ZZ at hm
 unfold XU
 obtain ⟨p0,p1⟩:=x
 obtain ⟨r0,r1⟩:=r
 intro H
 refine PC_sx (ds:=[(.lst ((List.map Qc) p0)),(Qc p1),(.raw (.func (.func 107) #[] #[]))]) (fn:=f106) rfl ?_
 refine Qe (R_G (Qb 2 (Qg (Qe (Qe (R_G (Qb 1 ?_)))))))
 obtain ⟨v1,hx,hm⟩:=Qf hm
 have hq:=Qer _ _ hx []
 refine Qr hq ?_
 refine Qb 1 (Qg (Qe (R_G (Qb 2 (Qg ?_)))))
 refine Qx hm (ne_dec _ _) (fun hm=>?_) (fun hm=>?_)
 ·refine Qe (R_G (Qb 3 (Qg (Qt ?_))))
  obtain ⟨rfl,rfl⟩:=Zn hm
  exact ⟨trivial,Qk⟩
 refine Qs (Qe (R_G (Qb 3 ?_)))
 obtain ⟨⟨v2,v3⟩,hx,hm⟩:=Qf hm
 have hq:=Qa6 _ _ hx []
 refine Qr hq ?_
 refine Qb 5 (Qg (Qe (Qe (R_G (Qb 2 (Qg ?_))))))
 refine Qx hm (ZL _) (fun hm=>?_) (fun hm=>?_)
 ·refine Qe (R_G (Qb 2 (Qg (Qt ?_))))
  obtain ⟨rfl,rfl⟩:=Zn hm
  exact ⟨trivial,Qk⟩
 refine Qs (Qe (R_G (Qb 3 (Qg (Qt ?_)))))
 obtain ⟨rfl,rfl⟩:=Zn hm
 exact ⟨trivial,Qk⟩
def X1 (x:(List Int)):Option (Int × Int) :=
 match x with
 | p0 =>
 JF p0>>=fun (v1:Int) =>
 (if v1=0 then
  Z2 (p0,0)>>=fun (v3:Bool) =>
  some v3
 else
 some false
 )>>=fun (v2:Bool) =>
 if v2=true then
  some (0,0)
 else
 ZZ (p0,1)>>=fun ((v4,v5):(Int × Int)) =>
 some (v4,v5)
def QdD:(List Int)→(Int × Int)→Prop:=fun x r=>match x,r with
 | p0,(r0,r1)=>∀ H,PC prog env 77 ([(.lst ((List.map Qc) p0))].map .dat) H (.tup [(Qd r0),(Qd r1)]) H
theorem Qdg:∀ x r,X1 x=some r→QdD x r:=by
 intro p0 r hm
 unfold X1 at hm
 unfold QdD
 obtain ⟨r0,r1⟩:=r
 intro H
 refine PC_sx (ds:=[(.lst ((List.map Qc) p0))]) (fn:=f77) rfl ?_
 refine Qe (R_G (Qb 2 (Qg (Qe (Qe (R_G (Qb 1 ?_)))))))
 obtain ⟨v1,hx,hm⟩:=Qf hm
 have hq:=Qer _ _ hx []
 refine Qr hq ?_
 refine Qb 1 (Qg (Qe ?_))
 obtain ⟨v2,hs,hm⟩:=Qf hm
 refine Q7 (fun d=>⟨sl d 17 [(0,(.dat (.lst ((List.map Qc) p0)))),(12,(Qp v2))],[]⟩) ?_ (fun d=>?_)
 ·replace hm:=hs
  clear hs
  refine R_G (Qb 3 ?_)
  refine Qy 9 hm (QO _ _) (fun hm=>?_) (fun hm=>?_)
  ·refine Qb 1 ?_
   obtain ⟨v3,hx,hm⟩:=Qf hm
   have hq:=Qca _ _ hx []
   refine Qr hq ?_
   refine Qb 1 (Qg ?_)
   obtain rfl:=Qq hm
   exact Qm
  refine Qb 3 (Qg ?_)
  obtain rfl:=Qq hm
  exact Qm
 clear hs
 refine Qx hm (QC _) (fun hm=>?_) (fun hm=>?_)
 ·refine Qe (R_G (Qb 2 (Qg (Qt ?_))))
  obtain ⟨rfl,rfl⟩:=Zn hm
  exact ⟨trivial,Qk⟩
 refine Qs (Qe (R_G (Qb 1 ?_)))
 obtain ⟨⟨v4,v5⟩,hx,hm⟩:=Qf hm
 have hq:=Qa7 _ _ hx []
 refine Qr hq ?_
 refine Qb 4 (Qg (Qt ?_))
 obtain ⟨rfl,rfl⟩:=Zn hm
 exact ⟨trivial,Qk⟩
def XD (x:(List Int)):Option Int :=
 match x with
 | p0 =>
 X1 p0>>=fun ((v1,v2):(Int × Int)) =>
 (if v2≠6 then
  some (decide ((p0.length:Int) > 16))
 else
 some false
 )>>=fun (v3:Bool) =>
 if v3=true then
  some 7
 else
 some v2
def Qec:(List Int)→Int→Prop:=fun x r=>match x,r with
 | p0,r0=>∀ H,PC prog env 47 ([(.lst ((List.map Qc) p0))].map .dat) H (Qd r0) H
theorem Qcq:∀ x r,XD x=some r→Qec x r:=by
 intro p0 r0 hm
 unfold XD at hm
 unfold Qec
 intro H
 refine PC_sx (ds:=[(.lst ((List.map Qc) p0))]) (fn:=f47) rfl ?_
 refine Qe (R_G (Qb 1 (Qg (Qe (R_G (Qb 1 ?_))))))
 obtain ⟨⟨v1,v2⟩,hx,hm⟩:=Qf hm
 have hq:=Qdg _ _ hx []
 refine Qr hq ?_
 refine Qb 5 (Qg (Qe (Qe ?_)))
 obtain ⟨v3,hs,hm⟩:=Qf hm
 refine Q7 (fun d=>⟨sl d 18 [(4,(Qd v2)),(16,(Qp v3))],[]⟩) ?_ (fun d=>?_)
 ·replace hm:=hs
  clear hs
  refine R_G (Qb 3 ?_)
  refine Qy 12 hm (ne_dec _ _) (fun hm=>?_) (fun hm=>?_)
  ·refine Qb 1 ?_
   refine QG Qc p0 (es:=(List.map Qc) p0) rfl ?_
   refine Qb 2 (Qg ?_)
   obtain rfl:=Qq hm
   exact Qm
  refine Qb 4 (Qg ?_)
  obtain rfl:=Qq hm
  exact Qm
 clear hs
 refine Qx hm (QC _) (fun hm=>?_) (fun hm=>?_)
 ·refine Qe (R_G (Qb 1 (Qg (Qt ?_))))
  obtain rfl:=Qq hm
  exact ⟨trivial,Qk⟩
 refine Qs (Qe (R_G (Qb 2 (Qg (Qt ?_)))))
 obtain rfl:=Qq hm
 exact ⟨trivial,Qk⟩
def YN (x:(List Int)):Option Int :=
 match x with
 | p0 =>
 XD p0>>=fun (v1:Int) =>
 if v1≠0 then
  some 0
 else
 X1 p0>>=fun ((v2,v3):(Int × Int)) =>
 some v2
def Qd7:(List Int)→Int→Prop:=fun x r=>match x,r with
 | p0,r0=>∀ H,PC prog env 42 ([(.lst ((List.map Qc) p0))].map .dat) H (Qd r0) H
theorem Qbk:∀ x r,YN x=some r→Qd7 x r:=by
 intro p0 r0 hm
 unfold YN at hm
 unfold Qd7
 intro H
 refine PC_sx (ds:=[(.lst ((List.map Qc) p0))]) (fn:=f42) rfl ?_
 refine Qe (R_G (Qb 1 (Qg (Qe (Qe (R_G (Qb 1 ?_)))))))
 obtain ⟨v1,hx,hm⟩:=Qf hm
 have hq:=Qcq _ _ hx []
 refine Qr hq ?_
 refine Qb 1 (Qg ?_)
 refine Qx hm (ne_dec _ _) (fun hm=>?_) (fun hm=>?_)
 ·refine Qe (R_G (Qb 1 (Qg (Qt ?_))))
  obtain rfl:=Qq hm
  exact ⟨trivial,Qk⟩
 refine Qs (Qe (R_G (Qb 1 ?_)))
 obtain ⟨⟨v2,v3⟩,hx,hm⟩:=Qf hm
 have hq:=Qdg _ _ hx []
 refine Qr hq ?_
 refine Qb 5 (Qg (Qe (R_G (Qb 2 (Qg (Qt ?_))))))
 obtain rfl:=Qq hm
 exact ⟨trivial,Qk⟩
def ZO (x:((List Int) × (List Int) × (List Int) × Int × Int)):Option ((List Int)) :=
 match x with
 | (p0,v2,v204,v205,v206) =>
 if v206 < (p0.length:Int) then
  Zo (v204.length=v2.length)>>=fun (_:Unit) =>
  idx v204 (W ((W ((p0.length:Int) - 1)) - v206))>>=fun v605 =>
  setM v204 (W ((W ((p0.length:Int) - 1)) - v206)) v205>>=fun v607 =>
  idx p0 (W ((W ((p0.length:Int) - 1)) - v206))>>=fun v608 =>
  ZO (p0,v2,v607,(W (v205 * v608)),(W (v206+1)))
 else
 some v204
 partial_fixpoint
def QbY:((List Int) × (List Int) × (List Int) × Int × Int)→(List Int)→Prop:=fun x r=>match x with
 | (p0,v2,v204,v205,v206)=>∀ st,prune 1 ((Qw (QD [1,1,1,1,1,0,1,0,0] (QE f102))).bind (env.hint 102).keepAt) st=⟨kp 39 [(0,(.dat (.lst ((List.map Qc) p0)))),(3,(.arr 0 0 v2.length v2.length)),(4,(Qd v205)),(18,(Qd (p0.length:Int))),(19,(Qd v206))],[(.box (cellsOf Qc v204))]⟩ →
  RL prog env (env.hint 102) true (QD [1,1,1,1,1,0,1,0,0] (QE f102)) 1 st (fun e s=>match r with|v604=>e=.exit 0∧∃ d,s=⟨sl d 39 [(3,(.arr 0 0 v2.length v2.length))],[(.box (cellsOf Qc v604))]⟩)
theorem Qaq:∀ x r,ZO x=some r→QbY x r:=by
 refine ZO.partial_correctness _ (fun ZO Qaq x r hm=>?_)
 unfold QbY
 obtain ⟨p0,v2,v204,v205,v206⟩:=x
 intro st hst
 refine RL_at hst ?_
 clear hst
 refine Qe (R_G (Qb 1 (Qg (Qe ?_))))
 refine Qx hm (rfl) (fun hm=>?_) (fun hm=>?_)
 ·refine Qs (Qe (Qz (Qe (R_G (Qb 2 (Qg (Qe (R_G (Qb 1 ?_)))))))))
  refine QG Qc p0 (es:=(List.map Qc) p0) rfl ?_
  refine Qb 4 (Qg (Qe (R_G (Qb 3 ?_))))
  obtain ⟨_,hl606,hm⟩:=Qf hm
  replace hl606:=Q3 hl606
  obtain ⟨v605,hx,hm⟩:=Qf hm
  refine QL rfl (fun _=>Qfa (e:=3) (l:=v204) (n:=(W ((W ((p0.length:Int) - 1)) - v206))) (i:=0) (cap:=v2.length) (m:=v2.length) hx hl606 (by kernel_rfl) (by kernel_rfl) rfl (by kernel_rfl) (by kernel_rfl)) ?_
  obtain ⟨v607,hx,hm⟩:=Qf hm
  refine Z5 (fun H=>H.set 0 (.box (cellsOf Qc v607))) rfl (by kernel_rfl) (fun _=>Qe9 Qc (l:=v204) (n:=(W ((W ((p0.length:Int) - 1)) - v206))) (y:=v205) hx (fun _=>rfl) (by kernel_rfl) rfl (by kernel_rfl) (by kernel_rfl) (by kernel_rfl) (by kernel_rfl)) ?_
  refine Qg (R_G (Qb 3 ?_))
  refine QF 1 Qc hm rfl (fun _=>rfl) (fun v608 hm=>?_)
  refine Qb 3 (Qg (R_G (Qb 2 (Qg ?_))))
  exact Qaq _ _ hm _ (prune_of2 [(.box (cellsOf Qc v607))] (fun _=>(pg_cons (purge_box Qc _ _ _) pg_nil)) rfl)
 refine QP ?_
 obtain rfl:=Qq hm
 exact ⟨rfl,Qm⟩
def Jj (x:(List Int)):Option (List Int) :=
 match x with
 | p0 =>
 XD p0>>=fun (v1:Int) =>
 if v1≠0 then
  some ([]:(List Int))
 else
 makeM 8 (p0.length:Int) 0>>=fun v2 =>
 YN p0>>=fun (v3:Int) =>
 if v3=0 then
  some v2
 else
 ZO (p0,v2,v2,1,0)>>=fun (v604:(List Int)) =>
 Zo (v604.length=v2.length)>>=fun (_:Unit) =>
 some v604
def Qda:(List Int)→(List Int)→Prop:=fun x r=>match x,r with
 | p0,r0=>∀ H,PC prog env 102 ([(.lst ((List.map Qc) p0))].map .dat) H (.dat (.lst ((List.map Qc) r0))) H
theorem Qe6:∀ x r,Jj x=some r→Qda x r:=by
 intro p0 r0 hm
 unfold Jj at hm
 unfold Qda
 intro H
 refine PC_sx (ds:=[(.lst ((List.map Qc) p0))]) (fn:=f102) rfl ?_
 refine Qe (R_G (Qb 1 (Qg (Qe (Qe (R_G (Qb 1 ?_)))))))
 obtain ⟨v1,hx,hm⟩:=Qf hm
 have hq:=Qcq _ _ hx []
 refine Qr hq ?_
 refine Qb 1 (Qg ?_)
 refine Qx hm (ne_dec _ _) (fun hm=>?_) (fun hm=>?_)
 ·refine Qe (R_G (Qb 1 (Qg (Qt ?_))))
  obtain rfl:=Qq hm
  exact ⟨trivial,Qk⟩
 refine Qs (Qe (R_G (Qb 1 ?_)))
 refine QG Qc p0 (es:=(List.map Qc) p0) rfl ?_
 obtain ⟨v2,hx,hm⟩:=Qf hm
 refine Z5 (v:=.arr 0 0 v2.length v2.length) (fun H=>H++[.box (cellsOf Qc v2)]) rfl (by kernel_rfl) ?_ ?_
 ·intro K hk
  exact Qdo 0 Qc (z:=0) (n:=(p0.length:Int)) (bytes:=8) hx (e:=3) (by kernel_rfl) (by kernel_rfl) (by kernel_rfl) (by kernel_rfl) rfl rfl (by kernel_rfl) (by kernel_rfl) hk
 refine Qb 1 (Qg (Qe (Qe (R_G (Qb 1 ?_)))))
 obtain ⟨v3,hx,hm⟩:=Qf hm
 have hq:=Qbk _ _ hx []
 refine Qr hq ?_
 refine Qb 1 (Qg ?_)
 refine Qx hm (QO _ _) (fun hm=>?_) (fun hm=>?_)
 ·refine Qe (R_G (Qb 2 (Qg (Qt ?_))))
  obtain rfl:=Qq hm
  exact ⟨trivial,YB [(.arr 0 0 v2.length v2.length)] (by kernel_rfl) (po_arr (pc_arr Qc v2 rfl (fun _=>rfl) (by kernel_rfl)))⟩
 refine Qs (Qe (R_G (Qb 1 (Qg (Qe (Qe (R_G (Qb 1 ?_))))))))
 refine QG Qc p0 (es:=(List.map Qc) p0) rfl ?_
 refine Qb 1 (Qg (Qz ?_))
 obtain ⟨v604,hs,hm⟩:=Qf hm
 refine QT ?_
 refine RL_use (Qaq _ _ hs) (prune_of2 [(.box (cellsOf Qc v2))] (fun _=>(pg_cons (purge_box Qc _ _ _) pg_nil)) rfl) ?_
 clear hs
 intro e s hp
 obtain ⟨rfl,d,rfl⟩:=hp
 refine Qe (R_G (Qb 2 (Qg (Qt ?_))))
 obtain ⟨_,hl609,hm⟩:=Qf hm
 replace hl609:=Q3 hl609
 obtain rfl:=Qq hm
 exact ⟨trivial,YB [(.arr 0 0 v2.length v2.length)] (by kernel_rfl) (po_arr (pc_arr Qc v604 hl609 (fun _=>rfl) (by kernel_rfl)))⟩
def Xg (x:(List Int)):Option Q4 :=
 match x with
 | p0 =>
 Jj p0>>=fun (v1:(List Int)) =>
 some (⟨v1,p0⟩:Q4)
def QcQ:(List Int)→Q4→Prop:=fun x r=>match x,r with
 | p0,r0=>∀ H,PC prog env 74 ([(.lst ((List.map Qc) p0))].map .dat) H (.dat (Q4.toD r0)) H
theorem QcM:∀ x r,Xg x=some r→QcQ x r:=by
 intro p0 r0 hm
 unfold Xg at hm
 unfold QcQ
 intro H
 refine PC_sx (ds:=[(.lst ((List.map Qc) p0))]) (fn:=f74) rfl ?_
 refine Qe (R_G (Qb 1 (Qg (Qe (R_G (Qb 1 ?_))))))
 obtain ⟨v1,hx,hm⟩:=Qf hm
 have hq:=Qe6 _ _ hx []
 refine Qr hq ?_
 refine Qb 3 (Qg (Qt ?_))
 obtain rfl:=Qq hm
 exact ⟨trivial,Qk⟩
def Yd (x:((List Int) × (List Int) × Int × Int)):Option (Int) :=
 match x with
 | (p1,p0,v201,v202) =>
 if v202 < (if (p1.length:Int) < (p0.length:Int) then (p1.length:Int) else (p0.length:Int)) then
  idx p0 v202>>=fun v602 =>
  idx p1 v202>>=fun v603 =>
  Yd (p1,p0,(W (v201+(W (v602 * v603)))),(W (v202+1)))
 else
 some v201
 partial_fixpoint
def Qdh:((List Int) × (List Int) × Int × Int)→Int→Prop:=fun x r=>match x with
 | (p1,p0,v201,v202)=>∀ st,prune 0 ((Qw (QD [1,1,0,1,0,0] (QE f103))).bind (env.hint 103).keepAt) st=⟨kp 28 [(0,(.dat (.lst ((List.map Qc) p0)))),(1,(.dat (.lst ((List.map Qc) p1)))),(5,(Qd v201)),(11,(Qd (if (p1.length:Int) < (p0.length:Int) then (p1.length:Int) else (p0.length:Int)))),(12,(Qd v202))],[]⟩ →
  RL prog env (env.hint 103) true (QD [1,1,0,1,0,0] (QE f103)) 0 st (fun e s=>match r with|v601=>e=.exit 0∧∃ d,s=⟨sl d 28 [(5,(Qd v601))],[]⟩)
theorem QbP:∀ x r,Yd x=some r→Qdh x r:=by
 refine Yd.partial_correctness _ (fun Yd QbP x r hm=>?_)
 unfold Qdh
 obtain ⟨p1,p0,v201,v202⟩:=x
 intro st hst
 refine RL_at hst ?_
 clear hst
 refine Qe (R_G (Qb 1 (Qg (Qe ?_))))
 refine Qx hm (rfl) (fun hm=>?_) (fun hm=>?_)
 ·refine Qs (Qe (Qz (Qe (R_G (Qb 2 (Qg ?_))))))
  refine YM ?_
  refine Qb 3 ?_
  refine QF 1 Qc hm rfl (fun _=>rfl) (fun v602 hm=>?_)
  refine Qb 3 ?_
  refine QF 1 Qc hm rfl (fun _=>rfl) (fun v603 hm=>?_)
  refine Qb 4 ?_
  refine Qg ⟨by kernel_rfl,?_⟩
  refine R_G (Qb 2 (Qg ?_))
  exact QbP _ _ hm _ (by kernel_rfl)
 refine QP ?_
 obtain rfl:=Qq hm
 exact ⟨rfl,Qm⟩
def Qcg (x:((List Int) × (List Int))):Option Int :=
 match x with
 | (p0,p1) =>
 Yd (p1,p0,0,0)>>=fun (v601:Int) =>
 some v601
def QeT:((List Int) × (List Int))→Int→Prop:=fun x r=>match x,r with
 | (p0,p1),r0=>∀ H,PC prog env 103 ([(.lst ((List.map Qc) p0)),(.lst ((List.map Qc) p1))].map .dat) H (Qd r0) H
theorem QfS:∀ x r,Qcg x=some r→QeT x r:=by
 intro x r0 hm
 unfold Qcg at hm
 unfold QeT
 obtain ⟨p0,p1⟩:=x
 intro H
 refine PC_sx (ds:=[(.lst ((List.map Qc) p0)),(.lst ((List.map Qc) p1))]) (fn:=f103) rfl ?_
 refine Qe (R_G (Qb 1 (Qg (Qe (R_G (Qb 1 (Qg (Qe (Qe (R_G (Qb 1 ?_)))))))))))
 refine QG Qc p0 (es:=(List.map Qc) p0) rfl ?_
 refine Qb 1 ?_
 refine QG Qc p1 (es:=(List.map Qc) p1) rfl ?_
 refine QL rfl (fun _=>Qgc (k:=.i64) (m:=(p0.length:Int)) (n:=(p1.length:Int)) rfl (by kernel_rfl) (by kernel_rfl)) ?_
 refine Qb 1 (Qg (Qz ?_))
 obtain ⟨v601,hs,hm⟩:=Qf hm
 refine QT ?_
 refine RL_use (QbP _ _ hs) (by kernel_rfl) ?_
 clear hs
 intro e s hp
 obtain ⟨rfl,d,rfl⟩:=hp
 refine Qe (R_G (Qb 2 (Qg (Qt ?_))))
 obtain rfl:=Qq hm
 exact ⟨trivial,Qk⟩
def XO (x:((List Int) × (List Int))):Option Int :=
 match x with
 | (p0,p1) =>
 Qcg (p0,p1)>>=fun (v1:Int) =>
 some v1
def QbF:((List Int) × (List Int))→Int→Prop:=fun x r=>match x,r with
 | (p0,p1),r0=>∀ H,PC prog env 75 ([(.lst ((List.map Qc) p0)),(.lst ((List.map Qc) p1))].map .dat) H (Qd r0) H
theorem QdI:∀ x r,XO x=some r→QbF x r:=by
 intro x r0 hm
 unfold XO at hm
 unfold QbF
 obtain ⟨p0,p1⟩:=x
 intro H
 refine PC_sx (ds:=[(.lst ((List.map Qc) p0)),(.lst ((List.map Qc) p1))]) (fn:=f75) rfl ?_
 refine Qe (R_G (Qb 1 (Qg (Qe (R_G (Qb 2 ?_))))))
 obtain ⟨v1,hx,hm⟩:=Qf hm
 have hq:=QfS _ _ hx []
 refine Qr hq ?_
 refine Qb 1 (Qg (Qt ?_))
 obtain rfl:=Qq hm
 exact ⟨trivial,Qk⟩
def XV (x:((List Int) × (List Int))):Option (Int × Bool) :=
 match x with
 | (p0,p1) =>
 Xe (p0,p1)>>=fun (v1:Bool) =>
 if v1=false then
  some (0,false)
 else
 Xg p0>>=fun (v2:Q4) =>
 XO (v2.strides,p1)>>=fun (v3:Int) =>
 some (v3,true)
def Qdj:((List Int) × (List Int))→(Int × Bool)→Prop:=fun x r=>match x,r with
 | (p0,p1),(r0,r1)=>∀ H,PC prog env 40 ([(.lst ((List.map Qc) p0)),(.lst ((List.map Qc) p1))].map .dat) H (.tup [(Qd r0),(Qp r1)]) H
theorem Qds:∀ x r,XV x=some r→Qdj x r:=by
 intro x r hm
 unfold XV at hm
 unfold Qdj
 obtain ⟨p0,p1⟩:=x
 obtain ⟨r0,r1⟩:=r
 intro H
 refine PC_sx (ds:=[(.lst ((List.map Qc) p0)),(.lst ((List.map Qc) p1))]) (fn:=f40) rfl ?_
 refine Qe (R_G (Qb 2 (Qg (Qe (Qe (R_G (Qb 2 ?_)))))))
 obtain ⟨v1,hx,hm⟩:=Qf hm
 have hq:=Qbh _ _ hx []
 refine Qr hq ?_
 refine Qb 1 (Qg ?_)
 refine Qx hm (ZL _) (fun hm=>?_) (fun hm=>?_)
 ·refine Qe (R_G (Qb 2 (Qg (Qt ?_))))
  obtain ⟨rfl,rfl⟩:=Zn hm
  exact ⟨trivial,Qk⟩
 refine Qs (Qe (R_G (Qb 1 ?_)))
 obtain ⟨v2,hx,hm⟩:=Qf hm
 have hq:=QcM _ _ hx []
 refine Qr hq ?_
 refine Qb 2 ?_
 obtain ⟨v3,hx,hm⟩:=Qf hm
 have hq:=QdI _ _ hx []
 refine Qr hq ?_
 refine Qb 2 (Qg (Qt ?_))
 obtain ⟨rfl,rfl⟩:=Zn hm
 exact ⟨trivial,Qk⟩
def Q2 (x:List Int):Option (List Int):=app 8 [] x
def cgm_slices_Clone_int_int (l:List Int):Nat:=match l with|[]=>0|_=>1
def Zb:List Int→List Int→Prop:=fun x r=>PC prog env 76 [.dat (.lst ((List.map Qc) x))] [] (.ms 0 (cgm_slices_Clone_int_int r) 0 r.length r.length) [.mt 3 (cgm_slices_Clone_int_int r) (cellsOf Qc r)]
theorem Zw:∀ x r,Q2 x=some r→Zb x r:=by
 intro x r hm
 obtain ⟨hroom,hr⟩:=app_some hm
 have hr:r=x:=hr
 subst hr
 unfold Zb
 cases r with
 | nil=>exact PC_of (n:=20) (by kernel_rfl)
 | cons a l =>
  refine PC_sxB (fn:=f76) rfl ?_
  refine Qe (R_G (Qb 1 (Qg (Qe (Qe (R_G (Qb 1 ?_)))))))
  refine QL rfl (fun _=>Qf7 (p:=.dat (.lst ((List.map Qc) (a::l)))) (b:=false) rfl (by kernel_rfl) (by kernel_rfl) (by kernel_rfl)) ?_
  refine Qg ?_
  refine Qf4 (by kernel_rfl) ?_
  refine Qs (Qe (R_G (Qb 2 ?_)))
  refine Z5 (v:=.ms 0 1 0 (a::l).length (a::l).length) (fun H=>H.set 0 (.mt 3 1 (cellsOf Qc (a::l)))) rfl (by kernel_rfl) (fun _ hk=>QfB Qc (l:=[]) (es:=a::l) (bytes:=8) (e:=3) (tt:=0) (g:=0) (m:=0) hm (fun _=>rfl) (by kernel_rfl) (by kernel_rfl) (by kernel_rfl) (by kernel_rfl) rfl rfl (by kernel_rfl) rfl (by kernel_rfl) (source_lst (fun _=>rfl)) hk) ?_
  refine Qb 1 (Qg (Qt ?_))
  exact ⟨trivial,Xm (by kernel_rfl) (by kernel_rfl)⟩
def Je (x:(Int × (List Int) × Int × (List Int) × Int × Int × (List Int) × (List Qi) × (List Int))):Option (Unit) :=
 match x with
 | (q0,q1,q2,q3,q4,q5,q6,q7,q8) =>
 some ()
def Qau:(Int × (List Int) × Int × (List Int) × Int × Int × (List Int) × (List Qi) × (List Int))→Unit→Prop:=fun x r=>match x with
 | (q0,q1,q2,q3,q4,q5,q6,q7,q8)=>PC prog env 148 [(.dat (.agg [(Qc q0),(.lst ((List.map Qc) q1)),(Qc q2),(.lst ((List.map Qc) q3)),(Qc q4),(Qc q5),(.lst ((List.map Qc) q6)),(.lst (Qi.toDs q7))])),(.ms 1 1 0 q8.length q8.length)] [(.box [(Qd q0),(.dat (.lst ((List.map Qc) q1))),(Qd q2),(.dat (.lst ((List.map Qc) q3))),(Qd q4),(Qd q5),(.dat (.lst ((List.map Qc) q6))),(.dat (.lst (Qi.toDs q7)))]),(.mt 3 1 (cellsOf Qc q8))] (match r with|_=>(.tup [(Qd 0),(.dat (.lst ((List.map Qc) []))),(Qp false)])) (match r with|_=>[(.box [(Qd q0),(.dat (.lst ((List.map Qc) q1))),(Qd q2),(.dat (.lst ((List.map Qc) q3))),(Qd q4),(Qd q5),(.dat (.lst ((List.map Qc) q6))),(.dat (.lst (Qi.toDs q7)))]),(.mt 3 1 (cellsOf Qc q8)),(.box [(Qd q0),(.dat (.lst ((List.map Qc) q1))),(Qd q2),(.dat (.lst ((List.map Qc) q3))),(Qd q4),(Qd q5),(.dat (.lst ((List.map Qc) q6))),(.dat (.lst (Qi.toDs q7)))])])
theorem Qeh:∀ x r,Je x=some r→Qau x r:=by
 intro x r hm
 unfold Je at hm
 unfold Qau
 obtain ⟨q0,q1,q2,q3,q4,q5,q6,q7,q8⟩:=x
 refine PC_sxB (fn:=f148) rfl ?_
 refine Qe (R_G (Qb 4 (Qg (Qe (R_G (Qb 3 (Qg (Qt ?_))))))))
 obtain rfl:=Qq hm
 exact ⟨trivial,Xm (by kernel_rfl) (by kernel_rfl)⟩
end Go.Proofs.Tryz
