/-
 Models of functions, their walks, and plain laws.
-/
import Derived.Test.YtdecaohlejlglaaGreatKElabUnboundB
namespace Go.Proofs.Tryz
open Go Go.Pm
set_option linter.unusedVariables false
set_option maxHeartbeats 2000000
set_option maxRecDepth 2000
def ZA (x:((List Int) × Bool × Int)):Option (Unit ⊕ Bool) :=
 match x with
 | (p0,v201,v202) =>
 if v202 < (p0.length:Int) then
  idx p0 v202>>=fun v602 =>
  if v602 < 0 then
   some (Sum.inl ())
  else
  if v201=true then
   ZA (p0,true,(W (v202+1)))
  else
  idx p0 v202>>=fun v603 =>
  ZA (p0,(v603 == 0),(W (v202+1)))
 else
 some (Sum.inr v201)
 partial_fixpoint
def QbZ:((List Int) × Bool × Int)→(Unit ⊕ Bool)→Prop:=fun x r=>match x with
 | (p0,v201,v202)=>∀ st,prune 0 ((Qy (QN [1,1,0,1,0,0] (QP f116))).bind (env.hint 116).keepAt) st=⟨kp 55 [(0,(.dat (.lst ((List.map Qa) p0)))),(4,(Qs v201)),(5,(Qc v202))],[]⟩ →
  RL prog env (env.hint 116) true (QN [1,1,0,1,0,0] (QP f116)) 0 st (fun e s=>match r with|.inl _=>e=.ret∧∃ d,s=⟨sl d 55 [(2,(Qc 0)),(3,(Qc 6))],[]⟩|.inr (v601)=>e=.exit 0∧∃ d,s=⟨sl d 55 [(0,(.dat (.lst ((List.map Qa) p0)))),(4,(Qs v601))],[]⟩)
theorem Xx:∀ x r,ZA x=some r→QbZ x r:=by
 refine ZA.partial_correctness _ (fun ZA Xx x r hm=>?_)
 unfold QbZ
 obtain ⟨p0,v201,v202⟩:=x
 intro st hst
 refine RL_at hst ?_
 clear hst
 refine Qd (Qd (R_G (Qb 2 ?_)))
 refine QO Qa p0 (es:=(List.map Qa) p0) rfl ?_
 refine Qb 1 (Qe ?_)
 refine Qx hm (rfl) (fun hm=>?_) (fun hm=>?_)
 ·refine Qo (Qd (Qw (Qd (Qd (R_G (Qb 2 ?_))))))
  refine Q3 1 Qa hm rfl (fun _=>rfl) (fun v602 hm=>?_)
  refine Qb 2 (Qe ?_)
  refine Qx hm (rfl) (fun hm=>?_) (fun hm=>?_)
  ·refine Qd (R_G (Qb 2 (Qe (Qr ?_))))
   obtain rfl:=Qu hm
   exact ⟨rfl,Qm⟩
  refine Qo (R_G (Qb 2 ?_))
  refine QA 21 hm (QH _) (fun hm=>?_) (fun hm=>?_)
  ·refine Qb 7 (Qe (R_G (Qb 3 (Qe ?_))))
   exact Xx _ _ hm _ (by kernel_rfl)
  refine Qb 2 ?_
  refine Q3 1 Qa hm rfl (fun _=>rfl) (fun v603 hm=>?_)
  refine Qb 4 (Qe (R_G (Qb 3 (Qe ?_))))
  exact Xx _ _ hm _ (by kernel_rfl)
 refine Q8 ?_
 obtain rfl:=Qu hm
 exact ⟨rfl,Qm⟩
def ZN (x:((List Int) × Bool × Int)):Option (Unit ⊕ Unit) :=
 match x with
 | (p0,v601,v804) =>
 if v804 < (p0.length:Int) then
  idx p0 v804>>=fun v1204 =>
  if v1204 > 65536 then
   some (Sum.inl ())
  else
  ZN (p0,v601,(W (v804+1)))
 else
 some (Sum.inr ())
 partial_fixpoint
def Qb0:((List Int) × Bool × Int)→(Unit ⊕ Unit)→Prop:=fun x r=>match x with
 | (p0,v601,v804)=>∀ st,prune 0 ((Qy (QN [1,1,1,0,1,0,0] (QP f116))).bind (env.hint 116).keepAt) st=⟨kp 55 [(0,(.dat (.lst ((List.map Qa) p0)))),(4,(Qs v601)),(6,(Qc v804))],[]⟩ →
  RL prog env (env.hint 116) true (QN [1,1,1,0,1,0,0] (QP f116)) 0 st (fun e s=>match r with|.inl _=>e=.ret∧∃ d,s=⟨sl d 55 [(2,(Qc 0)),(3,(Qc 7))],[]⟩|.inr (_)=>e=.exit 2∧∃ d,s=⟨sl d 55 [(0,(.dat (.lst ((List.map Qa) p0)))),(4,(Qs v601))],[]⟩)
theorem Jw:∀ x r,ZN x=some r→Qb0 x r:=by
 refine ZN.partial_correctness _ (fun ZN Jw x r hm=>?_)
 unfold Qb0
 obtain ⟨p0,v601,v804⟩:=x
 intro st hst
 refine RL_at hst ?_
 clear hst
 refine Qd (Qd (R_G (Qb 2 ?_)))
 refine QO Qa p0 (es:=(List.map Qa) p0) rfl ?_
 refine Qb 1 (Qe ?_)
 refine Qx hm (rfl) (fun hm=>?_) (fun hm=>?_)
 ·refine Qo (Qd (Qw (Qd (R_G (Qb 2 ?_)))))
  refine Q3 1 Qa hm rfl (fun _=>rfl) (fun v1204 hm=>?_)
  refine Qb 2 (Qe ?_)
  refine Qx hm (rfl) (fun hm=>?_) (fun hm=>?_)
  ·refine Qd (R_G (Qb 2 (Qe (Qr ?_))))
   obtain rfl:=Qu hm
   exact ⟨rfl,Qm⟩
  refine Qo (R_G (Qb 3 (Qe ?_)))
  exact Jw _ _ hm _ (by kernel_rfl)
 refine Q8 ?_
 obtain rfl:=Qu hm
 exact ⟨rfl,Qm⟩
def ZO (x:((List Int) × Int × Int)):Option (Unit ⊕ Int) :=
 match x with
 | (p0,v1405,v1406) =>
 if v1406 < (p0.length:Int) then
  idx p0 v1406>>=fun v1806 =>
  if (W (v1405 * v1806)) > 65536 then
   some (Sum.inl ())
  else
  ZO (p0,(W (v1405 * v1806)),(W (v1406+1)))
 else
 some (Sum.inr v1405)
 partial_fixpoint
def Qb1:((List Int) × Int × Int)→(Unit ⊕ Int)→Prop:=fun x r=>match x with
 | (p0,v1405,v1406)=>∀ st,prune 0 ((Qy (QN [1,1,1,1,1,1,0,1,0,0] (QP f116))).bind (env.hint 116).keepAt) st=⟨kp 55 [(0,(.dat (.lst ((List.map Qa) p0)))),(7,(Qc v1405)),(8,(Qc v1406))],[]⟩ →
  RL prog env (env.hint 116) true (QN [1,1,1,1,1,1,0,1,0,0] (QP f116)) 0 st (fun e s=>match r with|.inl _=>e=.ret∧∃ d,s=⟨sl d 55 [(2,(Qc 0)),(3,(Qc 7))],[]⟩|.inr (v1805)=>e=.exit 4∧∃ d,s=⟨sl d 55 [(7,(Qc v1805))],[]⟩)
theorem Jx:∀ x r,ZO x=some r→Qb1 x r:=by
 refine ZO.partial_correctness _ (fun ZO Jx x r hm=>?_)
 unfold Qb1
 obtain ⟨p0,v1405,v1406⟩:=x
 intro st hst
 refine RL_at hst ?_
 clear hst
 refine Qd (Qd (R_G (Qb 2 ?_)))
 refine QO Qa p0 (es:=(List.map Qa) p0) rfl ?_
 refine Qb 1 (Qe ?_)
 refine Qx hm (rfl) (fun hm=>?_) (fun hm=>?_)
 ·refine Qo (Qd (Qw (Qd (R_G (Qb 3 ?_)))))
  refine Q3 1 Qa hm rfl (fun _=>rfl) (fun v1806 hm=>?_)
  refine Qb 3 (Qe (Qd (R_G (Qb 2 (Qe ?_)))))
  refine Qx hm (rfl) (fun hm=>?_) (fun hm=>?_)
  ·refine Qd (R_G (Qb 2 (Qe (Qr ?_))))
   obtain rfl:=Qu hm
   exact ⟨rfl,Qm⟩
  refine Qo (R_G (Qb 3 (Qe ?_)))
  exact Jx _ _ hm _ (by kernel_rfl)
 refine Q8 ?_
 obtain rfl:=Qu hm
 exact ⟨rfl,Qm⟩
def XG (x:(List Int)):Option (Int × Int) :=
 match x with
 | p0 =>
 (
 ZA (p0,false,0)>>=fun (out:Unit ⊕ Bool) =>
 match out with
 | .inl _ =>
  some (0,6)
 | .inr (v601) =>
  (
  ZN (p0,v601,0)>>=fun (out:Unit ⊕ Unit) =>
  match out with
  | .inl _ =>
   some (0,7)
  | .inr (_) =>
   if v601=true then
    some (0,0)
   else
   (
   ZO (p0,1,0)>>=fun (out:Unit ⊕ Int) =>
   match out with
   | .inl _ =>
    some (0,7)
   | .inr (v1805) =>
    some (v1805,0)
   )
  )
 )
def Qc8:(List Int)→(Int × Int)→Prop:=fun x r=>match x,r with
 | p0,(r0,r1)=>∀ H,PC prog env 116 ([(.lst ((List.map Qa) p0))].map .dat) H (.tup [(Qc r0),(Qc r1)]) H
theorem Qdj:∀ x r,XG x=some r→Qc8 x r:=by
 intro p0 r hm
 unfold XG at hm
 unfold Qc8
 obtain ⟨r0,r1⟩:=r
 intro H
 refine PC_sx (ds:=[(.lst ((List.map Qa) p0))]) (fn:=f116) rfl ?_
 refine Qd (R_G (Qb 2 (Qe (Qd (R_G (Qb 1 (Qe (Qd (Qd (R_G (Qb 1 ?_)))))))))))
 refine Qe (Qw ?_)
 obtain ⟨out,hs,hm⟩:=Qg hm
 refine Ze ?_
 rcases out with _|v601
 ·refine RL_use (Xx _ _ hs) (by kernel_rfl) ?_
  clear hs
  intro e s hp
  obtain ⟨rfl,d,rfl⟩:=hp
  obtain ⟨rfl,rfl⟩:=QU hm
  exact ⟨trivial,Qk⟩
 ·refine RL_use (Xx _ _ hs) (by kernel_rfl) ?_
  clear hs
  intro e s hp
  obtain ⟨rfl,d,rfl⟩:=hp
  refine Qd (Qd (R_G (Qb 1 (Qe (Qw ?_)))))
  obtain ⟨out,hs,hm⟩:=Qg hm
  refine Ze ?_
  rcases out with _|_
  ·refine RL_use (Jw _ _ hs) (by kernel_rfl) ?_
   clear hs
   intro e s hp
   obtain ⟨rfl,d,rfl⟩:=hp
   obtain ⟨rfl,rfl⟩:=QU hm
   exact ⟨trivial,Qk⟩
  ·refine RL_use (Jw _ _ hs) (by kernel_rfl) ?_
   clear hs
   intro e s hp
   obtain ⟨rfl,d,rfl⟩:=hp
   refine Qd (Qd (R_G (Qb 1 (Qe ?_))))
   refine Qx hm (QH _) (fun hm=>?_) (fun hm=>?_)
   ·refine Qd (R_G (Qb 2 (Qe (Qr ?_))))
    obtain ⟨rfl,rfl⟩:=QU hm
    exact ⟨trivial,Qk⟩
   refine Qo (Qd (R_G (Qb 1 (Qe (Qd (Qd (R_G (Qb 1 (Qe (Qw ?_))))))))))
   obtain ⟨out,hs,hm⟩:=Qg hm
   refine Ze ?_
   rcases out with _|v1805
   ·refine RL_use (Jx _ _ hs) (by kernel_rfl) ?_
    clear hs
    intro e s hp
    obtain ⟨rfl,d,rfl⟩:=hp
    obtain ⟨rfl,rfl⟩:=QU hm
    exact ⟨trivial,Qk⟩
   ·refine RL_use (Jx _ _ hs) (by kernel_rfl) ?_
    clear hs
    intro e s hp
    obtain ⟨rfl,d,rfl⟩:=hp
    refine Qd (R_G (Qb 3 (Qe (Qr ?_))))
    obtain ⟨rfl,rfl⟩:=QU hm
    exact ⟨trivial,Qk⟩
def Yh (x:((List Int) × Int)):Option (Unit ⊕ Unit) :=
 match x with
 | (p0,v201) =>
 if v201 < (p0.length:Int) then
  idx p0 v201>>=fun v601 =>
  if v601 < 0 then
   some (Sum.inl ())
  else
  Yh (p0,(W (v201+1)))
 else
 some (Sum.inr ())
 partial_fixpoint
def QcI:((List Int) × Int)→(Unit ⊕ Unit)→Prop:=fun x r=>match x with
 | (p0,v201)=>∀ st,prune 0 ((Qy (QN [1,0,1,0,0] (QP f80))).bind (env.hint 80).keepAt) st=⟨kp 29 [(0,(.dat (.lst ((List.map Qa) p0)))),(3,(Qc v201))],[]⟩ →
  RL prog env (env.hint 80) true (QN [1,0,1,0,0] (QP f80)) 0 st (fun e s=>match r with|.inl _=>e=.ret∧∃ d,s=⟨sl d 29 [(2,(Qc 6))],[]⟩|.inr (_)=>e=.exit 0∧∃ d,s=⟨sl d 29 [(0,(.dat (.lst ((List.map Qa) p0))))],[]⟩)
theorem Qaz:∀ x r,Yh x=some r→QcI x r:=by
 refine Yh.partial_correctness _ (fun Yh Qaz x r hm=>?_)
 unfold QcI
 obtain ⟨p0,v201⟩:=x
 intro st hst
 refine RL_at hst ?_
 clear hst
 refine Qd (Qd (R_G (Qb 2 ?_)))
 refine QO Qa p0 (es:=(List.map Qa) p0) rfl ?_
 refine Qb 1 (Qe ?_)
 refine Qx hm (rfl) (fun hm=>?_) (fun hm=>?_)
 ·refine Qo (Qd (Qw (Qd (R_G (Qb 2 ?_)))))
  refine Q3 1 Qa hm rfl (fun _=>rfl) (fun v601 hm=>?_)
  refine Qb 2 (Qe ?_)
  refine Qx hm (rfl) (fun hm=>?_) (fun hm=>?_)
  ·refine Qd (R_G (Qb 1 (Qe (Qr ?_))))
   obtain rfl:=Qu hm
   exact ⟨rfl,Qm⟩
  refine Qo (R_G (Qb 3 (Qe ?_)))
  exact Qaz _ _ hm _ (by kernel_rfl)
 refine Q8 ?_
 obtain rfl:=Qu hm
 exact ⟨rfl,Qm⟩
def YN (x:(List Int)):Option Int :=
 match x with
 | p0 =>
 (
 Yh (p0,0)>>=fun (out:Unit ⊕ Unit) =>
 match out with
 | .inl _ =>
  some 6
 | .inr (_) =>
  XG p0>>=fun ((v602,v603):(Int × Int)) =>
  (if (p0.length:Int) > 16 then
   some true
  else
  some (v603 != 0)
  )>>=fun (v604:Bool) =>
  if v604=true then
   some 7
  else
  some 0
 )
def Qd8:(List Int)→Int→Prop:=fun x r=>match x,r with
 | p0,r0=>∀ H,PC prog env 80 ([(.lst ((List.map Qa) p0))].map .dat) H (Qc r0) H
theorem Qbx:∀ x r,YN x=some r→Qd8 x r:=by
 intro p0 r0 hm
 unfold YN at hm
 unfold Qd8
 intro H
 refine PC_sx (ds:=[(.lst ((List.map Qa) p0))]) (fn:=f80) rfl ?_
 refine Qd (R_G (Qb 1 (Qe (Qd (Qd (R_G (Qb 1 (Qe (Qw ?_)))))))))
 obtain ⟨out,hs,hm⟩:=Qg hm
 refine Ze ?_
 rcases out with _|_
 ·refine RL_use (Qaz _ _ hs) (by kernel_rfl) ?_
  clear hs
  intro e s hp
  obtain ⟨rfl,d,rfl⟩:=hp
  obtain rfl:=Qu hm
  exact ⟨trivial,Qk⟩
 ·refine RL_use (Qaz _ _ hs) (by kernel_rfl) ?_
  clear hs
  intro e s hp
  obtain ⟨rfl,d,rfl⟩:=hp
  refine Qd (R_G (Qb 1 ?_))
  obtain ⟨⟨v602,v603⟩,hx,hm⟩:=Qg hm
  have hq:=Qdj _ _ hx []
  refine Qp hq ?_
  refine Qb 5 (Qe (Qd (Qd ?_)))
  obtain ⟨v604,hs,hm⟩:=Qg hm
  refine Zy (fun d=>⟨sl d 29 [(28,(Qs v604))],[]⟩) ?_ (fun d=>?_)
  ·replace hm:=hs
   clear hs
   refine R_G (Qb 1 ?_)
   refine QO Qa p0 (es:=(List.map Qa) p0) rfl ?_
   refine Qb 2 ?_
   refine QA 25 hm (rfl) (fun hm=>?_) (fun hm=>?_)
   ·refine Qb 3 (Qe ?_)
    obtain rfl:=Qu hm
    exact Qm
   refine Qb 3 (Qe ?_)
   obtain rfl:=Qu hm
   exact Qm
  clear hs
  refine Qx hm (QH _) (fun hm=>?_) (fun hm=>?_)
  ·refine Qd (R_G (Qb 1 (Qe (Qr ?_))))
   obtain rfl:=Qu hm
   exact ⟨trivial,Qk⟩
  refine Qo (Qd (R_G (Qb 1 (Qe (Qr ?_)))))
  obtain rfl:=Qu hm
  exact ⟨trivial,Qk⟩
def Ys (x:((List Int) × (List Int) × (List Int) × (List Int) × Int)):Option (((List Int) × (List Int)) ⊕ ((List Int) × (List Int))) :=
 match x with
 | (p0,v2,v203,v204,v205) =>
 if v205 < (p0.length:Int) then
  idx p0 v205>>=fun v607 =>
  XJ v607>>=fun ((v608,v609):(Int × Int)) =>
  if v609≠0 then
   some (Sum.inl (v203,v204))
  else
  app 8 v203 ([v608]:List Int)>>=fun v610 =>
  idx p0 v205>>=fun v611 =>
  (if v611 < 0 then
   idx v2 v205>>=fun v613 =>
   some (W (v613 - v608))
  else
  some 0
  )>>=fun (v612:Int) =>
  app 8 v204 ([v612]:List Int)>>=fun v614 =>
  Ys (p0,v2,v610,v614,(W (v205+1)))
 else
 some (Sum.inr (v203,v204))
 partial_fixpoint
def Qdd:((List Int) × (List Int) × (List Int) × (List Int) × Int)→(((List Int) × (List Int)) ⊕ ((List Int) × (List Int)))→Prop:=fun x r=>match x with
 | (p0,v2,v203,v204,v205)=>∀ st,prune 6 ((Qy (QN [1,1,1,1,0,1,0,0] (QP f69))).bind (env.hint 69).keepAt) st=⟨kp 79 [(0,(.dat (.lst ((List.map Qa) p0)))),(4,(.ptr 0 0)),(6,(.ptr 3 0)),(7,(Qc v205))],[(.box [(.dat (.lst ((List.map Qa) []))),(.dat (.lst ((List.map Qa) []))),(.dat (.lst ((List.map Qa) []))),(.dat (.lst ((List.map Qa) []))),(Qc 0),(Qc 0),(.dat (.lst ((List.map Qa) [])))]),(.tok 3 v203.length),(.tok 3 v204.length),(.box [(.dat (.lst ((List.map Qa) []))),(.dat (.lst ((List.map Qa) v2))),(.vec 1 ((List.map Qa) v203)),(.vec 2 ((List.map Qa) v204)),(Qc (-1)),(Qc 0),(.dat (.lst ((List.map Qa) [])))]),(.tok 3 (([]:List Int).length)),(.tok 3 (([]:List Int).length))]⟩ →
  RL prog env (env.hint 69) true (QN [1,1,1,1,0,1,0,0] (QP f69)) 6 st (fun e s=>match r with|.inl (v603,v604)=>e=.ret∧∃ d,s=⟨sl d 79 [(4,(.ptr 0 0)),(5,(Qc 7))],[(.box [(.dat (.lst ((List.map Qa) []))),(.dat (.lst ((List.map Qa) []))),(.dat (.lst ((List.map Qa) []))),(.dat (.lst ((List.map Qa) []))),(Qc 0),(Qc 0),(.dat (.lst ((List.map Qa) [])))]),(.tok 3 v603.length),(.tok 3 v604.length),(.box [(.dat (.lst ((List.map Qa) []))),(.dat (.lst ((List.map Qa) v2))),(.vec 1 ((List.map Qa) v603)),(.vec 2 ((List.map Qa) v604)),(Qc (-1)),(Qc 0),(.dat (.lst ((List.map Qa) [])))]),(.tok 3 (([]:List Int).length)),(.tok 3 (([]:List Int).length))]⟩|.inr ((v605,v606))=>e=.exit 0∧∃ d,s=⟨sl d 79 [(4,(.ptr 0 0)),(6,(.ptr 3 0))],[(.box [(.dat (.lst ((List.map Qa) []))),(.dat (.lst ((List.map Qa) []))),(.dat (.lst ((List.map Qa) []))),(.dat (.lst ((List.map Qa) []))),(Qc 0),(Qc 0),(.dat (.lst ((List.map Qa) [])))]),(.tok 3 v605.length),(.tok 3 v606.length),(.box [(.dat (.lst ((List.map Qa) []))),(.dat (.lst ((List.map Qa) v2))),(.vec 1 ((List.map Qa) v605)),(.vec 2 ((List.map Qa) v606)),(Qc (-1)),(Qc 0),(.dat (.lst ((List.map Qa) [])))]),(.tok 3 (([]:List Int).length)),(.tok 3 (([]:List Int).length))]⟩)
theorem QaW:∀ x r,Ys x=some r→Qdd x r:=by
 refine Ys.partial_correctness _ (fun Ys QaW x r hm=>?_)
 unfold Qdd
 obtain ⟨p0,v2,v203,v204,v205⟩:=x
 intro st hst
 refine RL_at hst ?_
 clear hst
 refine Qd (Qd (R_G (Qb 2 ?_)))
 refine QO Qa p0 (es:=(List.map Qa) p0) rfl ?_
 refine Qb 1 (Qe ?_)
 refine Qx hm (rfl) (fun hm=>?_) (fun hm=>?_)
 ·refine Qo (Qd (Qw (Qd (R_G (Qb 2 ?_)))))
  refine Q3 1 Qa hm rfl (fun _=>rfl) (fun v607 hm=>?_)
  refine Qb 1 ?_
  obtain ⟨⟨v608,v609⟩,hx,hm⟩:=Qg hm
  have hq:=QeR _ _ hx []
  refine Qp hq ?_
  refine Qb 5 (Qe (Qd (Qd (R_G (Qb 2 (Qe ?_))))))
  refine Qx hm (ne_dec _ _) (fun hm=>?_) (fun hm=>?_)
  ·refine Qd (R_G (Qb 3 (Qe (Qr ?_))))
   obtain rfl:=Qu hm
   exact ⟨rfl,Qm⟩
  refine Qo (Qd (R_G (Qb 4 ?_)))
  obtain ⟨v610,hx,hm⟩:=Qg hm
  refine X8 3 1 8 1 Qa v203 ([v608]:List Int) v610 (xs:=(List.map Qa) v203) (es:=(List.map Qa) ([v608]:List Int)) (L:=(List.map Qa)) (fun _=>rfl) rfl rfl (fun _=>rfl) hx ?_
  refine Qb 2 (Qe (Qd (R_G (Qb 1 (Qe (Qd (Qd (R_G (Qb 2 ?_)))))))))
  refine Q3 1 Qa hm rfl (fun _=>rfl) (fun v611 hm=>?_)
  refine Qb 2 (Qe ?_)
  obtain ⟨v612,hs,hm⟩:=Qg hm
  refine Zy (fun d=>⟨sl d 79 [(0,(.dat (.lst ((List.map Qa) p0)))),(4,(.ptr 0 0)),(6,(.ptr 3 0)),(7,(Qc v205)),(10,(Qc v612))],[(.box [(.dat (.lst ((List.map Qa) []))),(.dat (.lst ((List.map Qa) []))),(.dat (.lst ((List.map Qa) []))),(.dat (.lst ((List.map Qa) []))),(Qc 0),(Qc 0),(.dat (.lst ((List.map Qa) [])))]),(.tok 3 v610.length),(.tok 3 v204.length),(.box [(.dat (.lst ((List.map Qa) []))),(.dat (.lst ((List.map Qa) v2))),(.vec 1 ((List.map Qa) v610)),(.vec 2 ((List.map Qa) v204)),(Qc (-1)),(Qc 0),(.dat (.lst ((List.map Qa) [])))]),(.tok 3 (([]:List Int).length)),(.tok 3 (([]:List Int).length))]⟩) ?_ (fun d=>?_)
  ·replace hm:=hs
   clear hs
   refine Qx hm (rfl) (fun hm=>?_) (fun hm=>?_)
   ·refine R_G (Qb 3 ?_)
    refine Q3 1 Qa hm rfl (fun _=>rfl) (fun v613 hm=>?_)
    refine Qb 4 (Qe ?_)
    obtain rfl:=Qu hm
    exact Qm
   refine Qo ?_
   obtain rfl:=Qu hm
   exact Qm
  clear hs
  refine R_G (Qb 4 ?_)
  obtain ⟨v614,hx,hm⟩:=Qg hm
  refine X8 3 1 8 2 Qa v204 ([v612]:List Int) v614 (xs:=(List.map Qa) v204) (es:=(List.map Qa) ([v612]:List Int)) (L:=(List.map Qa)) (fun _=>rfl) rfl rfl (fun _=>rfl) hx ?_
  refine Qb 2 (Qe (R_G (Qb 3 (Qe ?_))))
  exact QaW _ _ hm _ (by kernel_rfl)
 refine Q8 ?_
 obtain rfl:=Qu hm
 exact ⟨rfl,Qm⟩
def Qas (x:((List Int) × (List Int))):Option (Qt × Int) :=
 match x with
 | (p0,p1) =>
 (if (p1.length:Int)=0 then
  some (decide ((p0.length:Int) > 16))
 else
 some false
 )>>=fun (v1:Bool) =>
 if v1=true then
  some ((⟨([]:(List Int)),([]:(List Int)),([]:(List Int)),([]:(List Int)),0,0,([]:(List Int))⟩:Qt),7)
 else
 Qat (p1,(p0.length:Int))>>=fun (v2:(List Int)) =>
 if (p0.length:Int)≠(v2.length:Int) then
  some ((⟨([]:(List Int)),([]:(List Int)),([]:(List Int)),([]:(List Int)),0,0,([]:(List Int))⟩:Qt),5)
 else
 (
 Ys (p0,v2,([]:List Int),([]:List Int),0)>>=fun (out:((List Int) × (List Int)) ⊕ ((List Int) × (List Int))) =>
 match out with
 | .inl (v603,v604) =>
  some ((⟨([]:(List Int)),([]:(List Int)),([]:(List Int)),([]:(List Int)),0,0,([]:(List Int))⟩:Qt),7)
 | .inr ((v605,v606)) =>
  YN v605>>=fun (v615:Int) =>
  if v615≠0 then
   some ((⟨([]:(List Int)),([]:(List Int)),([]:(List Int)),([]:(List Int)),0,0,([]:(List Int))⟩:Qt),7)
  else
  some ((⟨([]:(List Int)),v2,v605,v606,(-1),0,([]:(List Int))⟩:Qt),0)
 )
def QeG:((List Int) × (List Int))→(Qt × Int)→Prop:=fun x r=>match x,r with
 | (p0,p1),(r0,r1)=>∀ H,PC prog env 69 ([(.lst ((List.map Qa) p0)),(.lst ((List.map Qa) p1))].map .dat) H (.tup [(.dat (Qt.toD r0)),(Qc r1)]) H
theorem QeU:∀ x r,Qas x=some r→QeG x r:=by
 intro x r hm
 unfold Qas at hm
 unfold QeG
 obtain ⟨p0,p1⟩:=x
 obtain ⟨r0,r1⟩:=r
 intro H
 refine PC_sx (ds:=[(.lst ((List.map Qa) p0)),(.lst ((List.map Qa) p1))]) (fn:=f69) rfl ?_
 refine Qd (R_G (Qb 2 (Qe (Qd (Qd ?_)))))
 obtain ⟨v1,hs,hm⟩:=Qg hm
 refine Zy (fun d=>⟨sl d 79 [(0,(.dat (.lst ((List.map Qa) p0)))),(1,(.dat (.lst ((List.map Qa) p1)))),(4,(.ptr 0 0)),(18,(Qs v1))],[(.box [(.dat (.lst ((List.map Qa) []))),(.dat (.lst ((List.map Qa) []))),(.dat (.lst ((List.map Qa) []))),(.dat (.lst ((List.map Qa) []))),(Qc 0),(Qc 0),(.dat (.lst ((List.map Qa) [])))])]⟩) ?_ (fun d=>?_)
 ·replace hm:=hs
  clear hs
  refine R_G (Qb 1 ?_)
  refine QO Qa p1 (es:=(List.map Qa) p1) rfl ?_
  refine Qb 2 ?_
  refine QA 14 hm (Q1 _ _) (fun hm=>?_) (fun hm=>?_)
  ·refine Qb 1 ?_
   refine QO Qa p0 (es:=(List.map Qa) p0) rfl ?_
   refine Qb 2 (Qe ?_)
   obtain rfl:=Qu hm
   exact Qm
  refine Qb 4 (Qe ?_)
  obtain rfl:=Qu hm
  exact Qm
 clear hs
 refine Qx hm (QH _) (fun hm=>?_) (fun hm=>?_)
 ·refine Qd (R_G (Qb 3 (Qe (Qr ?_))))
  obtain ⟨rfl,rfl⟩:=QU hm
  exact ⟨trivial,Qk⟩
 refine Qo (Qd (R_G (Qb 2 ?_)))
 refine QO Qa p0 (es:=(List.map Qa) p0) rfl ?_
 obtain ⟨v2,hx,hm⟩:=Qg hm
 have hq:=QeV _ _ hx []
 refine Qp hq ?_
 refine Qb 3 (Qe (Qd (Qd (R_G (Qb 1 ?_)))))
 refine QO Qa p0 (es:=(List.map Qa) p0) rfl ?_
 refine Qb 2 ?_
 refine QO Qa v2 (es:=(List.map Qa) v2) rfl ?_
 refine Qb 1 (Qe ?_)
 refine Qx hm (ne_dec _ _) (fun hm=>?_) (fun hm=>?_)
 ·refine Qd (R_G (Qb 3 (Qe (Qr ?_))))
  obtain ⟨rfl,rfl⟩:=QU hm
  exact ⟨trivial,Qk⟩
 refine Qo (Qd (Qd (R_G (Qb 1 (Qe (Qw ?_))))))
 obtain ⟨out,hs,hm⟩:=Qg hm
 refine Ze ?_
 rcases out with ⟨v603,v604⟩|⟨v605,v606⟩
 ·refine RL_use (QaW _ _ hs) (by kernel_rfl) ?_
  clear hs
  intro e s hp
  obtain ⟨rfl,d,rfl⟩:=hp
  obtain ⟨rfl,rfl⟩:=QU hm
  exact ⟨trivial,Qk⟩
 ·refine RL_use (QaW _ _ hs) (by kernel_rfl) ?_
  clear hs
  intro e s hp
  obtain ⟨rfl,d,rfl⟩:=hp
  refine Qd (Qd (R_G (Qb 2 ?_)))
  obtain ⟨v615,hx,hm⟩:=Qg hm
  have hq:=Qbx _ _ hx []
  refine Qp hq ?_
  refine Qb 1 (Qe ?_)
  refine Qx hm (ne_dec _ _) (fun hm=>?_) (fun hm=>?_)
  ·refine Qd (R_G (Qb 3 (Qe (Qr ?_))))
   obtain ⟨rfl,rfl⟩:=QU hm
   exact ⟨trivial,Qk⟩
  refine Qo (Qd (R_G (Qb 3 (Qe (Qr ?_)))))
  obtain ⟨rfl,rfl⟩:=QU hm
  exact ⟨trivial,Qk⟩
def ZQ (x:((List Int) × (List Int) × (List Int) × (List Int) × Int)):Option (((List Int) × (List Int))) :=
 match x with
 | (v2,p0,v203,v204,v205) =>
 if v205 < (v2.length:Int) then
  idx v2 v205>>=fun v605 =>
  (if v205 < (p0.length:Int) then
   idx p0 v205>>=fun v607 =>
   some (decide (v607 > 0))
  else
  some false
  )>>=fun (v606:Bool) =>
  if v606=true then
   idx p0 v205>>=fun v608 =>
   app 8 v203 ([(W (v605 - (if v605 < v608 then v605 else v608)))]:List Int)>>=fun v609 =>
   app 8 v204 ([(if v605 < v608 then v605 else v608)]:List Int)>>=fun v610 =>
   ZQ (v2,p0,v609,v610,(W (v205+1)))
  else
  (if v205 < (p0.length:Int) then
   idx p0 v205>>=fun v612 =>
   some (if v612 < (W (0 - v605)) then (W (0 - v605)) else v612)
  else
  some 0
  )>>=fun (v611:Int) =>
  app 8 v203 ([(W (v605+v611))]:List Int)>>=fun v613 =>
  app 8 v204 ([0]:List Int)>>=fun v614 =>
  ZQ (v2,p0,v613,v614,(W (v205+1)))
 else
 some (v203,v204)
 partial_fixpoint
def Qc9:((List Int) × (List Int) × (List Int) × (List Int) × Int)→((List Int) × (List Int))→Prop:=fun x r=>match x with
 | (v2,p0,v203,v204,v205)=>∀ st,prune 6 ((Qy (QN [1,1,1,1,0,1,0,0] (QP f70))).bind (env.hint 70).keepAt) st=⟨kp 99 [(0,(.dat (.lst ((List.map Qa) p0)))),(4,(.ptr 0 0)),(6,(.ptr 3 0)),(7,(Qc v205))],[(.box [(.dat (.lst ((List.map Qa) []))),(.dat (.lst ((List.map Qa) []))),(.dat (.lst ((List.map Qa) []))),(.dat (.lst ((List.map Qa) []))),(Qc 0),(Qc 0),(.dat (.lst ((List.map Qa) [])))]),(.tok 3 v203.length),(.tok 3 v204.length),(.box [(.dat (.lst ((List.map Qa) []))),(.dat (.lst ((List.map Qa) v2))),(.vec 1 ((List.map Qa) v203)),(.vec 2 ((List.map Qa) v204)),(Qc (-1)),(Qc 0),(.dat (.lst ((List.map Qa) [])))]),(.tok 3 (([]:List Int).length)),(.tok 3 (([]:List Int).length))]⟩ →
  RL prog env (env.hint 70) true (QN [1,1,1,1,0,1,0,0] (QP f70)) 6 st (fun e s=>match r with|(v603,v604)=>e=.exit 0∧∃ d,s=⟨sl d 99 [(4,(.ptr 0 0)),(6,(.ptr 3 0))],[(.box [(.dat (.lst ((List.map Qa) []))),(.dat (.lst ((List.map Qa) []))),(.dat (.lst ((List.map Qa) []))),(.dat (.lst ((List.map Qa) []))),(Qc 0),(Qc 0),(.dat (.lst ((List.map Qa) [])))]),(.tok 3 v603.length),(.tok 3 v604.length),(.box [(.dat (.lst ((List.map Qa) []))),(.dat (.lst ((List.map Qa) v2))),(.vec 1 ((List.map Qa) v603)),(.vec 2 ((List.map Qa) v604)),(Qc (-1)),(Qc 0),(.dat (.lst ((List.map Qa) [])))]),(.tok 3 (([]:List Int).length)),(.tok 3 (([]:List Int).length))]⟩)
theorem QaV:∀ x r,ZQ x=some r→Qc9 x r:=by
 refine ZQ.partial_correctness _ (fun ZQ QaV x r hm=>?_)
 unfold Qc9
 obtain ⟨v2,p0,v203,v204,v205⟩:=x
 intro st hst
 refine RL_at hst ?_
 clear hst
 refine Qd (Qd (R_G (Qb 3 ?_)))
 refine QO Qa v2 (es:=(List.map Qa) v2) rfl ?_
 refine Qb 1 (Qe ?_)
 refine Qx hm (rfl) (fun hm=>?_) (fun hm=>?_)
 ·refine Qo (Qd (Qw (Qd (R_G (Qb 3 ?_)))))
  refine Q3 1 Qa hm rfl (fun _=>rfl) (fun v605 hm=>?_)
  refine Qb 2 (Qe (Qd (R_G (Qb 1 (Qe (Qd (Qd ?_)))))))
  obtain ⟨v606,hs,hm⟩:=Qg hm
  refine Zy (fun d=>⟨sl d 99 [(0,(.dat (.lst ((List.map Qa) p0)))),(4,(.ptr 0 0)),(6,(.ptr 3 0)),(7,(Qc v205)),(8,(Qc v605)),(9,(Qc 0)),(53,(Qs v606))],[(.box [(.dat (.lst ((List.map Qa) []))),(.dat (.lst ((List.map Qa) []))),(.dat (.lst ((List.map Qa) []))),(.dat (.lst ((List.map Qa) []))),(Qc 0),(Qc 0),(.dat (.lst ((List.map Qa) [])))]),(.tok 3 v203.length),(.tok 3 v204.length),(.box [(.dat (.lst ((List.map Qa) []))),(.dat (.lst ((List.map Qa) v2))),(.vec 1 ((List.map Qa) v203)),(.vec 2 ((List.map Qa) v204)),(Qc (-1)),(Qc 0),(.dat (.lst ((List.map Qa) [])))]),(.tok 3 (([]:List Int).length)),(.tok 3 (([]:List Int).length))]⟩) ?_ (fun d=>?_)
  ·replace hm:=hs
   clear hs
   refine R_G (Qb 2 ?_)
   refine QO Qa p0 (es:=(List.map Qa) p0) rfl ?_
   refine Qb 2 ?_
   refine QA 47 hm (rfl) (fun hm=>?_) (fun hm=>?_)
   ·refine Qb 2 ?_
    refine Q3 1 Qa hm rfl (fun _=>rfl) (fun v607 hm=>?_)
    refine Qb 3 (Qe ?_)
    obtain rfl:=Qu hm
    exact Qm
   refine Qb 6 (Qe ?_)
   obtain rfl:=Qu hm
   exact Qm
  clear hs
  refine Qx hm (QH _) (fun hm=>?_) (fun hm=>?_)
  ·refine Qd (R_G (Qb 2 ?_))
   refine Q3 1 Qa hm rfl (fun _=>rfl) (fun v608 hm=>?_)
   refine Qb 2 ?_
   refine ZD rfl (fun _=>QgD (k:=.i64) (m:=v608) (n:=v605) rfl (by kernel_rfl) (by kernel_rfl)) ?_
   refine Qb 1 (Qe (Qd (R_G (Qb 6 ?_))))
   obtain ⟨v609,hx,hm⟩:=Qg hm
   refine X8 3 1 8 1 Qa v203 ([(W (v605 - (if v605 < v608 then v605 else v608)))]:List Int) v609 (xs:=(List.map Qa) v203) (es:=(List.map Qa) ([(W (v605 - (if v605 < v608 then v605 else v608)))]:List Int)) (L:=(List.map Qa)) (fun _=>rfl) rfl rfl (fun _=>rfl) hx ?_
   refine Qb 2 (Qe (Qd (R_G (Qb 4 ?_))))
   obtain ⟨v610,hx,hm⟩:=Qg hm
   refine X8 3 1 8 2 Qa v204 ([(if v605 < v608 then v605 else v608)]:List Int) v610 (xs:=(List.map Qa) v204) (es:=(List.map Qa) ([(if v605 < v608 then v605 else v608)]:List Int)) (L:=(List.map Qa)) (fun _=>rfl) rfl rfl (fun _=>rfl) hx ?_
   refine Qb 2 (Qe (Q8 (R_G (Qb 3 (Qe ?_)))))
   exact QaV _ _ hm _ (by kernel_rfl)
  refine Qo (Qd (Qd (R_G (Qb 2 ?_))))
  refine QO Qa p0 (es:=(List.map Qa) p0) rfl ?_
  refine Qb 1 (Qe ?_)
  obtain ⟨v611,hs,hm⟩:=Qg hm
  refine Zy (fun d=>⟨sl d 99 [(0,(.dat (.lst ((List.map Qa) p0)))),(4,(.ptr 0 0)),(6,(.ptr 3 0)),(7,(Qc v205)),(8,(Qc v605)),(9,(Qc v611))],[(.box [(.dat (.lst ((List.map Qa) []))),(.dat (.lst ((List.map Qa) []))),(.dat (.lst ((List.map Qa) []))),(.dat (.lst ((List.map Qa) []))),(Qc 0),(Qc 0),(.dat (.lst ((List.map Qa) [])))]),(.tok 3 v203.length),(.tok 3 v204.length),(.box [(.dat (.lst ((List.map Qa) []))),(.dat (.lst ((List.map Qa) v2))),(.vec 1 ((List.map Qa) v203)),(.vec 2 ((List.map Qa) v204)),(Qc (-1)),(Qc 0),(.dat (.lst ((List.map Qa) [])))]),(.tok 3 (([]:List Int).length)),(.tok 3 (([]:List Int).length))]⟩) ?_ (fun d=>?_)
  ·replace hm:=hs
   clear hs
   refine Qx hm (rfl) (fun hm=>?_) (fun hm=>?_)
   ·refine R_G (Qb 2 ?_)
    refine Q3 1 Qa hm rfl (fun _=>rfl) (fun v612 hm=>?_)
    refine Qb 3 ?_
    refine ZD rfl (fun _=>Qf2 (k:=.i64) (m:=v612) (n:=(W (0 - v605))) rfl (by kernel_rfl) (by kernel_rfl)) ?_
    refine Qb 1 (Qe ?_)
    obtain rfl:=Qu hm
    exact Qm
   refine Qo ?_
   obtain rfl:=Qu hm
   exact Qm
  clear hs
  refine Qd (R_G (Qb 6 ?_))
  obtain ⟨v613,hx,hm⟩:=Qg hm
  refine X8 3 1 8 1 Qa v203 ([(W (v605+v611))]:List Int) v613 (xs:=(List.map Qa) v203) (es:=(List.map Qa) ([(W (v605+v611))]:List Int)) (L:=(List.map Qa)) (fun _=>rfl) rfl rfl (fun _=>rfl) hx ?_
  refine Qb 2 (Qe (R_G (Qb 3 ?_)))
  obtain ⟨v614,hx,hm⟩:=Qg hm
  refine X8 3 1 8 2 Qa v204 ([0]:List Int) v614 (xs:=(List.map Qa) v204) (es:=(List.map Qa) ([0]:List Int)) (L:=(List.map Qa)) (fun _=>rfl) rfl rfl (fun _=>rfl) hx ?_
  refine Qb 2 (Qe (R_G (Qb 3 (Qe ?_))))
  exact QaV _ _ hm _ (by kernel_rfl)
 refine Q8 ?_
 obtain rfl:=Qu hm
 exact ⟨rfl,Qm⟩
def Qaq (x:((List Int) × (List Int))):Option (Qt × Int) :=
 match x with
 | (p0,p1) =>
 (if (p1.length:Int)=0 then
  some (decide ((p0.length:Int) > 16))
 else
 some false
 )>>=fun (v1:Bool) =>
 if v1=true then
  some ((⟨([]:(List Int)),([]:(List Int)),([]:(List Int)),([]:(List Int)),0,0,([]:(List Int))⟩:Qt),7)
 else
 Qat (p1,(p0.length:Int))>>=fun (v2:(List Int)) =>
 if (p0.length:Int) > (v2.length:Int) then
  some ((⟨([]:(List Int)),([]:(List Int)),([]:(List Int)),([]:(List Int)),0,0,([]:(List Int))⟩:Qt),5)
 else
 ZQ (v2,p0,([]:List Int),([]:List Int),0)>>=fun ((v603,v604):((List Int) × (List Int))) =>
 some ((⟨([]:(List Int)),v2,v603,v604,(-1),0,([]:(List Int))⟩:Qt),0)
def QeE:((List Int) × (List Int))→(Qt × Int)→Prop:=fun x r=>match x,r with
 | (p0,p1),(r0,r1)=>∀ H,PC prog env 70 ([(.lst ((List.map Qa) p0)),(.lst ((List.map Qa) p1))].map .dat) H (.tup [(.dat (Qt.toD r0)),(Qc r1)]) H
theorem QeS:∀ x r,Qaq x=some r→QeE x r:=by
 intro x r hm
 unfold Qaq at hm
 unfold QeE
 obtain ⟨p0,p1⟩:=x
 obtain ⟨r0,r1⟩:=r
 intro H
 refine PC_sx (ds:=[(.lst ((List.map Qa) p0)),(.lst ((List.map Qa) p1))]) (fn:=f70) rfl ?_
 refine Qd (R_G (Qb 2 (Qe (Qd (Qd ?_)))))
 obtain ⟨v1,hs,hm⟩:=Qg hm
 refine Zy (fun d=>⟨sl d 99 [(0,(.dat (.lst ((List.map Qa) p0)))),(1,(.dat (.lst ((List.map Qa) p1)))),(4,(.ptr 0 0)),(17,(Qs v1))],[(.box [(.dat (.lst ((List.map Qa) []))),(.dat (.lst ((List.map Qa) []))),(.dat (.lst ((List.map Qa) []))),(.dat (.lst ((List.map Qa) []))),(Qc 0),(Qc 0),(.dat (.lst ((List.map Qa) [])))])]⟩) ?_ (fun d=>?_)
 ·replace hm:=hs
  clear hs
  refine R_G (Qb 1 ?_)
  refine QO Qa p1 (es:=(List.map Qa) p1) rfl ?_
  refine Qb 2 ?_
  refine QA 13 hm (Q1 _ _) (fun hm=>?_) (fun hm=>?_)
  ·refine Qb 1 ?_
   refine QO Qa p0 (es:=(List.map Qa) p0) rfl ?_
   refine Qb 2 (Qe ?_)
   obtain rfl:=Qu hm
   exact Qm
  refine Qb 4 (Qe ?_)
  obtain rfl:=Qu hm
  exact Qm
 clear hs
 refine Qx hm (QH _) (fun hm=>?_) (fun hm=>?_)
 ·refine Qd (R_G (Qb 3 (Qe (Qr ?_))))
  obtain ⟨rfl,rfl⟩:=QU hm
  exact ⟨trivial,Qk⟩
 refine Qo (Qd (R_G (Qb 2 ?_)))
 refine QO Qa p0 (es:=(List.map Qa) p0) rfl ?_
 obtain ⟨v2,hx,hm⟩:=Qg hm
 have hq:=QeV _ _ hx []
 refine Qp hq ?_
 refine Qb 3 (Qe (Qd (Qd (R_G (Qb 1 ?_)))))
 refine QO Qa p0 (es:=(List.map Qa) p0) rfl ?_
 refine Qb 2 ?_
 refine QO Qa v2 (es:=(List.map Qa) v2) rfl ?_
 refine Qb 1 (Qe ?_)
 refine Qx hm (rfl) (fun hm=>?_) (fun hm=>?_)
 ·refine Qd (R_G (Qb 3 (Qe (Qr ?_))))
  obtain ⟨rfl,rfl⟩:=QU hm
  exact ⟨trivial,Qk⟩
 refine Qo (Qd (Qd (R_G (Qb 1 (Qe (Qw ?_))))))
 obtain ⟨⟨v603,v604⟩,hs,hm⟩:=Qg hm
 refine Ze ?_
 refine RL_use (QaV _ _ hs) (by kernel_rfl) ?_
 clear hs
 intro e s hp
 obtain ⟨rfl,d,rfl⟩:=hp
 refine Qd (R_G (Qb 3 (Qe (Qr ?_))))
 obtain ⟨rfl,rfl⟩:=QU hm
 exact ⟨trivial,Qk⟩
def Y6 (x:(Int × (List Int))):Option (Qt × Int) :=
 match x with
 | (p0,p1) =>
 if p0≥(p1.length:Int) then
  some ((⟨([]:(List Int)),([]:(List Int)),([]:(List Int)),([]:(List Int)),0,0,([]:(List Int))⟩:Qt),4)
 else
 (if p0 < 0 then
  some (W ((p1.length:Int) - 1))
 else
 some p0
 )>>=fun (v1:Int) =>
 some ((⟨([]:(List Int)),p1,p1,([]:(List Int)),v1,0,([]:(List Int))⟩:Qt),0)
def Qdc:(Int × (List Int))→(Qt × Int)→Prop:=fun x r=>match x,r with
 | (p0,p1),(r0,r1)=>∀ H,PC prog env 71 ([(Qa p0),(.lst ((List.map Qa) p1))].map .dat) H (.tup [(.dat (Qt.toD r0)),(Qc r1)]) H
theorem QbK:∀ x r,Y6 x=some r→Qdc x r:=by
 intro x r hm
 unfold Y6 at hm
 unfold Qdc
 obtain ⟨p0,p1⟩:=x
 obtain ⟨r0,r1⟩:=r
 intro H
 refine PC_sx (ds:=[(Qa p0),(.lst ((List.map Qa) p1))]) (fn:=f71) rfl ?_
 refine Qd (R_G (Qb 2 (Qe (Qd (Qd (R_G (Qb 2 ?_)))))))
 refine QO Qa p1 (es:=(List.map Qa) p1) rfl ?_
 refine Qb 1 (Qe ?_)
 refine Qx hm (rfl) (fun hm=>?_) (fun hm=>?_)
 ·refine Qd (R_G (Qb 3 (Qe (Qr ?_))))
  obtain ⟨rfl,rfl⟩:=QU hm
  exact ⟨trivial,Qk⟩
 refine Qo (Qd (Qd (R_G (Qb 2 (Qe ?_)))))
 obtain ⟨v1,hs,hm⟩:=Qg hm
 refine Zy (fun d=>⟨sl d 20 [(0,(Qc v1)),(1,(.dat (.lst ((List.map Qa) p1)))),(4,(.ptr 0 0))],[(.box [(.dat (.lst ((List.map Qa) []))),(.dat (.lst ((List.map Qa) []))),(.dat (.lst ((List.map Qa) []))),(.dat (.lst ((List.map Qa) []))),(Qc 0),(Qc 0),(.dat (.lst ((List.map Qa) [])))])]⟩) ?_ (fun d=>?_)
 ·replace hm:=hs
  clear hs
  refine Qx hm (rfl) (fun hm=>?_) (fun hm=>?_)
  ·refine R_G (Qb 1 ?_)
   refine QO Qa p1 (es:=(List.map Qa) p1) rfl ?_
   refine Qb 2 (Qe ?_)
   obtain rfl:=Qu hm
   exact Qm
  refine Qo ?_
  obtain rfl:=Qu hm
  exact Qm
 clear hs
 refine Qd (R_G (Qb 6 (Qe (Qr ?_))))
 obtain ⟨rfl,rfl⟩:=QU hm
 exact ⟨trivial,Qk⟩
def Jh (x:((List Int) × Int × (List Int))):Option (Qt × Int) :=
 match x with
 | (p0,p1,p2) =>
 if (p0.length:Int)≠1 then
  some ((⟨([]:(List Int)),([]:(List Int)),([]:(List Int)),([]:(List Int)),0,0,([]:(List Int))⟩:Qt),5)
 else
 Y6 (p1,p2)>>=fun ((v1,v2):(Qt × Int)) =>
 ((if v2=0 then
  some (decide (v1.axis≥0))
 else
 some false
 )>>=fun (v4:Bool) =>
 if v4=true then
  idx p2 v1.axis>>=fun v5 =>
  some (decide (v5 > 0))
 else
 some false
 )>>=fun (v3:Bool) =>
 (if v3=true then
  idx p2 v1.axis>>=fun v7 =>
  idx p0 0>>=fun v8 =>
  remM v8 v7>>=fun v9 =>
  remM (W (v9+v7)) v7>>=fun v10 =>
  some v10
 else
 some v1.amount
 )>>=fun (v6:Int) =>
 some ((⟨v1.left,v1.right,v1.shape,v1.starts,v1.axis,v6,v1.perm⟩:Qt),v2)
def Qdy:((List Int) × Int × (List Int))→(Qt × Int)→Prop:=fun x r=>match x,r with
 | (p0,p1,p2),(r0,r1)=>∀ H,PC prog env 72 ([(.lst ((List.map Qa) p0)),(Qa p1),(.lst ((List.map Qa) p2))].map .dat) H (.tup [(.dat (Qt.toD r0)),(Qc r1)]) H
theorem QdQ:∀ x r,Jh x=some r→Qdy x r:=by
 intro x r hm
 unfold Jh at hm
 unfold Qdy
 obtain ⟨p0,p1,p2⟩:=x
 obtain ⟨r0,r1⟩:=r
 intro H
 refine PC_sx (ds:=[(.lst ((List.map Qa) p0)),(Qa p1),(.lst ((List.map Qa) p2))]) (fn:=f72) rfl ?_
 refine Qd (R_G (Qb 2 (Qe (Qd (Qd (R_G (Qb 1 ?_)))))))
 refine QO Qa p0 (es:=(List.map Qa) p0) rfl ?_
 refine Qb 1 (Qe ?_)
 refine Qx hm (ne_dec _ _) (fun hm=>?_) (fun hm=>?_)
 ·refine Qd (R_G (Qb 3 (Qe (Qr ?_))))
  obtain ⟨rfl,rfl⟩:=QU hm
  exact ⟨trivial,Qk⟩
 refine Qo (Qd (R_G (Qb 2 ?_)))
 obtain ⟨⟨v1,v2⟩,hx,hm⟩:=Qg hm
 have hq:=QbK _ _ hx []
 refine Qp hq ?_
 refine Qb 6 (Qe (Qd (Qd ?_)))
 obtain ⟨v3,hs,hm⟩:=Qg hm
 refine Zy (fun d=>⟨sl d 53 [(0,(.dat (.lst ((List.map Qa) p0)))),(2,(.dat (.lst ((List.map Qa) p2)))),(6,(.ptr 0 0)),(8,(.ptr 1 0)),(9,(Qc v2)),(35,(Qs v3))],[(.box [(.dat (.lst ((List.map Qa) []))),(.dat (.lst ((List.map Qa) []))),(.dat (.lst ((List.map Qa) []))),(.dat (.lst ((List.map Qa) []))),(Qc 0),(Qc 0),(.dat (.lst ((List.map Qa) [])))]),(.box [(.dat (.lst ((List.map Qa) v1.left))),(.dat (.lst ((List.map Qa) v1.right))),(.dat (.lst ((List.map Qa) v1.shape))),(.dat (.lst ((List.map Qa) v1.starts))),(Qc v1.axis),(Qc v1.amount),(.dat (.lst ((List.map Qa) v1.perm)))])]⟩) ?_ (fun d=>?_)
 ·replace hm:=hs
  clear hs
  refine QdZ ?_
  refine Qb 3 ?_
  obtain ⟨v4,hs,hm⟩:=Qg hm
  refine XX (j:=7) (fun d=>⟨sl d 53 [(0,(.dat (.lst ((List.map Qa) p0)))),(2,(.dat (.lst ((List.map Qa) p2)))),(6,(.ptr 0 0)),(8,(.ptr 1 0)),(9,(Qc v2)),(27,(Qs v4))],[(.box [(.dat (.lst ((List.map Qa) []))),(.dat (.lst ((List.map Qa) []))),(.dat (.lst ((List.map Qa) []))),(.dat (.lst ((List.map Qa) []))),(Qc 0),(Qc 0),(.dat (.lst ((List.map Qa) [])))]),(.box [(.dat (.lst ((List.map Qa) v1.left))),(.dat (.lst ((List.map Qa) v1.right))),(.dat (.lst ((List.map Qa) v1.shape))),(.dat (.lst ((List.map Qa) v1.starts))),(Qc v1.axis),(Qc v1.amount),(.dat (.lst ((List.map Qa) v1.perm)))])]⟩) (fun d=>?_) (fun hJ=>?_)
  ·clear hs
   refine Qb 1 ?_
   refine QA 28 hm (QH _) (fun hm=>?_) (fun hm=>?_)
   ·refine Qb 3 ?_
    refine Q3 1 Qa hm rfl (fun _=>rfl) (fun v5 hm=>?_)
    refine Qb 3 ?_
    refine Qe ⟨by kernel_rfl,?_⟩
    obtain rfl:=Qu hm
    exact Qm
   refine Qb 7 ?_
   refine Qe ⟨by kernel_rfl,?_⟩
   obtain rfl:=Qu hm
   exact Qm
  clear hm
  refine QA 23 hs (Q1 _ _) (fun hm=>?_) (fun hm=>?_)
  ·refine Qb 4 ?_
   obtain rfl:=Qu hm
   exact hJ _ _
  refine Qb 4 ?_
  obtain rfl:=Qu hm
  exact hJ _ _
 clear hs
 obtain ⟨v6,hs,hm⟩:=Qg hm
 refine Zy (fun d=>⟨sl d 53 [(6,(.ptr 0 0)),(8,(.ptr 1 0)),(9,(Qc v2))],[(.box [(.dat (.lst ((List.map Qa) []))),(.dat (.lst ((List.map Qa) []))),(.dat (.lst ((List.map Qa) []))),(.dat (.lst ((List.map Qa) []))),(Qc 0),(Qc 0),(.dat (.lst ((List.map Qa) [])))]),(.box [(.dat (.lst ((List.map Qa) v1.left))),(.dat (.lst ((List.map Qa) v1.right))),(.dat (.lst ((List.map Qa) v1.shape))),(.dat (.lst ((List.map Qa) v1.starts))),(Qc v1.axis),(Qc v6),(.dat (.lst ((List.map Qa) v1.perm)))])]⟩) ?_ (fun d=>?_)
 ·replace hm:=hs
  clear hs
  refine Qx hm (QH _) (fun hm=>?_) (fun hm=>?_)
  ·refine Qd (R_G (Qb 3 ?_))
   refine Q3 1 Qa hm rfl (fun _=>rfl) (fun v7 hm=>?_)
   refine Qb 2 (Qe (R_G (Qb 1 ?_)))
   refine Q3 1 Qa hm rfl (fun _=>rfl) (fun v8 hm=>?_)
   refine Qb 2 ?_
   obtain ⟨v9,hx,hm⟩:=Qg hm
   refine ZD rfl (fun _=>QgE (a:=v8) (b:=v7) hx rfl (by kernel_rfl) (by kernel_rfl)) ?_
   refine Qb 3 ?_
   obtain ⟨v10,hx,hm⟩:=Qg hm
   refine ZD rfl (fun _=>QgE (a:=(W (v9+v7))) (b:=v7) hx rfl (by kernel_rfl) (by kernel_rfl)) ?_
   refine Qb 2 (Qe ?_)
   obtain rfl:=Qu hm
   exact Qm
  refine Qo ?_
  obtain rfl:=Qu hm
  exact Qm
 clear hs
 refine Qd (R_G (Qb 4 (Qe (Qr ?_))))
 obtain ⟨rfl,rfl⟩:=QU hm
 exact ⟨trivial,Qk⟩
def ZH (x:((List Int) × (List Int) × Int × (List Int) × Int × Int)):Option (Int) :=
 match x with
 | (p1,p0,v202,v201,v802,v803) =>
 if v803 < (p1.length:Int) then
  (idx p0 v803>>=fun v1204 =>
  if v1204=v202 then
   if v802 < 0 then
    some true
   else
   idx p1 v803>>=fun v1205 =>
   some (decide (v1205 < v802))
  else
  some false
  )>>=fun (v1203:Bool) =>
  if v1203=true then
   idx p1 v803>>=fun v1206 =>
   ZH (p1,p0,v202,v201,v1206,(W (v803+1)))
  else
  ZH (p1,p0,v202,v201,v802,(W (v803+1)))
 else
 some v802
 partial_fixpoint
def QbQ:((List Int) × (List Int) × Int × (List Int) × Int × Int)→Int→Prop:=fun x r=>match x with
 | (p1,p0,v202,v201,v802,v803)=>∀ st,prune 4 ((Qy (QN [1,1,0,1,0,0,1,0,0,1,0,1,0,0] (QP f111))).bind (env.hint 111).keepAt) st=⟨kp 55 [(0,(.dat (.lst ((List.map Qa) p0)))),(1,(.dat (.lst ((List.map Qa) p1)))),(4,(.ptr 0 0)),(5,(.ptr 2 0)),(6,(Qc v202)),(7,(Qc v802)),(8,(Qc v803))],[(.box [(.dat (.lst ((List.map Qa) []))),(.dat (.lst ((List.map Qa) []))),(.dat (.lst ((List.map Qa) []))),(.dat (.lst ((List.map Qa) []))),(Qc 0),(Qc 0),(.dat (.lst ((List.map Qa) [])))]),(.tok 3 v201.length),(.box [(.dat (.lst ((List.map Qa) []))),(.dat (.lst ((List.map Qa) p1))),(.vec 1 ((List.map Qa) v201)),(.dat (.lst ((List.map Qa) []))),(Qc (-1)),(Qc 0),(.dat (.lst ((List.map Qa) p0)))]),(.tok 3 (([]:List Int).length))]⟩ →
  RL prog env (env.hint 111) true (QN [1,1,0,1,0,0,1,0,0,1,0,1,0,0] (QP f111)) 4 st (fun e s=>match r with|v1202=>e=.exit 2∧∃ d,s=⟨sl d 55 [(0,(.dat (.lst ((List.map Qa) p0)))),(1,(.dat (.lst ((List.map Qa) p1)))),(4,(.ptr 0 0)),(5,(.ptr 2 0)),(6,(Qc v202)),(7,(Qc v1202))],[(.box [(.dat (.lst ((List.map Qa) []))),(.dat (.lst ((List.map Qa) []))),(.dat (.lst ((List.map Qa) []))),(.dat (.lst ((List.map Qa) []))),(Qc 0),(Qc 0),(.dat (.lst ((List.map Qa) [])))]),(.tok 3 v201.length),(.box [(.dat (.lst ((List.map Qa) []))),(.dat (.lst ((List.map Qa) p1))),(.vec 1 ((List.map Qa) v201)),(.dat (.lst ((List.map Qa) []))),(Qc (-1)),(Qc 0),(.dat (.lst ((List.map Qa) p0)))]),(.tok 3 (([]:List Int).length))]⟩)
theorem X6:∀ x r,ZH x=some r→QbQ x r:=by
 refine ZH.partial_correctness _ (fun ZH X6 x r hm=>?_)
 unfold QbQ
 obtain ⟨p1,p0,v202,v201,v802,v803⟩:=x
 intro st hst
 refine RL_at hst ?_
 clear hst
 refine Qd (Qd (R_G (Qb 2 ?_)))
 refine QO Qa p1 (es:=(List.map Qa) p1) rfl ?_
 refine Qb 1 (Qe ?_)
 refine Qx hm (rfl) (fun hm=>?_) (fun hm=>?_)
 ·refine Qo (Qd (Qw (Qd ?_)))
  obtain ⟨v1203,hs,hm⟩:=Qg hm
  refine Zy (fun d=>⟨sl d 55 [(0,(.dat (.lst ((List.map Qa) p0)))),(1,(.dat (.lst ((List.map Qa) p1)))),(4,(.ptr 0 0)),(5,(.ptr 2 0)),(6,(Qc v202)),(7,(Qc v802)),(8,(Qc v803)),(41,(Qs v1203))],[(.box [(.dat (.lst ((List.map Qa) []))),(.dat (.lst ((List.map Qa) []))),(.dat (.lst ((List.map Qa) []))),(.dat (.lst ((List.map Qa) []))),(Qc 0),(Qc 0),(.dat (.lst ((List.map Qa) [])))]),(.tok 3 v201.length),(.box [(.dat (.lst ((List.map Qa) []))),(.dat (.lst ((List.map Qa) p1))),(.vec 1 ((List.map Qa) v201)),(.dat (.lst ((List.map Qa) []))),(Qc (-1)),(Qc 0),(.dat (.lst ((List.map Qa) p0)))]),(.tok 3 (([]:List Int).length))]⟩) ?_ (fun d=>?_)
  ·replace hm:=hs
   clear hs
   refine R_G (Qb 2 ?_)
   refine Q3 1 Qa hm rfl (fun _=>rfl) (fun v1204 hm=>?_)
   refine Qb 4 ?_
   refine QA 30 hm (Q1 _ _) (fun hm=>?_) (fun hm=>?_)
   ·refine Qb 3 ?_
    refine QA 33 hm (rfl) (fun hm=>?_) (fun hm=>?_)
    ·refine Qb 8 (Qe ?_)
     obtain rfl:=Qu hm
     exact Qm
    refine Qb 2 ?_
    refine Q3 1 Qa hm rfl (fun _=>rfl) (fun v1205 hm=>?_)
    refine Qb 5 (Qe ?_)
    obtain rfl:=Qu hm
    exact Qm
   refine Qb 11 (Qe ?_)
   obtain rfl:=Qu hm
   exact Qm
  clear hs
  refine Qx hm (QH _) (fun hm=>?_) (fun hm=>?_)
  ·refine R_G (Qb 2 ?_)
   refine Q3 1 Qa hm rfl (fun _=>rfl) (fun v1206 hm=>?_)
   refine Qb 2 (Qe (R_G (Qb 3 (Qe ?_))))
   exact X6 _ _ hm _ (by kernel_rfl)
  refine Qo (R_G (Qb 3 (Qe ?_)))
  exact X6 _ _ hm _ (by kernel_rfl)
 refine Q8 ?_
 obtain rfl:=Qu hm
 exact ⟨rfl,Qm⟩
def ZG (x:((List Int) × (List Int) × (List Int) × Int)):Option ((List Int)) :=
 match x with
 | (p1,p0,v201,v202) =>
 if v202 < (p1.length:Int) then
  ZH (p1,p0,v202,v201,(-1),0)>>=fun (v1202:Int) =>
  if v1202≥0 then
   app 8 v201 ([v1202]:List Int)>>=fun v1207 =>
   ZG (p1,p0,v1207,(W (v202+1)))
  else
  ZG (p1,p0,v201,(W (v202+1)))
 else
 some v201
 partial_fixpoint
def QbP:((List Int) × (List Int) × (List Int) × Int)→(List Int)→Prop:=fun x r=>match x with
 | (p1,p0,v201,v202)=>∀ st,prune 4 ((Qy (QN [1,1,0,1,0,0] (QP f111))).bind (env.hint 111).keepAt) st=⟨kp 55 [(0,(.dat (.lst ((List.map Qa) p0)))),(1,(.dat (.lst ((List.map Qa) p1)))),(4,(.ptr 0 0)),(5,(.ptr 2 0)),(6,(Qc v202))],[(.box [(.dat (.lst ((List.map Qa) []))),(.dat (.lst ((List.map Qa) []))),(.dat (.lst ((List.map Qa) []))),(.dat (.lst ((List.map Qa) []))),(Qc 0),(Qc 0),(.dat (.lst ((List.map Qa) [])))]),(.tok 3 v201.length),(.box [(.dat (.lst ((List.map Qa) []))),(.dat (.lst ((List.map Qa) p1))),(.vec 1 ((List.map Qa) v201)),(.dat (.lst ((List.map Qa) []))),(Qc (-1)),(Qc 0),(.dat (.lst ((List.map Qa) p0)))]),(.tok 3 (([]:List Int).length))]⟩ →
  RL prog env (env.hint 111) true (QN [1,1,0,1,0,0] (QP f111)) 4 st (fun e s=>match r with|v601=>e=.exit 0∧∃ d,s=⟨sl d 55 [(4,(.ptr 0 0)),(5,(.ptr 2 0))],[(.box [(.dat (.lst ((List.map Qa) []))),(.dat (.lst ((List.map Qa) []))),(.dat (.lst ((List.map Qa) []))),(.dat (.lst ((List.map Qa) []))),(Qc 0),(Qc 0),(.dat (.lst ((List.map Qa) [])))]),(.tok 3 v601.length),(.box [(.dat (.lst ((List.map Qa) []))),(.dat (.lst ((List.map Qa) p1))),(.vec 1 ((List.map Qa) v601)),(.dat (.lst ((List.map Qa) []))),(Qc (-1)),(Qc 0),(.dat (.lst ((List.map Qa) p0)))]),(.tok 3 (([]:List Int).length))]⟩)
theorem X5:∀ x r,ZG x=some r→QbP x r:=by
 refine ZG.partial_correctness _ (fun ZG X5 x r hm=>?_)
 unfold QbP
 obtain ⟨p1,p0,v201,v202⟩:=x
 intro st hst
 refine RL_at hst ?_
 clear hst
 refine Qd (Qd (R_G (Qb 2 ?_)))
 refine QO Qa p1 (es:=(List.map Qa) p1) rfl ?_
 refine Qb 1 (Qe ?_)
 refine Qx hm (rfl) (fun hm=>?_) (fun hm=>?_)
 ·refine Qo (Qd (Qw (Qd (R_G (Qb 1 (Qe (Qd (Qd (R_G (Qb 1 (Qe ?_)))))))))))
  refine Qw ?_
  obtain ⟨v1202,hs,hm⟩:=Qg hm
  refine Ze ?_
  refine RL_use (X6 _ _ hs) (by kernel_rfl) ?_
  clear hs
  intro e s hp
  obtain ⟨rfl,d,rfl⟩:=hp
  refine Qd (R_G (Qb 2 (Qe ?_)))
  refine Qx hm (rfl) (fun hm=>?_) (fun hm=>?_)
  ·refine R_G (Qb 4 ?_)
   obtain ⟨v1207,hx,hm⟩:=Qg hm
   refine X8 3 1 8 1 Qa v201 ([v1202]:List Int) v1207 (xs:=(List.map Qa) v201) (es:=(List.map Qa) ([v1202]:List Int)) (L:=(List.map Qa)) (fun _=>rfl) rfl rfl (fun _=>rfl) hx ?_
   refine Qb 2 (Qe (R_G (Qb 3 (Qe ?_))))
   exact X5 _ _ hm _ (by kernel_rfl)
  refine Qo (R_G (Qb 3 (Qe ?_)))
  exact X5 _ _ hm _ (by kernel_rfl)
 refine Q8 ?_
 obtain rfl:=Qu hm
 exact ⟨rfl,Qm⟩
def Xo (x:((List Int) × (List Int))):Option Qt :=
 match x with
 | (p0,p1) =>
 ZG (p1,p0,([]:List Int),0)>>=fun (v601:(List Int)) =>
 some (⟨([]:(List Int)),p1,v601,([]:(List Int)),(-1),0,p0⟩:Qt)
def QcM:((List Int) × (List Int))→Qt→Prop:=fun x r=>match x,r with
 | (p0,p1),r0=>∀ H,PC prog env 111 ([(.lst ((List.map Qa) p0)),(.lst ((List.map Qa) p1))].map .dat) H (.dat (Qt.toD r0)) H
theorem QcV:∀ x r,Xo x=some r→QcM x r:=by
 intro x r0 hm
 unfold Xo at hm
 unfold QcM
 obtain ⟨p0,p1⟩:=x
 intro H
 refine PC_sx (ds:=[(.lst ((List.map Qa) p0)),(.lst ((List.map Qa) p1))]) (fn:=f111) rfl ?_
 refine Qd (R_G (Qb 1 (Qe (Qd (R_G (Qb 5 (Qe (Qd (Qd (R_G (Qb 1 ?_)))))))))))
 refine Qe (Qw ?_)
 obtain ⟨v601,hs,hm⟩:=Qg hm
 refine Ze ?_
 refine RL_use (X5 _ _ hs) (by kernel_rfl) ?_
 clear hs
 intro e s hp
 obtain ⟨rfl,d,rfl⟩:=hp
 refine Qd (R_G (Qb 2 (Qe (Qr ?_))))
 obtain rfl:=Qu hm
 exact ⟨trivial,Qk⟩
def YG (x:((List Int) × (List Int) × Int)):Option ((List Int)) :=
 match x with
 | (p0,v201,v202) =>
 if v202≥0 then
  app 8 v201 ([v202]:List Int)>>=fun v602 =>
  YG (p0,v602,(W (v202 - 1)))
 else
 some v201
 partial_fixpoint
def Qda:((List Int) × (List Int) × Int)→(List Int)→Prop:=fun x r=>match x with
 | (p0,v201,v202)=>∀ st,prune 2 ((Qy (QN [1,1,0,1,0,0] (QP f73))).bind (env.hint 73).keepAt) st=⟨kp 19 [(0,(.dat (.lst ((List.map Qa) p0)))),(2,(.ptr 0 0)),(3,(.vec 1 ((List.map Qa) v201))),(4,(Qc v202))],[(.box [(.dat (.lst ((List.map Qa) []))),(.dat (.lst ((List.map Qa) []))),(.dat (.lst ((List.map Qa) []))),(.dat (.lst ((List.map Qa) []))),(Qc 0),(Qc 0),(.dat (.lst ((List.map Qa) [])))]),(.tok 3 v201.length)]⟩ →
  RL prog env (env.hint 73) true (QN [1,1,0,1,0,0] (QP f73)) 2 st (fun e s=>match r with|v601=>e=.exit 0∧∃ d,s=⟨sl d 19 [(0,(.dat (.lst ((List.map Qa) p0)))),(2,(.ptr 0 0)),(3,(.vec 1 ((List.map Qa) v601)))],[(.box [(.dat (.lst ((List.map Qa) []))),(.dat (.lst ((List.map Qa) []))),(.dat (.lst ((List.map Qa) []))),(.dat (.lst ((List.map Qa) []))),(Qc 0),(Qc 0),(.dat (.lst ((List.map Qa) [])))]),(.tok 3 v601.length)]⟩)
theorem QbJ:∀ x r,YG x=some r→Qda x r:=by
 refine YG.partial_correctness _ (fun YG QbJ x r hm=>?_)
 unfold Qda
 obtain ⟨p0,v201,v202⟩:=x
 intro st hst
 refine RL_at hst ?_
 clear hst
 refine Qd (Qd (R_G (Qb 2 (Qe ?_))))
 refine Qx hm (rfl) (fun hm=>?_) (fun hm=>?_)
 ·refine Qo (Qd (Qw (R_G (Qb 3 ?_))))
  obtain ⟨v602,hx,hm⟩:=Qg hm
  refine X8 3 1 8 1 Qa v201 ([v202]:List Int) v602 (xs:=(List.map Qa) v201) (es:=(List.map Qa) ([v202]:List Int)) (L:=(List.map Qa)) (fun _=>rfl) rfl rfl (fun _=>rfl) hx ?_
  refine Qb 1 (Qe (R_G (Qb 3 (Qe ?_))))
  exact QbJ _ _ hm _ (by kernel_rfl)
 refine Q8 ?_
 obtain rfl:=Qu hm
 exact ⟨rfl,Qm⟩
def Qar (x:(List Int)):Option Qt :=
 match x with
 | p0 =>
 YG (p0,([]:List Int),(W ((p0.length:Int) - 1)))>>=fun (v601:(List Int)) =>
 Xo (v601,p0)>>=fun (v603:Qt) =>
 some v603
def QeF:(List Int)→Qt→Prop:=fun x r=>match x,r with
 | p0,r0=>∀ H,PC prog env 73 ([(.lst ((List.map Qa) p0))].map .dat) H (.dat (Qt.toD r0)) H
theorem QeT:∀ x r,Qar x=some r→QeF x r:=by
 intro p0 r0 hm
 unfold Qar at hm
 unfold QeF
 intro H
 refine PC_sx (ds:=[(.lst ((List.map Qa) p0))]) (fn:=f73) rfl ?_
 refine Qd (R_G (Qb 1 (Qe (Qd (R_G (Qb 1 (Qe (Qd (Qd (R_G (Qb 1 ?_)))))))))))
 refine QO Qa p0 (es:=(List.map Qa) p0) rfl ?_
 refine Qb 2 (Qe (Qw ?_))
 obtain ⟨v601,hs,hm⟩:=Qg hm
 refine Ze ?_
 refine RL_use (QbJ _ _ hs) (by kernel_rfl) ?_
 clear hs
 intro e s hp
 obtain ⟨rfl,d,rfl⟩:=hp
 refine Qd (R_G (Qb 2 ?_))
 obtain ⟨v603,hx,hm⟩:=Qg hm
 have hq:=QcV _ _ hx []
 refine Qp hq ?_
 refine Qb 1 (Qe (Qr ?_))
 obtain rfl:=Qu hm
 exact ⟨trivial,Qk⟩
def Zl (x:(Int × QR × (List Int) × Int × Int)):Option (Nat ⊕ ((List Int) × Int)) :=
 match x with
 | (p1,p0,v201,v202,v203) =>
 if v203 < p1 then
  (idx p0.values v203>>=fun v605 =>
  if v605 < 0 then
   some true
  else
  idx p0.values v203>>=fun v606 =>
  some (decide (v606≥p1))
  )>>=fun (v604:Bool) =>
  if v604=true then
   some (Sum.inl v201.length)
  else
  idx p0.values v203>>=fun v607 =>
  app 8 v201 ([v607]:List Int)>>=fun v608 =>
  idx v608 v203>>=fun v609 =>
  Zl (p1,p0,v608,(if v202 < v609 then v609 else v202),(W (v203+1)))
 else
 some (Sum.inr (v201,v202))
 partial_fixpoint
def Qa7:(Int × QR × (List Int) × Int × Int)→(Nat ⊕ ((List Int) × Int))→Prop:=fun x r=>match x with
 | (p1,p0,v201,v202,v203)=>∀ st,prune 2 ((Qy (QN [1,1,1,1,0,1,0,0] (QP f112))).bind (env.hint 112).keepAt) st=⟨kp 73 [(1,(Qc p1)),(2,(.ptr 0 0)),(6,(.vec 1 ((List.map Qa) v201))),(7,(Qc v202)),(8,(Qc v203))],[(.box [(.dat (.lst ((List.map Qa) p0.values))),(Qs p0.scalar)]),(.tok 3 v201.length)]⟩ →
  RL prog env (env.hint 112) true (QN [1,1,1,1,0,1,0,0] (QP f112)) 2 st (fun e s=>match r with|.inl v601=>e=.ret∧∃ d,s=⟨sl d 73 [(4,(.dat (.lst ((List.map Qa) [])))),(5,(Qc 6))],[(.box [(.dat (.lst ((List.map Qa) p0.values))),(Qs p0.scalar)]),(.tok 3 v601)]⟩|.inr ((v602,v603))=>e=.exit 0∧∃ d,s=⟨sl d 73 [(1,(Qc p1)),(6,(.vec 1 ((List.map Qa) v602))),(7,(Qc v603))],[(.box [(.dat (.lst ((List.map Qa) p0.values))),(Qs p0.scalar)]),(.tok 3 v602.length)]⟩)
theorem Xd:∀ x r,Zl x=some r→Qa7 x r:=by
 refine Zl.partial_correctness _ (fun Zl Xd x r hm=>?_)
 unfold Qa7
 obtain ⟨p1,p0,v201,v202,v203⟩:=x
 intro st hst
 refine RL_at hst ?_
 clear hst
 refine Qd (Qd (R_G (Qb 3 (Qe ?_))))
 refine Qx hm (rfl) (fun hm=>?_) (fun hm=>?_)
 ·refine Qo (Qd (Qw (Qd (Qd ?_))))
  obtain ⟨v604,hs,hm⟩:=Qg hm
  refine Zy (fun d=>⟨sl d 73 [(1,(Qc p1)),(2,(.ptr 0 0)),(6,(.vec 1 ((List.map Qa) v201))),(7,(Qc v202)),(8,(Qc v203)),(36,(Qs v604))],[(.box [(.dat (.lst ((List.map Qa) p0.values))),(Qs p0.scalar)]),(.tok 3 v201.length)]⟩) ?_ (fun d=>?_)
  ·replace hm:=hs
   clear hs
   refine R_G (Qb 3 ?_)
   refine Q3 1 Qa hm rfl (fun _=>rfl) (fun v605 hm=>?_)
   refine Qb 3 ?_
   refine QA 28 hm (rfl) (fun hm=>?_) (fun hm=>?_)
   ·refine Qb 8 (Qe ?_)
    obtain rfl:=Qu hm
    exact Qm
   refine Qb 3 ?_
   refine Q3 1 Qa hm rfl (fun _=>rfl) (fun v606 hm=>?_)
   refine Qb 4 (Qe ?_)
   obtain rfl:=Qu hm
   exact Qm
  clear hs
  refine Qx hm (QH _) (fun hm=>?_) (fun hm=>?_)
  ·refine Qd (R_G (Qb 2 (Qe (Qr ?_))))
   obtain rfl:=Qu hm
   exact ⟨rfl,Qm⟩
  refine Qo (Qd (R_G (Qb 4 ?_)))
  refine Q3 1 Qa hm rfl (fun _=>rfl) (fun v607 hm=>?_)
  refine Qb 2 ?_
  obtain ⟨v608,hx,hm⟩:=Qg hm
  refine X8 3 1 8 1 Qa v201 ([v607]:List Int) v608 (xs:=(List.map Qa) v201) (es:=(List.map Qa) ([v607]:List Int)) (L:=(List.map Qa)) (fun _=>rfl) rfl rfl (fun _=>rfl) hx ?_
  refine Qb 1 (Qe (R_G (Qb 3 ?_)))
  refine Q3 1 Qa hm rfl (fun _=>rfl) (fun v609 hm=>?_)
  refine Qb 1 ?_
  refine ZD rfl (fun _=>Qf2 (k:=.i64) (m:=v202) (n:=v609) rfl (by kernel_rfl) (by kernel_rfl)) ?_
  refine Qb 1 (Qe (R_G (Qb 3 (Qe ?_))))
  exact Xd _ _ hm _ (by kernel_rfl)
 refine Q8 ?_
 obtain rfl:=Qu hm
 exact ⟨rfl,Qm⟩
def Zm (x:(Int × (List Int) × Int × Int × QR × Bool × Int)):Option (Bool) :=
 match x with
 | (p1,v602,v810,v603,p0,v1410,v1411) =>
 if v1411 < p1 then
  if v1410=true then
   Zm (p1,v602,v810,v603,p0,true,(W (v1411+1)))
  else
  idx v602 v1411>>=fun v1811 =>
  Zm (p1,v602,v810,v603,p0,(v1811 == v810),(W (v1411+1)))
 else
 some v1410
 partial_fixpoint
def Qa9:(Int × (List Int) × Int × Int × QR × Bool × Int)→Bool→Prop:=fun x r=>match x with
 | (p1,v602,v810,v603,p0,v1410,v1411)=>∀ st,prune 2 ((Qy (QN [1,1,1,1,1,0,1,0,0,1,0,0,1,0,1,0,0] (QP f112))).bind (env.hint 112).keepAt) st=⟨kp 73 [(1,(Qc p1)),(6,(.vec 1 ((List.map Qa) v602))),(7,(Qc v603)),(9,(Qc v810)),(10,(Qs v1410)),(11,(Qc v1411))],[(.box [(.dat (.lst ((List.map Qa) p0.values))),(Qs p0.scalar)]),(.tok 3 v602.length)]⟩ →
  RL prog env (env.hint 112) true (QN [1,1,1,1,1,0,1,0,0,1,0,0,1,0,1,0,0] (QP f112)) 2 st (fun e s=>match r with|v1810=>e=.exit 4∧∃ d,s=⟨sl d 73 [(1,(Qc p1)),(6,(.vec 1 ((List.map Qa) v602))),(7,(Qc v603)),(9,(Qc v810)),(10,(Qs v1810))],[(.box [(.dat (.lst ((List.map Qa) p0.values))),(Qs p0.scalar)]),(.tok 3 v602.length)]⟩)
theorem Xf:∀ x r,Zm x=some r→Qa9 x r:=by
 refine Zm.partial_correctness _ (fun Zm Xf x r hm=>?_)
 unfold Qa9
 obtain ⟨p1,v602,v810,v603,p0,v1410,v1411⟩:=x
 intro st hst
 refine RL_at hst ?_
 clear hst
 refine Qd (Qd (R_G (Qb 3 (Qe ?_))))
 refine Qx hm (rfl) (fun hm=>?_) (fun hm=>?_)
 ·refine Qo (Qd (Qw (R_G (Qb 2 ?_))))
  refine QA 62 hm (QH _) (fun hm=>?_) (fun hm=>?_)
  ·refine Qb 8 (Qe (R_G (Qb 3 (Qe ?_))))
   exact Xf _ _ hm _ (by kernel_rfl)
  refine Qb 2 ?_
  refine Q3 1 Qa hm rfl (fun _=>rfl) (fun v1811 hm=>?_)
  refine Qb 5 (Qe (R_G (Qb 3 (Qe ?_))))
  exact Xf _ _ hm _ (by kernel_rfl)
 refine Q8 ?_
 obtain rfl:=Qu hm
 exact ⟨rfl,Qm⟩
def Zx (x:(Int × Int × (List Int) × QR × Int)):Option (Unit ⊕ Unit) :=
 match x with
 | (v603,p1,v602,p0,v810) =>
 if v810≤v603 then
  Zm (p1,v602,v810,v603,p0,false,0)>>=fun (v1810:Bool) =>
  if v1810=false then
   some (Sum.inl ())
  else
  Zx (v603,p1,v602,p0,(W (v810+1)))
 else
 some (Sum.inr ())
 partial_fixpoint
def Qa8:(Int × Int × (List Int) × QR × Int)→(Unit ⊕ Unit)→Prop:=fun x r=>match x with
 | (v603,p1,v602,p0,v810)=>∀ st,prune 2 ((Qy (QN [1,1,1,1,1,0,1,0,0] (QP f112))).bind (env.hint 112).keepAt) st=⟨kp 73 [(1,(Qc p1)),(6,(.vec 1 ((List.map Qa) v602))),(7,(Qc v603)),(9,(Qc v810))],[(.box [(.dat (.lst ((List.map Qa) p0.values))),(Qs p0.scalar)]),(.tok 3 v602.length)]⟩ →
  RL prog env (env.hint 112) true (QN [1,1,1,1,1,0,1,0,0] (QP f112)) 2 st (fun e s=>match r with|.inl _=>e=.ret∧∃ d,s=⟨sl d 73 [(4,(.dat (.lst ((List.map Qa) [])))),(5,(Qc 6))],[(.box [(.dat (.lst ((List.map Qa) p0.values))),(Qs p0.scalar)]),(.tok 3 v602.length)]⟩|.inr (_)=>e=.exit 2∧∃ d,s=⟨sl d 73 [(6,(.vec 1 ((List.map Qa) v602)))],[(.box [(.dat (.lst ((List.map Qa) p0.values))),(Qs p0.scalar)]),(.tok 3 v602.length)]⟩)
theorem Xe:∀ x r,Zx x=some r→Qa8 x r:=by
 refine Zx.partial_correctness _ (fun Zx Xe x r hm=>?_)
 unfold Qa8
 obtain ⟨v603,p1,v602,p0,v810⟩:=x
 intro st hst
 refine RL_at hst ?_
 clear hst
 refine Qd (Qd (R_G (Qb 3 (Qe ?_))))
 refine Qx hm (rfl) (fun hm=>?_) (fun hm=>?_)
 ·refine Qo (Qd (Qw (Qd (R_G (Qb 1 (Qe (Qd (Qd (R_G (Qb 1 (Qe ?_)))))))))))
  refine Qw ?_
  obtain ⟨v1810,hs,hm⟩:=Qg hm
  refine Ze ?_
  refine RL_use (Xf _ _ hs) (by kernel_rfl) ?_
  clear hs
  intro e s hp
  obtain ⟨rfl,d,rfl⟩:=hp
  refine Qd (R_G (Qb 2 (Qe ?_)))
  refine Qx hm (QaT _) (fun hm=>?_) (fun hm=>?_)
  ·refine Qd (R_G (Qb 2 (Qe (Qr ?_))))
   obtain rfl:=Qu hm
   exact ⟨rfl,Qm⟩
  refine Qo (R_G (Qb 3 (Qe ?_)))
  exact Xe _ _ hm _ (by kernel_rfl)
 refine Q8 ?_
 obtain rfl:=Qu hm
 exact ⟨rfl,Qm⟩
def Y9 (x:(QR × Int)):Option ((List Int) × Int) :=
 match x with
 | (p0,p1) =>
 if (p0.values.length:Int)≠p1 then
  some (([]:(List Int)),5)
 else
 (
 Zl (p1,p0,([]:List Int),(-1),0)>>=fun (out:Nat ⊕ ((List Int) × Int)) =>
 match out with
 | .inl v601 =>
  some (([]:(List Int)),6)
 | .inr ((v602,v603)) =>
  (
  Zx (v603,p1,v602,p0,0)>>=fun (out:Unit ⊕ Unit) =>
  match out with
  | .inl _ =>
   some (([]:(List Int)),6)
  | .inr (_) =>
   some (v602,0)
  )
 )
def QbN:(QR × Int)→((List Int) × Int)→Prop:=fun x r=>match x,r with
 | (p0,p1),(r0,r1)=>∀ H,PC prog env 112 ([(QR.toD p0),(Qa p1)].map .dat) H (.tup [(.dat (.lst ((List.map Qa) r0))),(Qc r1)]) H
theorem Qd0:∀ x r,Y9 x=some r→QbN x r:=by
 intro x r hm
 unfold Y9 at hm
 unfold QbN
 obtain ⟨p0,p1⟩:=x
 obtain ⟨r0,r1⟩:=r
 intro H
 refine PC_sx (ds:=[(QR.toD p0),(Qa p1)]) (fn:=f112) rfl ?_
 refine Qd (R_G (Qb 3 (Qe (Qd (Qd (R_G (Qb 2 ?_)))))))
 refine QO Qa p0.values (es:=(List.map Qa) p0.values) rfl ?_
 refine Qb 2 (Qe ?_)
 refine Qx hm (ne_dec _ _) (fun hm=>?_) (fun hm=>?_)
 ·refine Qd (R_G (Qb 2 (Qe (Qr ?_))))
  obtain ⟨rfl,rfl⟩:=QU hm
  exact ⟨trivial,Qk⟩
 refine Qo (Qd (R_G (Qb 1 (Qe (Qd (R_G (Qb 1 (Qe (Qd (Qd (R_G ?_)))))))))))
 refine Qb 1 (Qe (Qw ?_))
 obtain ⟨out,hs,hm⟩:=Qg hm
 refine Ze ?_
 rcases out with v601|⟨v602,v603⟩
 ·refine RL_use (Xd _ _ hs) (by kernel_rfl) ?_
  clear hs
  intro e s hp
  obtain ⟨rfl,d,rfl⟩:=hp
  obtain ⟨rfl,rfl⟩:=QU hm
  exact ⟨trivial,Qk⟩
 ·refine RL_use (Xd _ _ hs) (by kernel_rfl) ?_
  clear hs
  intro e s hp
  obtain ⟨rfl,d,rfl⟩:=hp
  refine Qd (Qd (R_G (Qb 1 (Qe (Qw ?_)))))
  obtain ⟨out,hs,hm⟩:=Qg hm
  refine Ze ?_
  rcases out with _|_
  ·refine RL_use (Xe _ _ hs) (by kernel_rfl) ?_
   clear hs
   intro e s hp
   obtain ⟨rfl,d,rfl⟩:=hp
   obtain ⟨rfl,rfl⟩:=QU hm
   exact ⟨trivial,Qk⟩
  ·refine RL_use (Xe _ _ hs) (by kernel_rfl) ?_
   clear hs
   intro e s hp
   obtain ⟨rfl,d,rfl⟩:=hp
   refine Qd (R_G (Qb 3 (Qe (Qr ?_))))
   obtain ⟨rfl,rfl⟩:=QU hm
   exact ⟨trivial,Qk⟩
def YY (x:((List Int) × (List Int))):Option (Qt × Int) :=
 match x with
 | (p0,p1) =>
 Y9 ((⟨p0,false⟩:QR),(p1.length:Int))>>=fun ((v1,v2):((List Int) × Int)) =>
 if v2≠0 then
  some ((⟨([]:(List Int)),([]:(List Int)),([]:(List Int)),([]:(List Int)),0,0,([]:(List Int))⟩:Qt),v2)
 else
 Xo (v1,p1)>>=fun (v3:Qt) =>
 some (v3,0)
def Qcn:((List Int) × (List Int))→(Qt × Int)→Prop:=fun x r=>match x,r with
 | (p0,p1),(r0,r1)=>∀ H,PC prog env 74 ([(.lst ((List.map Qa) p0)),(.lst ((List.map Qa) p1))].map .dat) H (.tup [(.dat (Qt.toD r0)),(Qc r1)]) H
theorem Qcs:∀ x r,YY x=some r→Qcn x r:=by
 intro x r hm
 unfold YY at hm
 unfold Qcn
 obtain ⟨p0,p1⟩:=x
 obtain ⟨r0,r1⟩:=r
 intro H
 refine PC_sx (ds:=[(.lst ((List.map Qa) p0)),(.lst ((List.map Qa) p1))]) (fn:=f74) rfl ?_
 refine Qd (R_G (Qb 2 (Qe (Qd (R_G (Qb 3 ?_))))))
 refine QO Qa p1 (es:=(List.map Qa) p1) rfl ?_
 obtain ⟨⟨v1,v2⟩,hx,hm⟩:=Qg hm
 have hq:=Qd0 _ _ hx []
 refine Qp hq ?_
 refine Qb 5 (Qe (Qd (Qd (R_G (Qb 2 (Qe ?_))))))
 refine Qx hm (ne_dec _ _) (fun hm=>?_) (fun hm=>?_)
 ·refine Qd (R_G (Qb 4 (Qe (Qr ?_))))
  obtain ⟨rfl,rfl⟩:=QU hm
  exact ⟨trivial,Qk⟩
 refine Qo (Qd (R_G (Qb 2 ?_)))
 obtain ⟨v3,hx,hm⟩:=Qg hm
 have hq:=QcV _ _ hx []
 refine Qp hq ?_
 refine Qb 2 (Qe (Qr ?_))
 obtain ⟨rfl,rfl⟩:=QU hm
 exact ⟨trivial,Qk⟩
def ZF (x:(QR × Int)):Option (Unit ⊕ Unit) :=
 match x with
 | (p0,v201) =>
 if v201 < (p0.values.length:Int) then
  idx p0.values v201>>=fun v601 =>
  if v601 < 0 then
   some (Sum.inl ())
  else
  ZF (p0,(W (v201+1)))
 else
 some (Sum.inr ())
 partial_fixpoint
def Qbm:(QR × Int)→(Unit ⊕ Unit)→Prop:=fun x r=>match x with
 | (p0,v201)=>∀ st,prune 1 ((Qy (QN [1,0,1,0,0] (QP f113))).bind (env.hint 113).keepAt) st=⟨kp 52 [(1,(.ptr 0 0)),(4,(Qc v201))],[(.box [(.dat (.lst ((List.map Qa) p0.values))),(Qs p0.scalar)])]⟩ →
  RL prog env (env.hint 113) true (QN [1,0,1,0,0] (QP f113)) 1 st (fun e s=>match r with|.inl _=>e=.ret∧∃ d,s=⟨sl d 52 [(2,(.dat (.lst ((List.map Qa) [])))),(3,(Qc 6))],[(.box [(.dat (.lst ((List.map Qa) p0.values))),(Qs p0.scalar)])]⟩|.inr (_)=>e=.exit 0∧∃ d,s=⟨sl d 52 [(1,(.ptr 0 0))],[(.box [(.dat (.lst ((List.map Qa) p0.values))),(Qs p0.scalar)])]⟩)
theorem XB:∀ x r,ZF x=some r→Qbm x r:=by
 refine ZF.partial_correctness _ (fun ZF XB x r hm=>?_)
 unfold Qbm
 obtain ⟨p0,v201⟩:=x
 intro st hst
 refine RL_at hst ?_
 clear hst
 refine Qd (Qd (R_G (Qb 3 ?_)))
 refine QO Qa p0.values (es:=(List.map Qa) p0.values) rfl ?_
 refine Qb 1 (Qe ?_)
 refine Qx hm (rfl) (fun hm=>?_) (fun hm=>?_)
 ·refine Qo (Qd (Qw (Qd (R_G (Qb 3 ?_)))))
  refine Q3 1 Qa hm rfl (fun _=>rfl) (fun v601 hm=>?_)
  refine Qb 2 (Qe ?_)
  refine Qx hm (rfl) (fun hm=>?_) (fun hm=>?_)
  ·refine Qd (R_G (Qb 2 (Qe (Qr ?_))))
   obtain rfl:=Qu hm
   exact ⟨rfl,Qm⟩
  refine Qo (R_G (Qb 3 (Qe ?_)))
  exact XB _ _ hm _ (by kernel_rfl)
 refine Q8 ?_
 obtain rfl:=Qu hm
 exact ⟨rfl,Qm⟩
def Zr (x:(QR × (List Int) × Int)):Option (Nat ⊕ (List Int)) :=
 match x with
 | (p0,v802,v803) =>
 if v803 < (p0.values.length:Int) then
  (if v803≥16 then
   some true
  else
  idx p0.values v803>>=fun v1205 =>
  some (decide (v1205 > 65536))
  )>>=fun (v1204:Bool) =>
  if v1204=true then
   some (Sum.inl v802.length)
  else
  idx p0.values v803>>=fun v1206 =>
  app 8 v802 ([v1206]:List Int)>>=fun v1207 =>
  Zr (p0,v1207,(W (v803+1)))
 else
 some (Sum.inr v802)
 partial_fixpoint
def Qbn:(QR × (List Int) × Int)→(Nat ⊕ (List Int))→Prop:=fun x r=>match x with
 | (p0,v802,v803)=>∀ st,prune 2 ((Qy (QN [1,1,1,0,1,0,0] (QP f113))).bind (env.hint 113).keepAt) st=⟨kp 52 [(1,(.ptr 0 0)),(5,(.vec 1 ((List.map Qa) v802))),(6,(Qc v803))],[(.box [(.dat (.lst ((List.map Qa) p0.values))),(Qs p0.scalar)]),(.tok 3 v802.length)]⟩ →
  RL prog env (env.hint 113) true (QN [1,1,1,0,1,0,0] (QP f113)) 2 st (fun e s=>match r with|.inl v1202=>e=.ret∧∃ d,s=⟨sl d 52 [(2,(.dat (.lst ((List.map Qa) [])))),(3,(Qc 7))],[(.box [(.dat (.lst ((List.map Qa) p0.values))),(Qs p0.scalar)]),(.tok 3 v1202)]⟩|.inr (v1203)=>e=.exit 2∧∃ d,s=⟨sl d 52 [(5,(.vec 1 ((List.map Qa) v1203)))],[(.box [(.dat (.lst ((List.map Qa) p0.values))),(Qs p0.scalar)]),(.tok 3 v1203.length)]⟩)
theorem XC:∀ x r,Zr x=some r→Qbn x r:=by
 refine Zr.partial_correctness _ (fun Zr XC x r hm=>?_)
 unfold Qbn
 obtain ⟨p0,v802,v803⟩:=x
 intro st hst
 refine RL_at hst ?_
 clear hst
 refine Qd (Qd (R_G (Qb 3 ?_)))
 refine QO Qa p0.values (es:=(List.map Qa) p0.values) rfl ?_
 refine Qb 1 (Qe ?_)
 refine Qx hm (rfl) (fun hm=>?_) (fun hm=>?_)
 ·refine Qo (Qd (Qw (Qd (Qd ?_))))
  obtain ⟨v1204,hs,hm⟩:=Qg hm
  refine Zy (fun d=>⟨sl d 52 [(1,(.ptr 0 0)),(5,(.vec 1 ((List.map Qa) v802))),(6,(Qc v803)),(37,(Qs v1204))],[(.box [(.dat (.lst ((List.map Qa) p0.values))),(Qs p0.scalar)]),(.tok 3 v802.length)]⟩) ?_ (fun d=>?_)
  ·replace hm:=hs
   clear hs
   refine R_G (Qb 3 ?_)
   refine QA 30 hm (rfl) (fun hm=>?_) (fun hm=>?_)
   ·refine Qb 7 (Qe ?_)
    obtain rfl:=Qu hm
    exact Qm
   refine Qb 3 ?_
   refine Q3 1 Qa hm rfl (fun _=>rfl) (fun v1205 hm=>?_)
   refine Qb 3 (Qe ?_)
   obtain rfl:=Qu hm
   exact Qm
  clear hs
  refine Qx hm (QH _) (fun hm=>?_) (fun hm=>?_)
  ·refine Qd (R_G (Qb 2 (Qe (Qr ?_))))
   obtain rfl:=Qu hm
   exact ⟨rfl,Qm⟩
  refine Qo (R_G (Qb 4 ?_))
  refine Q3 1 Qa hm rfl (fun _=>rfl) (fun v1206 hm=>?_)
  refine Qb 2 ?_
  obtain ⟨v1207,hx,hm⟩:=Qg hm
  refine X8 3 1 8 1 Qa v802 ([v1206]:List Int) v1207 (xs:=(List.map Qa) v802) (es:=(List.map Qa) ([v1206]:List Int)) (L:=(List.map Qa)) (fun _=>rfl) rfl rfl (fun _=>rfl) hx ?_
  refine Qb 1 (Qe (R_G (Qb 3 (Qe ?_))))
  exact XC _ _ hm _ (by kernel_rfl)
 refine Q8 ?_
 obtain rfl:=Qu hm
 exact ⟨rfl,Qm⟩
def Xv (x:QR):Option ((List Int) × Int) :=
 match x with
 | p0 =>
 (
 ZF (p0,0)>>=fun (out:Unit ⊕ Unit) =>
 match out with
 | .inl _ =>
  some (([]:(List Int)),6)
 | .inr (_) =>
  (
  Zr (p0,([]:List Int),0)>>=fun (out:Nat ⊕ (List Int)) =>
  match out with
  | .inl v1202 =>
   some (([]:(List Int)),7)
  | .inr (v1203) =>
   YN v1203>>=fun (v1208:Int) =>
   if v1208≠0 then
    some (([]:(List Int)),v1208)
   else
   some (v1203,0)
  )
 )
def Qb2:QR→((List Int) × Int)→Prop:=fun x r=>match x,r with
 | p0,(r0,r1)=>∀ H,PC prog env 113 ([(QR.toD p0)].map .dat) H (.tup [(.dat (.lst ((List.map Qa) r0))),(Qc r1)]) H
theorem Qey:∀ x r,Xv x=some r→Qb2 x r:=by
 intro p0 r hm
 unfold Xv at hm
 unfold Qb2
 obtain ⟨r0,r1⟩:=r
 intro H
 refine PC_sx (ds:=[(QR.toD p0)]) (fn:=f113) rfl ?_
 refine Qd (R_G (Qb 3 (Qe (Qd (Qd (R_G (Qb 1 (Qe (Qw ?_)))))))))
 obtain ⟨out,hs,hm⟩:=Qg hm
 refine Ze ?_
 rcases out with _|_
 ·refine RL_use (XB _ _ hs) (by kernel_rfl) ?_
  clear hs
  intro e s hp
  obtain ⟨rfl,d,rfl⟩:=hp
  obtain ⟨rfl,rfl⟩:=QU hm
  exact ⟨trivial,Qk⟩
 ·refine RL_use (XB _ _ hs) (by kernel_rfl) ?_
  clear hs
  intro e s hp
  obtain ⟨rfl,d,rfl⟩:=hp
  refine Qd (R_G (Qb 1 (Qe (Qd (Qd (R_G (Qb 1 (Qe (Qw ?_)))))))))
  obtain ⟨out,hs,hm⟩:=Qg hm
  refine Ze ?_
  rcases out with v1202|v1203
  ·refine RL_use (XC _ _ hs) (by kernel_rfl) ?_
   clear hs
   intro e s hp
   obtain ⟨rfl,d,rfl⟩:=hp
   obtain ⟨rfl,rfl⟩:=QU hm
   exact ⟨trivial,Qk⟩
  ·refine RL_use (XC _ _ hs) (by kernel_rfl) ?_
   clear hs
   intro e s hp
   obtain ⟨rfl,d,rfl⟩:=hp
   refine Qd (R_G (Qb 1 ?_))
   obtain ⟨v1208,hx,hm⟩:=Qg hm
   have hq:=Qbx _ _ hx []
   refine Qp hq ?_
   refine Qb 1 (Qe (Qd (Qd (R_G (Qb 2 (Qe ?_))))))
   refine Qx hm (ne_dec _ _) (fun hm=>?_) (fun hm=>?_)
   ·refine Qd (R_G (Qb 3 (Qe (Qr ?_))))
    obtain ⟨rfl,rfl⟩:=QU hm
    exact ⟨trivial,Qk⟩
   refine Qo (Qd (R_G (Qb 3 (Qe (Qr ?_)))))
   obtain ⟨rfl,rfl⟩:=QU hm
   exact ⟨trivial,Qk⟩
def XH (x:((List Int) × (List Int))):Option (Qt × Int) :=
 match x with
 | (p0,p1) =>
 Xv (⟨p0,false⟩:QR)>>=fun ((v1,v2):((List Int) × Int)) =>
 if v2≠0 then
  some ((⟨([]:(List Int)),([]:(List Int)),([]:(List Int)),([]:(List Int)),0,0,([]:(List Int))⟩:Qt),v2)
 else
 some ((⟨([]:(List Int)),p1,v1,([]:(List Int)),(-1),0,([]:(List Int))⟩:Qt),0)
def Qdb:((List Int) × (List Int))→(Qt × Int)→Prop:=fun x r=>match x,r with
 | (p0,p1),(r0,r1)=>∀ H,PC prog env 75 ([(.lst ((List.map Qa) p0)),(.lst ((List.map Qa) p1))].map .dat) H (.tup [(.dat (Qt.toD r0)),(Qc r1)]) H
theorem Qdk:∀ x r,XH x=some r→Qdb x r:=by
 intro x r hm
 unfold XH at hm
 unfold Qdb
 obtain ⟨p0,p1⟩:=x
 obtain ⟨r0,r1⟩:=r
 intro H
 refine PC_sx (ds:=[(.lst ((List.map Qa) p0)),(.lst ((List.map Qa) p1))]) (fn:=f75) rfl ?_
 refine Qd (R_G (Qb 2 (Qe (Qd (R_G (Qb 2 ?_))))))
 obtain ⟨⟨v1,v2⟩,hx,hm⟩:=Qg hm
 have hq:=Qey _ _ hx []
 refine Qp hq ?_
 refine Qb 5 (Qe (Qd (Qd (R_G (Qb 2 (Qe ?_))))))
 refine Qx hm (ne_dec _ _) (fun hm=>?_) (fun hm=>?_)
 ·refine Qd (R_G (Qb 4 (Qe (Qr ?_))))
  obtain ⟨rfl,rfl⟩:=QU hm
  exact ⟨trivial,Qk⟩
 refine Qo (Qd (R_G (Qb 5 (Qe (Qr ?_)))))
 obtain ⟨rfl,rfl⟩:=QU hm
 exact ⟨trivial,Qk⟩
def QaL (x:(List Int)):Option Int :=
 match x with
 | p0 =>
 YN p0>>=fun (v1:Int) =>
 if v1≠0 then
  some 0
 else
 XG p0>>=fun ((v2,v3):(Int × Int)) =>
 some v2
def Qd7:(List Int)→Int→Prop:=fun x r=>match x,r with
 | p0,r0=>∀ H,PC prog env 114 ([(.lst ((List.map Qa) p0))].map .dat) H (Qc r0) H
theorem QfG:∀ x r,QaL x=some r→Qd7 x r:=by
 intro p0 r0 hm
 unfold QaL at hm
 unfold Qd7
 intro H
 refine PC_sx (ds:=[(.lst ((List.map Qa) p0))]) (fn:=f114) rfl ?_
 refine Qd (R_G (Qb 1 (Qe (Qd (Qd (R_G (Qb 1 ?_)))))))
 obtain ⟨v1,hx,hm⟩:=Qg hm
 have hq:=Qbx _ _ hx []
 refine Qp hq ?_
 refine Qb 1 (Qe ?_)
 refine Qx hm (ne_dec _ _) (fun hm=>?_) (fun hm=>?_)
 ·refine Qd (R_G (Qb 1 (Qe (Qr ?_))))
  obtain rfl:=Qu hm
  exact ⟨trivial,Qk⟩
 refine Qo (Qd (R_G (Qb 1 ?_)))
 obtain ⟨⟨v2,v3⟩,hx,hm⟩:=Qg hm
 have hq:=Qdj _ _ hx []
 refine Qp hq ?_
 refine Qb 5 (Qe (Qd (R_G (Qb 2 (Qe (Qr ?_))))))
 obtain rfl:=Qu hm
 exact ⟨trivial,Qk⟩
def JE (x:(List Int)):Option Qt :=
 match x with
 | p0 =>
 QaL p0>>=fun (v1:Int) =>
 some (⟨([]:(List Int)),p0,([v1]:List Int),([]:(List Int)),(-1),0,([]:(List Int))⟩:Qt)
def Qef:(List Int)→Qt→Prop:=fun x r=>match x,r with
 | p0,r0=>∀ H,PC prog env 76 ([(.lst ((List.map Qa) p0))].map .dat) H (.dat (Qt.toD r0)) H
theorem Qer:∀ x r,JE x=some r→Qef x r:=by
 intro p0 r0 hm
 unfold JE at hm
 unfold Qef
 intro H
 refine PC_sx (ds:=[(.lst ((List.map Qa) p0))]) (fn:=f76) rfl ?_
 refine Qd (R_G (Qb 1 (Qe (Qd (R_G (Qb 2 ?_))))))
 obtain ⟨v1,hx,hm⟩:=Qg hm
 have hq:=QfG _ _ hx []
 refine Qp hq ?_
 refine Qb 3 (Qe (Qr ?_))
 obtain rfl:=Qu hm
 exact ⟨trivial,Qk⟩
def Yi (x:((List Int) × (List Int) × Int)):Option (Unit ⊕ Unit) :=
 match x with
 | (p0,p1,v201) =>
 if v201 < (p0.length:Int) then
  idx p0 v201>>=fun v601 =>
  idx p1 v201>>=fun v602 =>
  if v601≠v602 then
   some (Sum.inl ())
  else
  Yi (p0,p1,(W (v201+1)))
 else
 some (Sum.inr ())
 partial_fixpoint
def QcJ:((List Int) × (List Int) × Int)→(Unit ⊕ Unit)→Prop:=fun x r=>match x with
 | (p0,p1,v201)=>∀ st,prune 0 ((Qy (QN [1,1,0,1,0,0] (QP f81))).bind (env.hint 81).keepAt) st=⟨kp 26 [(0,(.dat (.lst ((List.map Qa) p0)))),(1,(.dat (.lst ((List.map Qa) p1)))),(5,(Qc v201))],[]⟩ →
  RL prog env (env.hint 81) true (QN [1,1,0,1,0,0] (QP f81)) 0 st (fun e s=>match r with|.inl _=>e=.ret∧∃ d,s=⟨sl d 26 [(4,(Qs false))],[]⟩|.inr (_)=>e=.exit 0∧∃ d,s=⟨sl d 26 [],[]⟩)
theorem QaA:∀ x r,Yi x=some r→QcJ x r:=by
 refine Yi.partial_correctness _ (fun Yi QaA x r hm=>?_)
 unfold QcJ
 obtain ⟨p0,p1,v201⟩:=x
 intro st hst
 refine RL_at hst ?_
 clear hst
 refine Qd (Qd (R_G (Qb 2 ?_)))
 refine QO Qa p0 (es:=(List.map Qa) p0) rfl ?_
 refine Qb 1 (Qe ?_)
 refine Qx hm (rfl) (fun hm=>?_) (fun hm=>?_)
 ·refine Qo (Qd (Qw (Qd ?_)))
  refine QaK ?_
  refine Qb 2 ?_
  refine Q3 1 Qa hm rfl (fun _=>rfl) (fun v601 hm=>?_)
  refine Qb 3 ?_
  refine Q3 1 Qa hm rfl (fun _=>rfl) (fun v602 hm=>?_)
  refine Qb 2 ?_
  refine Qe ⟨by kernel_rfl,?_⟩
  refine Qx hm (ne_dec _ _) (fun hm=>?_) (fun hm=>?_)
  ·refine Qd (R_G (Qb 1 (Qe (Qr ?_))))
   obtain rfl:=Qu hm
   exact ⟨rfl,Qm⟩
  refine Qo (R_G (Qb 3 (Qe ?_)))
  exact QaA _ _ hm _ (by kernel_rfl)
 refine Q8 ?_
 obtain rfl:=Qu hm
 exact ⟨rfl,Qm⟩
def QaM (x:((List Int) × (List Int))):Option Bool :=
 match x with
 | (p0,p1) =>
 if (p0.length:Int)≠(p1.length:Int) then
  some false
 else
 (
 Yi (p0,p1,0)>>=fun (out:Unit ⊕ Unit) =>
 match out with
 | .inl _ =>
  some false
 | .inr (_) =>
  some true
 )
def Qd9:((List Int) × (List Int))→Bool→Prop:=fun x r=>match x,r with
 | (p0,p1),r0=>∀ H,PC prog env 81 ([(.lst ((List.map Qa) p0)),(.lst ((List.map Qa) p1))].map .dat) H (Qs r0) H
theorem QfH:∀ x r,QaM x=some r→Qd9 x r:=by
 intro x r0 hm
 unfold QaM at hm
 unfold Qd9
 obtain ⟨p0,p1⟩:=x
 intro H
 refine PC_sx (ds:=[(.lst ((List.map Qa) p0)),(.lst ((List.map Qa) p1))]) (fn:=f81) rfl ?_
 refine Qd (R_G (Qb 1 (Qe (Qd (Qd (R_G (Qb 1 ?_)))))))
 refine QO Qa p0 (es:=(List.map Qa) p0) rfl ?_
 refine Qb 1 ?_
 refine QO Qa p1 (es:=(List.map Qa) p1) rfl ?_
 refine Qb 1 (Qe ?_)
 refine Qx hm (ne_dec _ _) (fun hm=>?_) (fun hm=>?_)
 ·refine Qd (R_G (Qb 1 (Qe (Qr ?_))))
  obtain rfl:=Qu hm
  exact ⟨trivial,Qk⟩
 refine Qo (Qd (Qd (R_G (Qb 1 (Qe (Qw ?_))))))
 obtain ⟨out,hs,hm⟩:=Qg hm
 refine Ze ?_
 rcases out with _|_
 ·refine RL_use (QaA _ _ hs) (by kernel_rfl) ?_
  clear hs
  intro e s hp
  obtain ⟨rfl,d,rfl⟩:=hp
  obtain rfl:=Qu hm
  exact ⟨trivial,Qk⟩
 ·refine RL_use (QaA _ _ hs) (by kernel_rfl) ?_
  clear hs
  intro e s hp
  obtain ⟨rfl,d,rfl⟩:=hp
  refine Qd (R_G (Qb 1 (Qe (Qr ?_))))
  obtain rfl:=Qu hm
  exact ⟨trivial,Qk⟩
def ZR (x:(Qh × Qh)):Option Qh :=
 match x with
 | (p0,p1) =>
 some (⟨p0.kind,p0.shape,p0.buffer,p0.starts,p0.axis,p0.amount,p0.perm,([(⟨p1.kind,p1.shape,p1.buffer,p1.starts,p1.axis,p1.amount,p1.perm,p1.kids⟩:Qh)]:(List Qh))⟩:Qh)
def Qdz:(Qh × Qh)→Qh→Prop:=fun x r=>match x,r with
 | (p0,p1),r0=>∀ H,PC prog env 77 ([(Qh.ex p0),(Qh.ex p1)].map .dat) H (.dat (Qh.ex r0)) H
theorem Xy:∀ x r,ZR x=some r→Qdz x r:=by
 intro x r0 hm
 unfold ZR at hm
 unfold Qdz
 obtain ⟨p0,p1⟩:=x
 intro H
 refine PC_sx (ds:=[(Qh.ex p0),(Qh.ex p1)]) (fn:=f77) rfl ?_
 refine Qd (R_G (Qb 3 (Qe (Qd (R_G (Qb 4 (Qe (Qd (R_G (Qb 2 (Qe ?_)))))))))))
 refine Qr ?_
 obtain rfl:=Qu hm
 exact ⟨trivial,Qk⟩
def Zs (x:(Qh × (List Int))):Option Qh :=
 match x with
 | (p0,p1) =>
 QaM (p0.shape,p1)>>=fun (v1:Bool) =>
 if v1=true then
  some (⟨p0.kind,p0.shape,p0.buffer,p0.starts,p0.axis,p0.amount,p0.perm,p0.kids⟩:Qh)
 else
 ZR ((⟨6,p1,0,([]:(List Int)),0,0,([]:(List Int)),([]:(List Qh))⟩:Qh),p0)>>=fun (v2:Qh) =>
 some v2
def QeL:(Qh × (List Int))→Qh→Prop:=fun x r=>match x,r with
 | (p0,p1),r0=>∀ H,PC prog env 39 ([(Qh.ex p0),(.lst ((List.map Qa) p1))].map .dat) H (.dat (Qh.ex r0)) H
theorem XO:∀ x r,Zs x=some r→QeL x r:=by
 intro x r0 hm
 unfold Zs at hm
 unfold QeL
 obtain ⟨p0,p1⟩:=x
 intro H
 refine PC_sx (ds:=[(Qh.ex p0),(.lst ((List.map Qa) p1))]) (fn:=f39) rfl ?_
 refine Qd (R_G (Qb 2 (Qe (Qd (Qd (R_G (Qb 3 ?_)))))))
 obtain ⟨v1,hx,hm⟩:=Qg hm
 have hq:=QfH _ _ hx []
 refine Qp hq ?_
 refine Qe ?_
 refine Qx hm (QH _) (fun hm=>?_) (fun hm=>?_)
 ·refine Qd (R_G (Qb 2 (Qe (Qr ?_))))
  obtain rfl:=Qu hm
  exact ⟨trivial,Qk⟩
 refine Qo (Qd (R_G (Qb 3 ?_)))
 obtain ⟨v2,hx,hm⟩:=Qg hm
 have hq:=Xy _ _ hx []
 refine Qp hq ?_
 refine Qb 1 (Qe (Qr ?_))
 obtain rfl:=Qu hm
 exact ⟨trivial,Qk⟩
def YU (x:((List QD) × Qf × Qh)):Option (Qh × Int) :=
 match x with
 | (p0,p1,p2) =>
 if p1.kind=4 then
  idx p1.kids 0>>=fun v1 =>
  Ju (p0,v1)>>=fun ((v2,v3):(QR × Int)) =>
  if v3≠0 then
   some ((⟨0,([]:(List Int)),0,([]:(List Int)),0,0,([]:(List Int)),([]:(List Qh))⟩:Qh),v3)
  else
  (if p1.fn=1 then
   some (p1.fn == 1)
  else
  some (p1.fn == 2)
  )>>=fun (v4:Bool) =>
  if v4=true then
   (if p1.fn=1 then
    Qas (v2.values,p2.shape)>>=fun ((v13,v14):(Qt × Int)) =>
    some (v13.left,v13.right,v13.shape,v13.starts,v13.axis,v13.amount,v13.perm,v14)
   else
   Qaq (v2.values,p2.shape)>>=fun ((v15,v16):(Qt × Int)) =>
   some (v15.left,v15.right,v15.shape,v15.starts,v15.axis,v15.amount,v15.perm,v16)
   )>>=fun ((v5,v6,v7,v8,v9,v10,v11,v12):((List Int) × (List Int) × (List Int) × (List Int) × Int × Int × (List Int) × Int)) =>
   if v12≠0 then
    some ((⟨0,([]:(List Int)),0,([]:(List Int)),0,0,([]:(List Int)),([]:(List Qh))⟩:Qh),v12)
   else
   Zs ((⟨p2.kind,p2.shape,p2.buffer,p2.starts,p2.axis,p2.amount,p2.perm,p2.kids⟩:Qh),v6)>>=fun (v17:Qh) =>
   ZR ((⟨2,v7,0,v8,0,0,([]:(List Int)),([]:(List Qh))⟩:Qh),v17)>>=fun (v18:Qh) =>
   some (v18,0)
  else
  if p1.fn=3 then
   (if p1.kind=3 then
    Y6 (p1.axis,p2.shape)>>=fun ((v27,v28):(Qt × Int)) =>
    some (v27.left,v27.right,v27.shape,v27.starts,v27.axis,v27.amount,v27.perm,v28)
   else
   Jh (v2.values,p1.axis,p2.shape)>>=fun ((v29,v30):(Qt × Int)) =>
   some (v29.left,v29.right,v29.shape,v29.starts,v29.axis,v29.amount,v29.perm,v30)
   )>>=fun ((v19,v20,v21,v22,v23,v24,v25,v26):((List Int) × (List Int) × (List Int) × (List Int) × Int × Int × (List Int) × Int)) =>
   (if v26=0 then
    some (decide (v23 < 0))
   else
   some false
   )>>=fun (v31:Bool) =>
   if v31=true then
    some ((⟨p2.kind,p2.shape,p2.buffer,p2.starts,p2.axis,p2.amount,p2.perm,p2.kids⟩:Qh),0)
   else
   if v26≠0 then
    some ((⟨0,([]:(List Int)),0,([]:(List Int)),0,0,([]:(List Int)),([]:(List Qh))⟩:Qh),v26)
   else
   Zs ((⟨p2.kind,p2.shape,p2.buffer,p2.starts,p2.axis,p2.amount,p2.perm,p2.kids⟩:Qh),v20)>>=fun (v32:Qh) =>
   ZR ((⟨p1.kind,v21,0,([]:(List Int)),v23,v24,([]:(List Int)),([]:(List Qh))⟩:Qh),v32)>>=fun (v33:Qh) =>
   some (v33,0)
  else
  (if p1.fn=4 then
   if p1.kind=3 then
    Qar p2.shape>>=fun (v44:Qt) =>
    some (v44.left,v44.right,v44.shape,v44.starts,v44.axis,v44.amount,v44.perm,(5:Int),v44.perm,(0:Int))
   else
   YY (v2.values,p2.shape)>>=fun ((v45,v46):(Qt × Int)) =>
   some (v45.left,v45.right,v45.shape,v45.starts,v45.axis,v45.amount,v45.perm,(5:Int),v45.perm,v46)
  else
  if p1.fn=5 then
   XH (v2.values,p2.shape)>>=fun ((v47,v48):(Qt × Int)) =>
   some (v47.left,v47.right,v47.shape,v47.starts,v47.axis,v47.amount,v47.perm,(6:Int),([]:List Int),v48)
  else
  if p1.fn=6 then
   JE p2.shape>>=fun (v49:Qt) =>
   some (v49.left,v49.right,v49.shape,v49.starts,v49.axis,v49.amount,v49.perm,(6:Int),([]:List Int),(0:Int))
  else
  some (([]:List Int),([]:List Int),([]:List Int),([]:List Int),(0:Int),(0:Int),([]:List Int),(0:Int),([]:List Int),(0:Int))
  )>>=fun ((v34,v35,v36,v37,v38,v39,v40,v41,v42,v43):((List Int) × (List Int) × (List Int) × (List Int) × Int × Int × (List Int) × Int × (List Int) × Int)) =>
  if v43≠0 then
   some ((⟨0,([]:(List Int)),0,([]:(List Int)),0,0,([]:(List Int)),([]:(List Qh))⟩:Qh),v43)
  else
  Zs ((⟨p2.kind,p2.shape,p2.buffer,p2.starts,p2.axis,p2.amount,p2.perm,p2.kids⟩:Qh),v35)>>=fun (v50:Qh) =>
  ZR ((⟨v41,v36,0,([]:(List Int)),0,0,v42,([]:(List Qh))⟩:Qh),v50)>>=fun (v51:Qh) =>
  some (v51,0)
 else
 (if p1.fn=1 then
  some (p1.fn == 1)
 else
 some (p1.fn == 2)
 )>>=fun (v52:Bool) =>
 if v52=true then
  (if p1.fn=1 then
   Qas (([]:(List Int)),p2.shape)>>=fun ((v61,v62):(Qt × Int)) =>
   some (v61.left,v61.right,v61.shape,v61.starts,v61.axis,v61.amount,v61.perm,v62)
  else
  Qaq (([]:(List Int)),p2.shape)>>=fun ((v63,v64):(Qt × Int)) =>
  some (v63.left,v63.right,v63.shape,v63.starts,v63.axis,v63.amount,v63.perm,v64)
  )>>=fun ((v53,v54,v55,v56,v57,v58,v59,v60):((List Int) × (List Int) × (List Int) × (List Int) × Int × Int × (List Int) × Int)) =>
  if v60≠0 then
   some ((⟨0,([]:(List Int)),0,([]:(List Int)),0,0,([]:(List Int)),([]:(List Qh))⟩:Qh),v60)
  else
  Zs ((⟨p2.kind,p2.shape,p2.buffer,p2.starts,p2.axis,p2.amount,p2.perm,p2.kids⟩:Qh),v54)>>=fun (v65:Qh) =>
  ZR ((⟨2,v55,0,v56,0,0,([]:(List Int)),([]:(List Qh))⟩:Qh),v65)>>=fun (v66:Qh) =>
  some (v66,0)
 else
 if p1.fn=3 then
  (if p1.kind=3 then
   Y6 (p1.axis,p2.shape)>>=fun ((v75,v76):(Qt × Int)) =>
   some (v75.left,v75.right,v75.shape,v75.starts,v75.axis,v75.amount,v75.perm,v76)
  else
  Jh (([]:(List Int)),p1.axis,p2.shape)>>=fun ((v77,v78):(Qt × Int)) =>
  some (v77.left,v77.right,v77.shape,v77.starts,v77.axis,v77.amount,v77.perm,v78)
  )>>=fun ((v67,v68,v69,v70,v71,v72,v73,v74):((List Int) × (List Int) × (List Int) × (List Int) × Int × Int × (List Int) × Int)) =>
  (if v74=0 then
   some (decide (v71 < 0))
  else
  some false
  )>>=fun (v79:Bool) =>
  if v79=true then
   some ((⟨p2.kind,p2.shape,p2.buffer,p2.starts,p2.axis,p2.amount,p2.perm,p2.kids⟩:Qh),0)
  else
  if v74≠0 then
   some ((⟨0,([]:(List Int)),0,([]:(List Int)),0,0,([]:(List Int)),([]:(List Qh))⟩:Qh),v74)
  else
  Zs ((⟨p2.kind,p2.shape,p2.buffer,p2.starts,p2.axis,p2.amount,p2.perm,p2.kids⟩:Qh),v68)>>=fun (v80:Qh) =>
  ZR ((⟨p1.kind,v69,0,([]:(List Int)),v71,v72,([]:(List Int)),([]:(List Qh))⟩:Qh),v80)>>=fun (v81:Qh) =>
  some (v81,0)
 else
 (if p1.fn=4 then
  if p1.kind=3 then
   Qar p2.shape>>=fun (v92:Qt) =>
   some (v92.left,v92.right,v92.shape,v92.starts,v92.axis,v92.amount,v92.perm,(5:Int),v92.perm,(0:Int))
  else
  YY (([]:(List Int)),p2.shape)>>=fun ((v93,v94):(Qt × Int)) =>
  some (v93.left,v93.right,v93.shape,v93.starts,v93.axis,v93.amount,v93.perm,(5:Int),v93.perm,v94)
 else
 if p1.fn=5 then
  XH (([]:(List Int)),p2.shape)>>=fun ((v95,v96):(Qt × Int)) =>
  some (v95.left,v95.right,v95.shape,v95.starts,v95.axis,v95.amount,v95.perm,(6:Int),([]:List Int),v96)
 else
 if p1.fn=6 then
  JE p2.shape>>=fun (v97:Qt) =>
  some (v97.left,v97.right,v97.shape,v97.starts,v97.axis,v97.amount,v97.perm,(6:Int),([]:List Int),(0:Int))
 else
 some (([]:List Int),([]:List Int),([]:List Int),([]:List Int),(0:Int),(0:Int),([]:List Int),(0:Int),([]:List Int),(0:Int))
 )>>=fun ((v82,v83,v84,v85,v86,v87,v88,v89,v90,v91):((List Int) × (List Int) × (List Int) × (List Int) × Int × Int × (List Int) × Int × (List Int) × Int)) =>
 if v91≠0 then
  some ((⟨0,([]:(List Int)),0,([]:(List Int)),0,0,([]:(List Int)),([]:(List Qh))⟩:Qh),v91)
 else
 Zs ((⟨p2.kind,p2.shape,p2.buffer,p2.starts,p2.axis,p2.amount,p2.perm,p2.kids⟩:Qh),v83)>>=fun (v98:Qh) =>
 ZR ((⟨v89,v84,0,([]:(List Int)),0,0,v90,([]:(List Qh))⟩:Qh),v98)>>=fun (v99:Qh) =>
 some (v99,0)
def Qfa:((List QD) × Qf × Qh)→(Qh × Int)→Prop:=fun x r=>match x,r with
 | (p0,p1,p2),(r0,r1)=>∀ H,PC prog env 37 ([(.lst ((List.map QD.toD) p0)),(Qf.ex p1),(Qh.ex p2)].map .dat) H (.tup [(.dat (Qh.ex r0)),(Qc r1)]) H
theorem Qf9:∀ x r,YU x=some r→Qfa x r:=by
 intro x r hm
 unfold YU at hm
 unfold Qfa
 obtain ⟨p0,p1,p2⟩:=x
 obtain ⟨r0,r1⟩:=r
 intro H
 refine PC_sx (ds:=[(.lst ((List.map QD.toD) p0)),(Qf.ex p1),(Qh.ex p2)]) (fn:=f37) rfl ?_
 refine Qd (R_G (Qb 4 (Qe (Qd (R_G (Qb 1 (Qe (Qd (Qd (R_G (Qb 3 ?_)))))))))))
 refine Qe ?_
 refine Qx hm (Q1 _ _) (fun hm=>?_) (fun hm=>?_)
 ·refine Qd (R_G (Qb 3 ?_))
  obtain ⟨v1,hx,hm⟩:=Qg hm
  refine QbA 6 Qf.toD p1.kids 0 v1 (es:=Qf.toDs p1.kids) (d:=(Qf.ex v1)) (Qf.toDs_eq _) hx (Qf.toD_eq v1) rfl ?_
  refine Qb 1 ?_
  obtain ⟨⟨v2,v3⟩,hx,hm⟩:=Qg hm
  have hq:=QfT _ _ hx []
  refine Qp hq ?_
  refine Qb 6 (Qe (Qd (Qd (R_G (Qb 2 (Qe ?_))))))
  refine Qx hm (ne_dec _ _) (fun hm=>?_) (fun hm=>?_)
  ·refine Qd (R_G (Qb 4 (Qe (Qr ?_))))
   obtain ⟨rfl,rfl⟩:=QU hm
   exact ⟨trivial,Qk⟩
  refine Qo (R_G (Qb 3 (Qe (Qd (R_G (Qb 1 (Qe (Qd (R_G (Qb 1 (Qe ?_)))))))))))
  refine Qd (R_G (Qb 3 (Qe (Qd (Qd (R_G (Qb 2 (Qe (Qw (Qd (Qd ?_)))))))))))
  refine R_G (Qb 2 (Qe ?_))
  obtain ⟨v4,hs,hm⟩:=Qg hm
  refine Zy (fun d=>⟨sl d 146 [(4,(.ptr 0 0)),(5,(.ptr 1 0)),(6,(.ptr 2 0)),(8,(.dat (.lst ((List.map Qa) v2.values)))),(11,(.ptr 4 0)),(12,(Qc 0)),(13,(.ptr 5 0)),(34,(Qc p1.fn)),(35,(Qs v4))],[(.box [(Qc p1.kind),(Qc p1.fn),(Qc p1.axis),(.dat (strD p1.name)),(.dat (.lst ((List.map Qa) p1.nums))),(.dat (.lst (Qf.toDs p1.kids)))]),(.box [(Qc p2.kind),(.dat (.lst ((List.map Qa) p2.shape))),(Qc p2.buffer),(.dat (.lst ((List.map Qa) p2.starts))),(Qc p2.axis),(Qc p2.amount),(.dat (.lst ((List.map Qa) p2.perm))),(.dat (.lst (Qh.toDs p2.kids)))]),(.box [(Qc 0),(.dat (.lst ((List.map Qa) []))),(Qc 0),(.dat (.lst ((List.map Qa) []))),(Qc 0),(Qc 0),(.dat (.lst ((List.map Qa) []))),(.dat (.lst (Qh.toDs [])))]),(.box [(.dat (.lst ((List.map Qa) v2.values))),(Qs v2.scalar)]),(.box [(.dat (.lst ((List.map Qa) []))),(.dat (.lst ((List.map Qa) []))),(.dat (.lst ((List.map Qa) []))),(.dat (.lst ((List.map Qa) []))),(Qc 0),(Qc 0),(.dat (.lst ((List.map Qa) [])))]),(.box [(Qc 0),(.dat (.lst ((List.map Qa) []))),(Qc 0),(.dat (.lst ((List.map Qa) []))),(Qc 0),(Qc 0),(.dat (.lst ((List.map Qa) []))),(.dat (.lst (Qh.toDs [])))])]⟩) ?_ (fun d=>?_)
  ·replace hm:=hs
   clear hs
   refine Qx hm (Q1 _ _) (fun hm=>?_) (fun hm=>?_)
   ·refine Qo ?_
    obtain rfl:=Qu hm
    exact Qm
   refine R_G (Qb 2 (Qe ?_))
   obtain rfl:=Qu hm
   exact Qm
  clear hs
  refine Qx hm (QH _) (fun hm=>?_) (fun hm=>?_)
  ·refine Qd (R_G (Qb 2 (Qe (Qd (Qd (R_G (Qb 3 (Qe ?_))))))))
   obtain ⟨⟨v5,v6,v7,v8,v9,v10,v11,v12⟩,hs,hm⟩:=Qg hm
   refine Zy (fun d=>⟨sl d 146 [(5,(.ptr 1 0)),(6,(.ptr 2 0)),(11,(.ptr 4 0)),(12,(Qc v12)),(13,(.ptr 5 0))],[(.box [(Qc p1.kind),(Qc p1.fn),(Qc p1.axis),(.dat (strD p1.name)),(.dat (.lst ((List.map Qa) p1.nums))),(.dat (.lst (Qf.toDs p1.kids)))]),(.box [(Qc p2.kind),(.dat (.lst ((List.map Qa) p2.shape))),(Qc p2.buffer),(.dat (.lst ((List.map Qa) p2.starts))),(Qc p2.axis),(Qc p2.amount),(.dat (.lst ((List.map Qa) p2.perm))),(.dat (.lst (Qh.toDs p2.kids)))]),(.box [(Qc 0),(.dat (.lst ((List.map Qa) []))),(Qc 0),(.dat (.lst ((List.map Qa) []))),(Qc 0),(Qc 0),(.dat (.lst ((List.map Qa) []))),(.dat (.lst (Qh.toDs [])))]),(.box [(.dat (.lst ((List.map Qa) v2.values))),(Qs v2.scalar)]),(.box [(.dat (.lst ((List.map Qa) v5))),(.dat (.lst ((List.map Qa) v6))),(.dat (.lst ((List.map Qa) v7))),(.dat (.lst ((List.map Qa) v8))),(Qc v9),(Qc v10),(.dat (.lst ((List.map Qa) v11)))]),(.box [(Qc 2),(.dat (.lst ((List.map Qa) []))),(Qc 0),(.dat (.lst ((List.map Qa) []))),(Qc 0),(Qc 0),(.dat (.lst ((List.map Qa) []))),(.dat (.lst (Qh.toDs [])))])]⟩) ?_ (fun d=>?_)
   ·replace hm:=hs
    clear hs
    refine Qx hm (Q1 _ _) (fun hm=>?_) (fun hm=>?_)
    ·refine R_G (Qb 3 ?_)
     obtain ⟨⟨v13,v14⟩,hx,hm⟩:=Qg hm
     have hq:=QeU _ _ hx []
     refine Qp hq ?_
     refine Qb 5 (Qe ?_)
     obtain ⟨rfl,rfl,rfl,rfl,rfl,rfl,rfl,rfl⟩:=Qf6 hm
     exact Qm
    refine R_G (Qb 3 ?_)
    obtain ⟨⟨v15,v16⟩,hx,hm⟩:=Qg hm
    have hq:=QeS _ _ hx []
    refine Qp hq ?_
    refine Qb 5 (Qe ?_)
    obtain ⟨rfl,rfl,rfl,rfl,rfl,rfl,rfl,rfl⟩:=Qf6 hm
    exact Qm
   clear hs
   refine R_G (Qb 4 (Qe (Qd (R_G (Qb 4 (Qe (Qd (Qd (R_G (Qb 2 (Qe ?_)))))))))))
   refine Qx hm (ne_dec _ _) (fun hm=>?_) (fun hm=>?_)
   ·refine Qd (R_G (Qb 4 (Qe (Qr ?_))))
    obtain ⟨rfl,rfl⟩:=QU hm
    exact ⟨trivial,Qk⟩
   refine Qo (Qd ?_)
   refine QaK ?_
   refine Qb 4 ?_
   obtain ⟨v17,hx,hm⟩:=Qg hm
   have hq:=XO _ _ hx []
   refine Qp hq ?_
   obtain ⟨v18,hx,hm⟩:=Qg hm
   have hq:=Xy _ _ hx []
   refine Qp hq ?_
   refine Qb 2 ?_
   refine Qe ⟨by kernel_rfl,?_⟩
   refine Qr ?_
   obtain ⟨rfl,rfl⟩:=QU hm
   exact ⟨trivial,Qk⟩
  refine Qd (R_G (Qb 2 (Qe ?_)))
  refine Qx hm (Q1 _ _) (fun hm=>?_) (fun hm=>?_)
  ·refine Qd (R_G (Qb 4 (Qe (Qd (Qd (R_G (Qb 3 (Qe ?_))))))))
   obtain ⟨⟨v19,v20,v21,v22,v23,v24,v25,v26⟩,hs,hm⟩:=Qg hm
   refine Zy (fun d=>⟨sl d 146 [(5,(.ptr 1 0)),(6,(.ptr 2 0)),(11,(.ptr 4 0)),(12,(Qc v26)),(13,(.ptr 5 0))],[(.box [(Qc p1.kind),(Qc p1.fn),(Qc p1.axis),(.dat (strD p1.name)),(.dat (.lst ((List.map Qa) p1.nums))),(.dat (.lst (Qf.toDs p1.kids)))]),(.box [(Qc p2.kind),(.dat (.lst ((List.map Qa) p2.shape))),(Qc p2.buffer),(.dat (.lst ((List.map Qa) p2.starts))),(Qc p2.axis),(Qc p2.amount),(.dat (.lst ((List.map Qa) p2.perm))),(.dat (.lst (Qh.toDs p2.kids)))]),(.box [(Qc 0),(.dat (.lst ((List.map Qa) []))),(Qc 0),(.dat (.lst ((List.map Qa) []))),(Qc 0),(Qc 0),(.dat (.lst ((List.map Qa) []))),(.dat (.lst (Qh.toDs [])))]),(.box [(.dat (.lst ((List.map Qa) v2.values))),(Qs v2.scalar)]),(.box [(.dat (.lst ((List.map Qa) v19))),(.dat (.lst ((List.map Qa) v20))),(.dat (.lst ((List.map Qa) v21))),(.dat (.lst ((List.map Qa) v22))),(Qc v23),(Qc v24),(.dat (.lst ((List.map Qa) v25)))]),(.box [(Qc p1.kind),(.dat (.lst ((List.map Qa) []))),(Qc 0),(.dat (.lst ((List.map Qa) []))),(Qc 0),(Qc 0),(.dat (.lst ((List.map Qa) []))),(.dat (.lst (Qh.toDs [])))])]⟩) ?_ (fun d=>?_)
   ·replace hm:=hs
    clear hs
    refine Qx hm (Q1 _ _) (fun hm=>?_) (fun hm=>?_)
    ·refine R_G (Qb 4 ?_)
     obtain ⟨⟨v27,v28⟩,hx,hm⟩:=Qg hm
     have hq:=QbK _ _ hx []
     refine Qp hq ?_
     refine Qb 5 (Qe ?_)
     obtain ⟨rfl,rfl,rfl,rfl,rfl,rfl,rfl,rfl⟩:=Qf6 hm
     exact Qm
    refine R_G (Qb 5 ?_)
    obtain ⟨⟨v29,v30⟩,hx,hm⟩:=Qg hm
    have hq:=QdQ _ _ hx []
    refine Qp hq ?_
    refine Qb 5 (Qe ?_)
    obtain ⟨rfl,rfl,rfl,rfl,rfl,rfl,rfl,rfl⟩:=Qf6 hm
    exact Qm
   clear hs
   refine Qd (Qd ?_)
   obtain ⟨v31,hs,hm⟩:=Qg hm
   refine Zy (fun d=>⟨sl d 146 [(5,(.ptr 1 0)),(6,(.ptr 2 0)),(11,(.ptr 4 0)),(12,(Qc v26)),(13,(.ptr 5 0)),(90,(Qs v31))],[(.box [(Qc p1.kind),(Qc p1.fn),(Qc p1.axis),(.dat (strD p1.name)),(.dat (.lst ((List.map Qa) p1.nums))),(.dat (.lst (Qf.toDs p1.kids)))]),(.box [(Qc p2.kind),(.dat (.lst ((List.map Qa) p2.shape))),(Qc p2.buffer),(.dat (.lst ((List.map Qa) p2.starts))),(Qc p2.axis),(Qc p2.amount),(.dat (.lst ((List.map Qa) p2.perm))),(.dat (.lst (Qh.toDs p2.kids)))]),(.box [(Qc 0),(.dat (.lst ((List.map Qa) []))),(Qc 0),(.dat (.lst ((List.map Qa) []))),(Qc 0),(Qc 0),(.dat (.lst ((List.map Qa) []))),(.dat (.lst (Qh.toDs [])))]),(.box [(.dat (.lst ((List.map Qa) v2.values))),(Qs v2.scalar)]),(.box [(.dat (.lst ((List.map Qa) v19))),(.dat (.lst ((List.map Qa) v20))),(.dat (.lst ((List.map Qa) v21))),(.dat (.lst ((List.map Qa) v22))),(Qc v23),(Qc v24),(.dat (.lst ((List.map Qa) v25)))]),(.box [(Qc p1.kind),(.dat (.lst ((List.map Qa) []))),(Qc 0),(.dat (.lst ((List.map Qa) []))),(Qc 0),(Qc 0),(.dat (.lst ((List.map Qa) []))),(.dat (.lst (Qh.toDs [])))])]⟩) ?_ (fun d=>?_)
   ·replace hm:=hs
    clear hs
    refine R_G (Qb 3 ?_)
    refine QA 86 hm (Q1 _ _) (fun hm=>?_) (fun hm=>?_)
    ·refine Qb 4 (Qe ?_)
     obtain rfl:=Qu hm
     exact Qm
    refine Qb 4 (Qe ?_)
    obtain rfl:=Qu hm
    exact Qm
   clear hs
   refine Qx hm (QH _) (fun hm=>?_) (fun hm=>?_)
   ·refine Qd (R_G (Qb 3 (Qe (Qr ?_))))
    obtain ⟨rfl,rfl⟩:=QU hm
    exact ⟨trivial,Qk⟩
   refine Qo (Qd (R_G (Qb 4 (Qe (R_G (Qb 4 (Qe (Qd (R_G (Qb 4 (Qe ?_)))))))))))
   refine Qd (Qd (R_G (Qb 2 (Qe ?_))))
   refine Qx hm (ne_dec _ _) (fun hm=>?_) (fun hm=>?_)
   ·refine Qd (R_G (Qb 4 (Qe (Qr ?_))))
    obtain ⟨rfl,rfl⟩:=QU hm
    exact ⟨trivial,Qk⟩
   refine Qo (Qd ?_)
   refine QaK ?_
   refine Qb 4 ?_
   obtain ⟨v32,hx,hm⟩:=Qg hm
   have hq:=XO _ _ hx []
   refine Qp hq ?_
   obtain ⟨v33,hx,hm⟩:=Qg hm
   have hq:=Xy _ _ hx []
   refine Qp hq ?_
   refine Qb 2 ?_
   refine Qe ⟨by kernel_rfl,?_⟩
   refine Qr ?_
   obtain ⟨rfl,rfl⟩:=QU hm
   exact ⟨trivial,Qk⟩
  refine Qd (R_G (Qb 2 (Qe ?_)))
  obtain ⟨⟨v34,v35,v36,v37,v38,v39,v40,v41,v42,v43⟩,hs,hm⟩:=Qg hm
  refine Zy (fun d=>⟨sl d 146 [(5,(.ptr 1 0)),(6,(.ptr 2 0)),(11,(.ptr 4 0)),(12,(Qc v43)),(13,(.ptr 5 0))],[(.box [(Qc p1.kind),(Qc p1.fn),(Qc p1.axis),(.dat (strD p1.name)),(.dat (.lst ((List.map Qa) p1.nums))),(.dat (.lst (Qf.toDs p1.kids)))]),(.box [(Qc p2.kind),(.dat (.lst ((List.map Qa) p2.shape))),(Qc p2.buffer),(.dat (.lst ((List.map Qa) p2.starts))),(Qc p2.axis),(Qc p2.amount),(.dat (.lst ((List.map Qa) p2.perm))),(.dat (.lst (Qh.toDs p2.kids)))]),(.box [(Qc 0),(.dat (.lst ((List.map Qa) []))),(Qc 0),(.dat (.lst ((List.map Qa) []))),(Qc 0),(Qc 0),(.dat (.lst ((List.map Qa) []))),(.dat (.lst (Qh.toDs [])))]),(.box [(.dat (.lst ((List.map Qa) v2.values))),(Qs v2.scalar)]),(.box [(.dat (.lst ((List.map Qa) v34))),(.dat (.lst ((List.map Qa) v35))),(.dat (.lst ((List.map Qa) v36))),(.dat (.lst ((List.map Qa) v37))),(Qc v38),(Qc v39),(.dat (.lst ((List.map Qa) v40)))]),(.box [(Qc v41),(.dat (.lst ((List.map Qa) []))),(Qc 0),(.dat (.lst ((List.map Qa) []))),(Qc 0),(Qc 0),(.dat (.lst ((List.map Qa) v42))),(.dat (.lst (Qh.toDs [])))])]⟩) ?_ (fun d=>?_)
  ·replace hm:=hs
   clear hs
   refine Qx hm (Q1 _ _) (fun hm=>?_) (fun hm=>?_)
   ·refine Qd (R_G (Qb 2 (Qe (Qd (Qd (R_G (Qb 3 (Qe ?_))))))))
    refine Qx hm (Q1 _ _) (fun hm=>?_) (fun hm=>?_)
    ·refine R_G (Qb 2 ?_)
     obtain ⟨v44,hx,hm⟩:=Qg hm
     have hq:=QeT _ _ hx []
     refine Qp hq ?_
     refine Qb 1 (Qe (R_G (Qb 4 (Qe ?_))))
     obtain ⟨rfl,rfl,rfl,rfl,rfl,rfl,rfl,rfl,rfl,rfl⟩:=Qen hm
     exact Qm
    refine R_G (Qb 3 ?_)
    obtain ⟨⟨v45,v46⟩,hx,hm⟩:=Qg hm
    have hq:=Qcs _ _ hx []
    refine Qp hq ?_
    refine Qb 5 (Qe (R_G (Qb 4 (Qe ?_))))
    obtain ⟨rfl,rfl,rfl,rfl,rfl,rfl,rfl,rfl,rfl,rfl⟩:=Qen hm
    exact Qm
   refine Qd (R_G (Qb 2 (Qe ?_)))
   refine Qx hm (Q1 _ _) (fun hm=>?_) (fun hm=>?_)
   ·refine Qd (R_G (Qb 2 (Qe (R_G (Qb 3 ?_)))))
    obtain ⟨⟨v47,v48⟩,hx,hm⟩:=Qg hm
    have hq:=Qdk _ _ hx []
    refine Qp hq ?_
    refine Qb 5 (Qe ?_)
    obtain ⟨rfl,rfl,rfl,rfl,rfl,rfl,rfl,rfl,rfl,rfl⟩:=Qen hm
    exact Qm
   refine Qd (R_G (Qb 2 (Qe ?_)))
   refine Qx hm (Q1 _ _) (fun hm=>?_) (fun hm=>?_)
   ·refine Qd (R_G (Qb 2 (Qe (R_G (Qb 2 ?_)))))
    obtain ⟨v49,hx,hm⟩:=Qg hm
    have hq:=Qer _ _ hx []
    refine Qp hq ?_
    refine Qb 1 (Qe ?_)
    obtain ⟨rfl,rfl,rfl,rfl,rfl,rfl,rfl,rfl,rfl,rfl⟩:=Qen hm
    exact Qm
   refine Qo ?_
   obtain ⟨rfl,rfl,rfl,rfl,rfl,rfl,rfl,rfl,rfl,rfl⟩:=Qen hm
   exact Qm
  clear hs
  refine Qd (R_G (Qb 4 (Qe (Qd (Qd (R_G (Qb 2 (Qe ?_))))))))
  refine Qx hm (ne_dec _ _) (fun hm=>?_) (fun hm=>?_)
  ·refine Qd (R_G (Qb 4 (Qe (Qr ?_))))
   obtain ⟨rfl,rfl⟩:=QU hm
   exact ⟨trivial,Qk⟩
  refine Qo (Qd ?_)
  refine QaK ?_
  refine Qb 4 ?_
  obtain ⟨v50,hx,hm⟩:=Qg hm
  have hq:=XO _ _ hx []
  refine Qp hq ?_
  obtain ⟨v51,hx,hm⟩:=Qg hm
  have hq:=Xy _ _ hx []
  refine Qp hq ?_
  refine Qb 2 ?_
  refine Qe ⟨by kernel_rfl,?_⟩
  refine Qr ?_
  obtain ⟨rfl,rfl⟩:=QU hm
  exact ⟨trivial,Qk⟩
 refine Qo (Qd (R_G (Qb 1 (Qe (Qd (R_G (Qb 1 (Qe (Qd (R_G (Qb 3 ?_)))))))))))
 refine Qe (Qd (Qd (R_G (Qb 2 (Qe (Qw (Qd (Qd (R_G (Qb 2 (Qe ?_)))))))))))
 obtain ⟨v52,hs,hm⟩:=Qg hm
 refine Zy (fun d=>⟨sl d 146 [(4,(.ptr 0 0)),(5,(.ptr 1 0)),(6,(.ptr 2 0)),(8,(.dat (.lst ((List.map Qa) [])))),(11,(.ptr 3 0)),(12,(Qc 0)),(13,(.ptr 4 0)),(34,(Qc p1.fn)),(35,(Qs v52))],[(.box [(Qc p1.kind),(Qc p1.fn),(Qc p1.axis),(.dat (strD p1.name)),(.dat (.lst ((List.map Qa) p1.nums))),(.dat (.lst (Qf.toDs p1.kids)))]),(.box [(Qc p2.kind),(.dat (.lst ((List.map Qa) p2.shape))),(Qc p2.buffer),(.dat (.lst ((List.map Qa) p2.starts))),(Qc p2.axis),(Qc p2.amount),(.dat (.lst ((List.map Qa) p2.perm))),(.dat (.lst (Qh.toDs p2.kids)))]),(.box [(Qc 0),(.dat (.lst ((List.map Qa) []))),(Qc 0),(.dat (.lst ((List.map Qa) []))),(Qc 0),(Qc 0),(.dat (.lst ((List.map Qa) []))),(.dat (.lst (Qh.toDs [])))]),(.box [(.dat (.lst ((List.map Qa) []))),(.dat (.lst ((List.map Qa) []))),(.dat (.lst ((List.map Qa) []))),(.dat (.lst ((List.map Qa) []))),(Qc 0),(Qc 0),(.dat (.lst ((List.map Qa) [])))]),(.box [(Qc 0),(.dat (.lst ((List.map Qa) []))),(Qc 0),(.dat (.lst ((List.map Qa) []))),(Qc 0),(Qc 0),(.dat (.lst ((List.map Qa) []))),(.dat (.lst (Qh.toDs [])))])]⟩) ?_ (fun d=>?_)
 ·replace hm:=hs
  clear hs
  refine Qx hm (Q1 _ _) (fun hm=>?_) (fun hm=>?_)
  ·refine Qo ?_
   obtain rfl:=Qu hm
   exact Qm
  refine R_G (Qb 2 (Qe ?_))
  obtain rfl:=Qu hm
  exact Qm
 clear hs
 refine Qx hm (QH _) (fun hm=>?_) (fun hm=>?_)
 ·refine Qd (R_G (Qb 2 (Qe (Qd (Qd (R_G (Qb 3 (Qe ?_))))))))
  obtain ⟨⟨v53,v54,v55,v56,v57,v58,v59,v60⟩,hs,hm⟩:=Qg hm
  refine Zy (fun d=>⟨sl d 146 [(5,(.ptr 1 0)),(6,(.ptr 2 0)),(11,(.ptr 3 0)),(12,(Qc v60)),(13,(.ptr 4 0))],[(.box [(Qc p1.kind),(Qc p1.fn),(Qc p1.axis),(.dat (strD p1.name)),(.dat (.lst ((List.map Qa) p1.nums))),(.dat (.lst (Qf.toDs p1.kids)))]),(.box [(Qc p2.kind),(.dat (.lst ((List.map Qa) p2.shape))),(Qc p2.buffer),(.dat (.lst ((List.map Qa) p2.starts))),(Qc p2.axis),(Qc p2.amount),(.dat (.lst ((List.map Qa) p2.perm))),(.dat (.lst (Qh.toDs p2.kids)))]),(.box [(Qc 0),(.dat (.lst ((List.map Qa) []))),(Qc 0),(.dat (.lst ((List.map Qa) []))),(Qc 0),(Qc 0),(.dat (.lst ((List.map Qa) []))),(.dat (.lst (Qh.toDs [])))]),(.box [(.dat (.lst ((List.map Qa) v53))),(.dat (.lst ((List.map Qa) v54))),(.dat (.lst ((List.map Qa) v55))),(.dat (.lst ((List.map Qa) v56))),(Qc v57),(Qc v58),(.dat (.lst ((List.map Qa) v59)))]),(.box [(Qc 2),(.dat (.lst ((List.map Qa) []))),(Qc 0),(.dat (.lst ((List.map Qa) []))),(Qc 0),(Qc 0),(.dat (.lst ((List.map Qa) []))),(.dat (.lst (Qh.toDs [])))])]⟩) ?_ (fun d=>?_)
  ·replace hm:=hs
   clear hs
   refine Qx hm (Q1 _ _) (fun hm=>?_) (fun hm=>?_)
   ·refine R_G (Qb 3 ?_)
    obtain ⟨⟨v61,v62⟩,hx,hm⟩:=Qg hm
    have hq:=QeU _ _ hx []
    refine Qp hq ?_
    refine Qb 5 (Qe ?_)
    obtain ⟨rfl,rfl,rfl,rfl,rfl,rfl,rfl,rfl⟩:=Qf6 hm
    exact Qm
   refine R_G (Qb 3 ?_)
   obtain ⟨⟨v63,v64⟩,hx,hm⟩:=Qg hm
   have hq:=QeS _ _ hx []
   refine Qp hq ?_
   refine Qb 5 (Qe ?_)
   obtain ⟨rfl,rfl,rfl,rfl,rfl,rfl,rfl,rfl⟩:=Qf6 hm
   exact Qm
  clear hs
  refine R_G (Qb 4 (Qe (Qd (R_G (Qb 4 (Qe (Qd (Qd (R_G (Qb 2 (Qe ?_)))))))))))
  refine Qx hm (ne_dec _ _) (fun hm=>?_) (fun hm=>?_)
  ·refine Qd (R_G (Qb 4 (Qe (Qr ?_))))
   obtain ⟨rfl,rfl⟩:=QU hm
   exact ⟨trivial,Qk⟩
  refine Qo (Qd ?_)
  refine QaK ?_
  refine Qb 4 ?_
  obtain ⟨v65,hx,hm⟩:=Qg hm
  have hq:=XO _ _ hx []
  refine Qp hq ?_
  obtain ⟨v66,hx,hm⟩:=Qg hm
  have hq:=Xy _ _ hx []
  refine Qp hq ?_
  refine Qb 2 ?_
  refine Qe ⟨by kernel_rfl,?_⟩
  refine Qr ?_
  obtain ⟨rfl,rfl⟩:=QU hm
  exact ⟨trivial,Qk⟩
 refine Qd (R_G (Qb 2 (Qe ?_)))
 refine Qx hm (Q1 _ _) (fun hm=>?_) (fun hm=>?_)
 ·refine Qd (R_G (Qb 4 (Qe (Qd (Qd (R_G (Qb 3 (Qe ?_))))))))
  obtain ⟨⟨v67,v68,v69,v70,v71,v72,v73,v74⟩,hs,hm⟩:=Qg hm
  refine Zy (fun d=>⟨sl d 146 [(5,(.ptr 1 0)),(6,(.ptr 2 0)),(11,(.ptr 3 0)),(12,(Qc v74)),(13,(.ptr 4 0))],[(.box [(Qc p1.kind),(Qc p1.fn),(Qc p1.axis),(.dat (strD p1.name)),(.dat (.lst ((List.map Qa) p1.nums))),(.dat (.lst (Qf.toDs p1.kids)))]),(.box [(Qc p2.kind),(.dat (.lst ((List.map Qa) p2.shape))),(Qc p2.buffer),(.dat (.lst ((List.map Qa) p2.starts))),(Qc p2.axis),(Qc p2.amount),(.dat (.lst ((List.map Qa) p2.perm))),(.dat (.lst (Qh.toDs p2.kids)))]),(.box [(Qc 0),(.dat (.lst ((List.map Qa) []))),(Qc 0),(.dat (.lst ((List.map Qa) []))),(Qc 0),(Qc 0),(.dat (.lst ((List.map Qa) []))),(.dat (.lst (Qh.toDs [])))]),(.box [(.dat (.lst ((List.map Qa) v67))),(.dat (.lst ((List.map Qa) v68))),(.dat (.lst ((List.map Qa) v69))),(.dat (.lst ((List.map Qa) v70))),(Qc v71),(Qc v72),(.dat (.lst ((List.map Qa) v73)))]),(.box [(Qc p1.kind),(.dat (.lst ((List.map Qa) []))),(Qc 0),(.dat (.lst ((List.map Qa) []))),(Qc 0),(Qc 0),(.dat (.lst ((List.map Qa) []))),(.dat (.lst (Qh.toDs [])))])]⟩) ?_ (fun d=>?_)
  ·replace hm:=hs
   clear hs
   refine Qx hm (Q1 _ _) (fun hm=>?_) (fun hm=>?_)
   ·refine R_G (Qb 4 ?_)
    obtain ⟨⟨v75,v76⟩,hx,hm⟩:=Qg hm
    have hq:=QbK _ _ hx []
    refine Qp hq ?_
    refine Qb 5 (Qe ?_)
    obtain ⟨rfl,rfl,rfl,rfl,rfl,rfl,rfl,rfl⟩:=Qf6 hm
    exact Qm
   refine R_G (Qb 5 ?_)
   obtain ⟨⟨v77,v78⟩,hx,hm⟩:=Qg hm
   have hq:=QdQ _ _ hx []
   refine Qp hq ?_
   refine Qb 5 (Qe ?_)
   obtain ⟨rfl,rfl,rfl,rfl,rfl,rfl,rfl,rfl⟩:=Qf6 hm
   exact Qm
  clear hs
  refine Qd (Qd ?_)
  obtain ⟨v79,hs,hm⟩:=Qg hm
  refine Zy (fun d=>⟨sl d 146 [(5,(.ptr 1 0)),(6,(.ptr 2 0)),(11,(.ptr 3 0)),(12,(Qc v74)),(13,(.ptr 4 0)),(90,(Qs v79))],[(.box [(Qc p1.kind),(Qc p1.fn),(Qc p1.axis),(.dat (strD p1.name)),(.dat (.lst ((List.map Qa) p1.nums))),(.dat (.lst (Qf.toDs p1.kids)))]),(.box [(Qc p2.kind),(.dat (.lst ((List.map Qa) p2.shape))),(Qc p2.buffer),(.dat (.lst ((List.map Qa) p2.starts))),(Qc p2.axis),(Qc p2.amount),(.dat (.lst ((List.map Qa) p2.perm))),(.dat (.lst (Qh.toDs p2.kids)))]),(.box [(Qc 0),(.dat (.lst ((List.map Qa) []))),(Qc 0),(.dat (.lst ((List.map Qa) []))),(Qc 0),(Qc 0),(.dat (.lst ((List.map Qa) []))),(.dat (.lst (Qh.toDs [])))]),(.box [(.dat (.lst ((List.map Qa) v67))),(.dat (.lst ((List.map Qa) v68))),(.dat (.lst ((List.map Qa) v69))),(.dat (.lst ((List.map Qa) v70))),(Qc v71),(Qc v72),(.dat (.lst ((List.map Qa) v73)))]),(.box [(Qc p1.kind),(.dat (.lst ((List.map Qa) []))),(Qc 0),(.dat (.lst ((List.map Qa) []))),(Qc 0),(Qc 0),(.dat (.lst ((List.map Qa) []))),(.dat (.lst (Qh.toDs [])))])]⟩) ?_ (fun d=>?_)
  ·replace hm:=hs
   clear hs
   refine R_G (Qb 3 ?_)
   refine QA 86 hm (Q1 _ _) (fun hm=>?_) (fun hm=>?_)
   ·refine Qb 4 (Qe ?_)
    obtain rfl:=Qu hm
    exact Qm
   refine Qb 4 (Qe ?_)
   obtain rfl:=Qu hm
   exact Qm
  clear hs
  refine Qx hm (QH _) (fun hm=>?_) (fun hm=>?_)
  ·refine Qd (R_G (Qb 3 (Qe (Qr ?_))))
   obtain ⟨rfl,rfl⟩:=QU hm
   exact ⟨trivial,Qk⟩
  refine Qo (Qd (R_G (Qb 4 (Qe (R_G (Qb 4 (Qe (Qd (R_G (Qb 4 (Qe ?_)))))))))))
  refine Qd (Qd (R_G (Qb 2 (Qe ?_))))
  refine Qx hm (ne_dec _ _) (fun hm=>?_) (fun hm=>?_)
  ·refine Qd (R_G (Qb 4 (Qe (Qr ?_))))
   obtain ⟨rfl,rfl⟩:=QU hm
   exact ⟨trivial,Qk⟩
  refine Qo (Qd ?_)
  refine QaK ?_
  refine Qb 4 ?_
  obtain ⟨v80,hx,hm⟩:=Qg hm
  have hq:=XO _ _ hx []
  refine Qp hq ?_
  obtain ⟨v81,hx,hm⟩:=Qg hm
  have hq:=Xy _ _ hx []
  refine Qp hq ?_
  refine Qb 2 ?_
  refine Qe ⟨by kernel_rfl,?_⟩
  refine Qr ?_
  obtain ⟨rfl,rfl⟩:=QU hm
  exact ⟨trivial,Qk⟩
 refine Qd (R_G (Qb 2 (Qe ?_)))
 obtain ⟨⟨v82,v83,v84,v85,v86,v87,v88,v89,v90,v91⟩,hs,hm⟩:=Qg hm
 refine Zy (fun d=>⟨sl d 146 [(5,(.ptr 1 0)),(6,(.ptr 2 0)),(11,(.ptr 3 0)),(12,(Qc v91)),(13,(.ptr 4 0))],[(.box [(Qc p1.kind),(Qc p1.fn),(Qc p1.axis),(.dat (strD p1.name)),(.dat (.lst ((List.map Qa) p1.nums))),(.dat (.lst (Qf.toDs p1.kids)))]),(.box [(Qc p2.kind),(.dat (.lst ((List.map Qa) p2.shape))),(Qc p2.buffer),(.dat (.lst ((List.map Qa) p2.starts))),(Qc p2.axis),(Qc p2.amount),(.dat (.lst ((List.map Qa) p2.perm))),(.dat (.lst (Qh.toDs p2.kids)))]),(.box [(Qc 0),(.dat (.lst ((List.map Qa) []))),(Qc 0),(.dat (.lst ((List.map Qa) []))),(Qc 0),(Qc 0),(.dat (.lst ((List.map Qa) []))),(.dat (.lst (Qh.toDs [])))]),(.box [(.dat (.lst ((List.map Qa) v82))),(.dat (.lst ((List.map Qa) v83))),(.dat (.lst ((List.map Qa) v84))),(.dat (.lst ((List.map Qa) v85))),(Qc v86),(Qc v87),(.dat (.lst ((List.map Qa) v88)))]),(.box [(Qc v89),(.dat (.lst ((List.map Qa) []))),(Qc 0),(.dat (.lst ((List.map Qa) []))),(Qc 0),(Qc 0),(.dat (.lst ((List.map Qa) v90))),(.dat (.lst (Qh.toDs [])))])]⟩) ?_ (fun d=>?_)
 ·replace hm:=hs
  clear hs
  refine Qx hm (Q1 _ _) (fun hm=>?_) (fun hm=>?_)
  ·refine Qd (R_G (Qb 2 (Qe (Qd (Qd (R_G (Qb 3 (Qe ?_))))))))
   refine Qx hm (Q1 _ _) (fun hm=>?_) (fun hm=>?_)
   ·refine R_G (Qb 2 ?_)
    obtain ⟨v92,hx,hm⟩:=Qg hm
    have hq:=QeT _ _ hx []
    refine Qp hq ?_
    refine Qb 1 (Qe (R_G (Qb 4 (Qe ?_))))
    obtain ⟨rfl,rfl,rfl,rfl,rfl,rfl,rfl,rfl,rfl,rfl⟩:=Qen hm
    exact Qm
   refine R_G (Qb 3 ?_)
   obtain ⟨⟨v93,v94⟩,hx,hm⟩:=Qg hm
   have hq:=Qcs _ _ hx []
   refine Qp hq ?_
   refine Qb 5 (Qe (R_G (Qb 4 (Qe ?_))))
   obtain ⟨rfl,rfl,rfl,rfl,rfl,rfl,rfl,rfl,rfl,rfl⟩:=Qen hm
   exact Qm
  refine Qd (R_G (Qb 2 (Qe ?_)))
  refine Qx hm (Q1 _ _) (fun hm=>?_) (fun hm=>?_)
  ·refine Qd (R_G (Qb 2 (Qe (R_G (Qb 3 ?_)))))
   obtain ⟨⟨v95,v96⟩,hx,hm⟩:=Qg hm
   have hq:=Qdk _ _ hx []
   refine Qp hq ?_
   refine Qb 5 (Qe ?_)
   obtain ⟨rfl,rfl,rfl,rfl,rfl,rfl,rfl,rfl,rfl,rfl⟩:=Qen hm
   exact Qm
  refine Qd (R_G (Qb 2 (Qe ?_)))
  refine Qx hm (Q1 _ _) (fun hm=>?_) (fun hm=>?_)
  ·refine Qd (R_G (Qb 2 (Qe (R_G (Qb 2 ?_)))))
   obtain ⟨v97,hx,hm⟩:=Qg hm
   have hq:=Qer _ _ hx []
   refine Qp hq ?_
   refine Qb 1 (Qe ?_)
   obtain ⟨rfl,rfl,rfl,rfl,rfl,rfl,rfl,rfl,rfl,rfl⟩:=Qen hm
   exact Qm
  refine Qo ?_
  obtain ⟨rfl,rfl,rfl,rfl,rfl,rfl,rfl,rfl,rfl,rfl⟩:=Qen hm
  exact Qm
 clear hs
 refine Qd (R_G (Qb 4 (Qe (Qd (Qd (R_G (Qb 2 (Qe ?_))))))))
 refine Qx hm (ne_dec _ _) (fun hm=>?_) (fun hm=>?_)
 ·refine Qd (R_G (Qb 4 (Qe (Qr ?_))))
  obtain ⟨rfl,rfl⟩:=QU hm
  exact ⟨trivial,Qk⟩
 refine Qo (Qd ?_)
 refine QaK ?_
 refine Qb 4 ?_
 obtain ⟨v98,hx,hm⟩:=Qg hm
 have hq:=XO _ _ hx []
 refine Qp hq ?_
 obtain ⟨v99,hx,hm⟩:=Qg hm
 have hq:=Xy _ _ hx []
 refine Qp hq ?_
 refine Qb 2 ?_
 refine Qe ⟨by kernel_rfl,?_⟩
 refine Qr ?_
 obtain ⟨rfl,rfl⟩:=QU hm
 exact ⟨trivial,Qk⟩
def Zf (x:((List Int) × Int × Int × (List Int) × Int)):Option ((List Int)) :=
 match x with
 | (p0,p1,p2,v201,v202) =>
 if v202≤(p0.length:Int) then
  (if v202=p1 then
   app 8 v201 ([p2]:List Int)>>=fun v603 =>
   some v603
  else
  some v201
  )>>=fun (v602:(List Int)) =>
  if v202 < (p0.length:Int) then
   idx p0 v202>>=fun v604 =>
   app 8 v602 ([v604]:List Int)>>=fun v605 =>
   Zf (p0,p1,p2,v605,(W (v202+1)))
  else
  Zf (p0,p1,p2,v602,(W (v202+1)))
 else
 some v201
 partial_fixpoint
def Qcl:((List Int) × Int × Int × (List Int) × Int)→(List Int)→Prop:=fun x r=>match x with
 | (p0,p1,p2,v201,v202)=>∀ st,prune 1 ((Qy (QN [1,1,0,1,0,0] (QP f78))).bind (env.hint 78).keepAt) st=⟨kp 34 [(0,(.dat (.lst ((List.map Qa) p0)))),(1,(Qc p1)),(2,(Qc p2)),(7,(.vec 0 ((List.map Qa) v201))),(8,(Qc v202))],[(.tok 3 v201.length)]⟩ →
  RL prog env (env.hint 78) true (QN [1,1,0,1,0,0] (QP f78)) 1 st (fun e s=>match r with|v601=>e=.exit 0∧∃ d,s=⟨sl d 34 [(7,(.vec 0 ((List.map Qa) v601)))],[(.tok 3 v601.length)]⟩)
theorem J2:∀ x r,Zf x=some r→Qcl x r:=by
 refine Zf.partial_correctness _ (fun Zf J2 x r hm=>?_)
 unfold Qcl
 obtain ⟨p0,p1,p2,v201,v202⟩:=x
 intro st hst
 refine RL_at hst ?_
 clear hst
 refine Qd (Qd (R_G (Qb 2 ?_)))
 refine QO Qa p0 (es:=(List.map Qa) p0) rfl ?_
 refine Qb 1 (Qe ?_)
 refine Qx hm (rfl) (fun hm=>?_) (fun hm=>?_)
 ·refine Qo (Qd (Qw (Qd (Qd (R_G (Qb 3 (Qe ?_)))))))
  obtain ⟨v602,hs,hm⟩:=Qg hm
  refine Zy (fun d=>⟨sl d 34 [(0,(.dat (.lst ((List.map Qa) p0)))),(1,(Qc p1)),(2,(Qc p2)),(7,(.vec 0 ((List.map Qa) v602))),(8,(Qc v202))],[(.tok 3 v602.length)]⟩) ?_ (fun d=>?_)
  ·replace hm:=hs
   clear hs
   refine Qx hm (Q1 _ _) (fun hm=>?_) (fun hm=>?_)
   ·refine R_G (Qb 3 ?_)
    obtain ⟨v603,hx,hm⟩:=Qg hm
    refine X8 3 1 8 0 Qa v201 ([p2]:List Int) v603 (xs:=(List.map Qa) v201) (es:=(List.map Qa) ([p2]:List Int)) (L:=(List.map Qa)) (fun _=>rfl) rfl rfl (fun _=>rfl) hx ?_
    refine Qb 1 (Qe ?_)
    obtain rfl:=Qu hm
    exact Qm
   refine Qo ?_
   obtain rfl:=Qu hm
   exact Qm
  clear hs
  refine Qd (R_G (Qb 2 ?_))
  refine QO Qa p0 (es:=(List.map Qa) p0) rfl ?_
  refine Qb 1 (Qe ?_)
  refine Qx hm (rfl) (fun hm=>?_) (fun hm=>?_)
  ·refine R_G (Qb 3 ?_)
   refine Q3 1 Qa hm rfl (fun _=>rfl) (fun v604 hm=>?_)
   refine Qb 2 ?_
   obtain ⟨v605,hx,hm⟩:=Qg hm
   refine X8 3 1 8 0 Qa v602 ([v604]:List Int) v605 (xs:=(List.map Qa) v602) (es:=(List.map Qa) ([v604]:List Int)) (L:=(List.map Qa)) (fun _=>rfl) rfl rfl (fun _=>rfl) hx ?_
   refine Qb 1 (Qe (R_G (Qb 3 (Qe ?_))))
   exact J2 _ _ hm _ (by kernel_rfl)
  refine Qo (R_G (Qb 3 (Qe ?_)))
  exact J2 _ _ hm _ (by kernel_rfl)
 refine Q8 ?_
 obtain rfl:=Qu hm
 exact ⟨rfl,Qm⟩
def Xt (x:((List Int) × Int × Int)):Option (List Int) :=
 match x with
 | (p0,p1,p2) =>
 Zf (p0,p1,p2,([]:List Int),0)>>=fun (v601:(List Int)) =>
 some v601
def Qdt:((List Int) × Int × Int)→(List Int)→Prop:=fun x r=>match x,r with
 | (p0,p1,p2),r0=>∀ H,PC prog env 78 ([(.lst ((List.map Qa) p0)),(Qa p1),(Qa p2)].map .dat) H (.dat (.lst ((List.map Qa) r0))) H
theorem Qb9:∀ x r,Xt x=some r→Qdt x r:=by
 intro x r0 hm
 unfold Xt at hm
 unfold Qdt
 obtain ⟨p0,p1,p2⟩:=x
 intro H
 refine PC_sx (ds:=[(.lst ((List.map Qa) p0)),(Qa p1),(Qa p2)]) (fn:=f78) rfl ?_
 refine Qd (R_G (Qb 1 (Qe (Qd (R_G (Qb 1 (Qe (Qd (Qd (R_G (Qb 1 ?_)))))))))))
 refine Qe (Qw ?_)
 obtain ⟨v601,hs,hm⟩:=Qg hm
 refine Ze ?_
 refine RL_use (J2 _ _ hs) (by kernel_rfl) ?_
 clear hs
 intro e s hp
 obtain ⟨rfl,d,rfl⟩:=hp
 refine Qd (R_G (Qb 2 (Qe (Qr ?_))))
 obtain rfl:=Qu hm
 exact ⟨trivial,Qk⟩
def Zq (x:((List Int) × Int × (List Int) × Int)):Option ((List Int)) :=
 match x with
 | (p0,p1,v201,v202) =>
 if v202 < (p0.length:Int) then
  if v202≠p1 then
   idx p0 v202>>=fun v602 =>
   app 8 v201 ([v602]:List Int)>>=fun v603 =>
   Zq (p0,p1,v603,(W (v202+1)))
  else
  Zq (p0,p1,v201,(W (v202+1)))
 else
 some v201
 partial_fixpoint
def Qcm:((List Int) × Int × (List Int) × Int)→(List Int)→Prop:=fun x r=>match x with
 | (p0,p1,v201,v202)=>∀ st,prune 1 ((Qy (QN [1,1,0,1,0,0] (QP f115))).bind (env.hint 115).keepAt) st=⟨kp 24 [(0,(.dat (.lst ((List.map Qa) p0)))),(1,(Qc p1)),(5,(.vec 0 ((List.map Qa) v201))),(6,(Qc v202))],[(.tok 3 v201.length)]⟩ →
  RL prog env (env.hint 115) true (QN [1,1,0,1,0,0] (QP f115)) 1 st (fun e s=>match r with|v601=>e=.exit 0∧∃ d,s=⟨sl d 24 [(5,(.vec 0 ((List.map Qa) v601)))],[(.tok 3 v601.length)]⟩)
theorem J3:∀ x r,Zq x=some r→Qcm x r:=by
 refine Zq.partial_correctness _ (fun Zq J3 x r hm=>?_)
 unfold Qcm
 obtain ⟨p0,p1,v201,v202⟩:=x
 intro st hst
 refine RL_at hst ?_
 clear hst
 refine Qd (Qd (R_G (Qb 2 ?_)))
 refine QO Qa p0 (es:=(List.map Qa) p0) rfl ?_
 refine Qb 1 (Qe ?_)
 refine Qx hm (rfl) (fun hm=>?_) (fun hm=>?_)
 ·refine Qo (Qd (Qw (Qd (R_G (Qb 3 (Qe ?_))))))
  refine Qx hm (ne_dec _ _) (fun hm=>?_) (fun hm=>?_)
  ·refine R_G (Qb 3 ?_)
   refine Q3 1 Qa hm rfl (fun _=>rfl) (fun v602 hm=>?_)
   refine Qb 2 ?_
   obtain ⟨v603,hx,hm⟩:=Qg hm
   refine X8 3 1 8 0 Qa v201 ([v602]:List Int) v603 (xs:=(List.map Qa) v201) (es:=(List.map Qa) ([v602]:List Int)) (L:=(List.map Qa)) (fun _=>rfl) rfl rfl (fun _=>rfl) hx ?_
   refine Qb 1 (Qe (R_G (Qb 3 (Qe ?_))))
   exact J3 _ _ hm _ (by kernel_rfl)
  refine Qo (R_G (Qb 3 (Qe ?_)))
  exact J3 _ _ hm _ (by kernel_rfl)
 refine Q8 ?_
 obtain rfl:=Qu hm
 exact ⟨rfl,Qm⟩
def Qac (x:((List Int) × Int)):Option (List Int) :=
 match x with
 | (p0,p1) =>
 Zq (p0,p1,([]:List Int),0)>>=fun (v601:(List Int)) =>
 some v601
def Qdu:((List Int) × Int)→(List Int)→Prop:=fun x r=>match x,r with
 | (p0,p1),r0=>∀ H,PC prog env 115 ([(.lst ((List.map Qa) p0)),(Qa p1)].map .dat) H (.dat (.lst ((List.map Qa) r0))) H
theorem Qfv:∀ x r,Qac x=some r→Qdu x r:=by
 intro x r0 hm
 unfold Qac at hm
 unfold Qdu
 obtain ⟨p0,p1⟩:=x
 intro H
 refine PC_sx (ds:=[(.lst ((List.map Qa) p0)),(Qa p1)]) (fn:=f115) rfl ?_
 refine Qd (R_G (Qb 1 (Qe (Qd (R_G (Qb 1 (Qe (Qd (Qd (R_G (Qb 1 ?_)))))))))))
 refine Qe (Qw ?_)
 obtain ⟨v601,hs,hm⟩:=Qg hm
 refine Ze ?_
 refine RL_use (J3 _ _ hs) (by kernel_rfl) ?_
 clear hs
 intro e s hp
 obtain ⟨rfl,d,rfl⟩:=hp
 refine Qd (R_G (Qb 2 (Qe (Qr ?_))))
 obtain rfl:=Qu hm
 exact ⟨trivial,Qk⟩
def Jp (x:((List Int) × Int × Int)):Option (List Int) :=
 match x with
 | (p0,p1,p2) =>
 Qac (p0,p1)>>=fun (v1:(List Int)) =>
 Xt (v1,p1,p2)>>=fun (v2:(List Int)) =>
 some v2
def Qe9:((List Int) × Int × Int)→(List Int)→Prop:=fun x r=>match x,r with
 | (p0,p1,p2),r0=>∀ H,PC prog env 79 ([(.lst ((List.map Qa) p0)),(Qa p1),(Qa p2)].map .dat) H (.dat (.lst ((List.map Qa) r0))) H
theorem QdR:∀ x r,Jp x=some r→Qe9 x r:=by
 intro x r0 hm
 unfold Jp at hm
 unfold Qe9
 obtain ⟨p0,p1,p2⟩:=x
 intro H
 refine PC_sx (ds:=[(.lst ((List.map Qa) p0)),(Qa p1),(Qa p2)]) (fn:=f79) rfl ?_
 refine Qd (R_G (Qb 1 (Qe (Qd (R_G (Qb 2 ?_))))))
 obtain ⟨v1,hx,hm⟩:=Qg hm
 have hq:=Qfv _ _ hx []
 refine Qp hq ?_
 refine Qb 2 ?_
 obtain ⟨v2,hx,hm⟩:=Qg hm
 have hq:=Qb9 _ _ hx []
 refine Qp hq ?_
 refine Qb 1 (Qe (Qr ?_))
 obtain rfl:=Qu hm
 exact ⟨trivial,Qk⟩
def Zg (x:((List Int) × (List Int) × Int × (List Int) × (List Int) × Int)):Option (Unit ⊕ Unit) :=
 match x with
 | (p1,p2,v1,v7,v9,v211) =>
 if v211 < (max (max (p1.length:Int) (p2.length:Int)) 1) then
  (if v211≠v1 then
   idx v7 v211>>=fun v612 =>
   idx v9 v211>>=fun v613 =>
   some (v612 != v613)
  else
  some false
  )>>=fun (v611:Bool) =>
  if v611=true then
   some (Sum.inl ())
  else
  Zg (p1,p2,v1,v7,v9,(W (v211+1)))
 else
 some (Sum.inr ())
 partial_fixpoint
def QbO:((List Int) × (List Int) × Int × (List Int) × (List Int) × Int)→(Unit ⊕ Unit)→Prop:=fun x r=>match x with
 | (p1,p2,v1,v7,v9,v211)=>∀ st,prune 1 ((Qy (QN [1,1,1,1,1,1,1,1,1,1,1,0,1,0,0] (QP f38))).bind (env.hint 38).keepAt) st=⟨kp 114 [(0,(Qc v1)),(6,(.ptr 0 0)),(8,(Qc (max (max (p1.length:Int) (p2.length:Int)) 1))),(10,(.dat (.lst ((List.map Qa) v7)))),(11,(.dat (.lst ((List.map Qa) v9)))),(12,(Qc v211))],[(.box [(.dat (.lst ((List.map Qa) []))),(.dat (.lst ((List.map Qa) []))),(.dat (.lst ((List.map Qa) []))),(.dat (.lst ((List.map Qa) []))),(Qc 0),(Qc 0),(.dat (.lst ((List.map Qa) [])))])]⟩ →
  RL prog env (env.hint 38) true (QN [1,1,1,1,1,1,1,1,1,1,1,0,1,0,0] (QP f38)) 1 st (fun e s=>match r with|.inl _=>e=.ret∧∃ d,s=⟨sl d 114 [(6,(.ptr 0 0)),(7,(Qc 5))],[(.box [(.dat (.lst ((List.map Qa) []))),(.dat (.lst ((List.map Qa) []))),(.dat (.lst ((List.map Qa) []))),(.dat (.lst ((List.map Qa) []))),(Qc 0),(Qc 0),(.dat (.lst ((List.map Qa) [])))])]⟩|.inr (_)=>e=.exit 0∧∃ d,s=⟨sl d 114 [(0,(Qc v1)),(6,(.ptr 0 0)),(10,(.dat (.lst ((List.map Qa) v7)))),(11,(.dat (.lst ((List.map Qa) v9))))],[(.box [(.dat (.lst ((List.map Qa) []))),(.dat (.lst ((List.map Qa) []))),(.dat (.lst ((List.map Qa) []))),(.dat (.lst ((List.map Qa) []))),(Qc 0),(Qc 0),(.dat (.lst ((List.map Qa) [])))])]⟩)
theorem X4:∀ x r,Zg x=some r→QbO x r:=by
 refine Zg.partial_correctness _ (fun Zg X4 x r hm=>?_)
 unfold QbO
 obtain ⟨p1,p2,v1,v7,v9,v211⟩:=x
 intro st hst
 refine RL_at hst ?_
 clear hst
 refine Qd (Qd (R_G (Qb 3 (Qe ?_))))
 refine Qx hm (rfl) (fun hm=>?_) (fun hm=>?_)
 ·refine Qo (Qd (Qw (Qd ?_)))
  obtain ⟨v611,hs,hm⟩:=Qg hm
  refine Zy (fun d=>⟨sl d 114 [(0,(Qc v1)),(6,(.ptr 0 0)),(8,(Qc (max (max (p1.length:Int) (p2.length:Int)) 1))),(10,(.dat (.lst ((List.map Qa) v7)))),(11,(.dat (.lst ((List.map Qa) v9)))),(12,(Qc v211)),(91,(Qs v611))],[(.box [(.dat (.lst ((List.map Qa) []))),(.dat (.lst ((List.map Qa) []))),(.dat (.lst ((List.map Qa) []))),(.dat (.lst ((List.map Qa) []))),(Qc 0),(Qc 0),(.dat (.lst ((List.map Qa) [])))])]⟩) ?_ (fun d=>?_)
  ·replace hm:=hs
   clear hs
   refine QaK ?_
   refine Qb 4 ?_
   refine QA 81 hm (ne_dec _ _) (fun hm=>?_) (fun hm=>?_)
   ·refine Qb 2 ?_
    refine Q3 1 Qa hm rfl (fun _=>rfl) (fun v612 hm=>?_)
    refine Qb 3 ?_
    refine Q3 1 Qa hm rfl (fun _=>rfl) (fun v613 hm=>?_)
    refine Qb 3 ?_
    refine Qe ⟨by kernel_rfl,?_⟩
    obtain rfl:=Qu hm
    exact Qm
   refine Qb 10 ?_
   refine Qe ⟨by kernel_rfl,?_⟩
   obtain rfl:=Qu hm
   exact Qm
  clear hs
  refine Qx hm (QH _) (fun hm=>?_) (fun hm=>?_)
  ·refine Qd (R_G (Qb 3 (Qe (Qr ?_))))
   obtain rfl:=Qu hm
   exact ⟨rfl,Qm⟩
  refine Qo (R_G (Qb 3 (Qe ?_)))
  exact X4 _ _ hm _ (by kernel_rfl)
 refine Q8 ?_
 obtain rfl:=Qu hm
 exact ⟨rfl,Qm⟩
def Xn (x:(Int × (List Int) × (List Int))):Option (Qt × Int) :=
 match x with
 | (p0,p1,p2) =>
 if p0≥(max (max (p1.length:Int) (p2.length:Int)) 1) then
  some ((⟨([]:(List Int)),([]:(List Int)),([]:(List Int)),([]:(List Int)),0,0,([]:(List Int))⟩:Qt),4)
 else
 (if p0 < 0 then
  some (W ((max (max (p1.length:Int) (p2.length:Int)) 1) - 1))
 else
 some p0
 )>>=fun (v1:Int) =>
 (if (if (p2.length:Int) < (p1.length:Int) then (p2.length:Int) else (p1.length:Int)) < (W ((max (max (p1.length:Int) (p2.length:Int)) 1) - 1)) then
  some (decide ((if (p2.length:Int) < (p1.length:Int) then (p2.length:Int) else (p1.length:Int)) > 0))
 else
 some false
 )>>=fun (v2:Bool) =>
 if v2=true then
  some ((⟨([]:(List Int)),([]:(List Int)),([]:(List Int)),([]:(List Int)),0,0,([]:(List Int))⟩:Qt),4)
 else
 (if (p1.length:Int)=(W ((max (max (p1.length:Int) (p2.length:Int)) 1) - 1)) then
  Xt (p1,v1,1)>>=fun (v4:(List Int)) =>
  some v4
 else
 some p1
 )>>=fun (v3:(List Int)) =>
 (if (p2.length:Int)=(W ((max (max (p1.length:Int) (p2.length:Int)) 1) - 1)) then
  Xt (p2,v1,1)>>=fun (v6:(List Int)) =>
  some v6
 else
 some p2
 )>>=fun (v5:(List Int)) =>
 (if (v3.length:Int) < (max (max (p1.length:Int) (p2.length:Int)) 1) then
  Jp (v5,v1,1)>>=fun (v8:(List Int)) =>
  some v8
 else
 some v3
 )>>=fun (v7:(List Int)) =>
 (if (v5.length:Int) < (max (max (p1.length:Int) (p2.length:Int)) 1) then
  Jp (v7,v1,1)>>=fun (v10:(List Int)) =>
  some v10
 else
 some v5
 )>>=fun (v9:(List Int)) =>
 (
 Zg (p1,p2,v1,v7,v9,0)>>=fun (out:Unit ⊕ Unit) =>
 match out with
 | .inl _ =>
  some ((⟨([]:(List Int)),([]:(List Int)),([]:(List Int)),([]:(List Int)),0,0,([]:(List Int))⟩:Qt),5)
 | .inr (_) =>
  idx v7 v1>>=fun v614 =>
  idx v9 v1>>=fun v615 =>
  Jp (v7,v1,(W (v614+v615)))>>=fun (v616:(List Int)) =>
  YN v616>>=fun (v617:Int) =>
  if v617≠0 then
   some ((⟨([]:(List Int)),([]:(List Int)),([]:(List Int)),([]:(List Int)),0,0,([]:(List Int))⟩:Qt),7)
  else
  some ((⟨v7,v9,v616,([]:(List Int)),v1,0,([]:(List Int))⟩:Qt),0)
 )
def QcL:(Int × (List Int) × (List Int))→(Qt × Int)→Prop:=fun x r=>match x,r with
 | (p0,p1,p2),(r0,r1)=>∀ H,PC prog env 38 ([(Qa p0),(.lst ((List.map Qa) p1)),(.lst ((List.map Qa) p2))].map .dat) H (.tup [(.dat (Qt.toD r0)),(Qc r1)]) H
theorem Qe0:∀ x r,Xn x=some r→QcL x r:=by
 intro x r hm
 unfold Xn at hm
 unfold QcL
 obtain ⟨p0,p1,p2⟩:=x
 obtain ⟨r0,r1⟩:=r
 intro H
 refine PC_sx (ds:=[(Qa p0),(.lst ((List.map Qa) p1)),(.lst ((List.map Qa) p2))]) (fn:=f38) rfl ?_
 refine Qd (R_G (Qb 2 (Qe (Qd (R_G (Qb 1 ?_))))))
 refine QO Qa p1 (es:=(List.map Qa) p1) rfl ?_
 refine Qb 1 ?_
 refine QO Qa p2 (es:=(List.map Qa) p2) rfl ?_
 refine ZD rfl (fun _=>QgC (k:=.i64) (m:=(p1.length:Int)) (n:=(p2.length:Int)) (q:=1) rfl (by kernel_rfl) (by kernel_rfl) (by kernel_rfl)) ?_
 refine Qb 1 (Qe (Qd (Qd (R_G (Qb 3 (Qe ?_))))))
 refine Qx hm (rfl) (fun hm=>?_) (fun hm=>?_)
 ·refine Qd (R_G (Qb 3 (Qe (Qr ?_))))
  obtain ⟨rfl,rfl⟩:=QU hm
  exact ⟨trivial,Qk⟩
 refine Qo (Qd (Qd (R_G (Qb 2 (Qe ?_)))))
 obtain ⟨v1,hs,hm⟩:=Qg hm
 refine Zy (fun d=>⟨sl d 114 [(0,(Qc v1)),(1,(.dat (.lst ((List.map Qa) p1)))),(2,(.dat (.lst ((List.map Qa) p2)))),(6,(.ptr 0 0)),(8,(Qc (max (max (p1.length:Int) (p2.length:Int)) 1)))],[(.box [(.dat (.lst ((List.map Qa) []))),(.dat (.lst ((List.map Qa) []))),(.dat (.lst ((List.map Qa) []))),(.dat (.lst ((List.map Qa) []))),(Qc 0),(Qc 0),(.dat (.lst ((List.map Qa) [])))])]⟩) ?_ (fun d=>?_)
 ·replace hm:=hs
  clear hs
  refine Qx hm (rfl) (fun hm=>?_) (fun hm=>?_)
  ·refine R_G (Qb 3 (Qe ?_))
   obtain rfl:=Qu hm
   exact Qm
  refine Qo ?_
  obtain rfl:=Qu hm
  exact Qm
 clear hs
 refine Qd (R_G (Qb 1 ?_))
 refine QO Qa p1 (es:=(List.map Qa) p1) rfl ?_
 refine Qb 1 ?_
 refine QO Qa p2 (es:=(List.map Qa) p2) rfl ?_
 refine ZD rfl (fun _=>QgD (k:=.i64) (m:=(p1.length:Int)) (n:=(p2.length:Int)) rfl (by kernel_rfl) (by kernel_rfl)) ?_
 refine Qb 1 (Qe (Qd (Qd ?_)))
 obtain ⟨v2,hs,hm⟩:=Qg hm
 refine Zy (fun d=>⟨sl d 114 [(0,(Qc v1)),(1,(.dat (.lst ((List.map Qa) p1)))),(2,(.dat (.lst ((List.map Qa) p2)))),(6,(.ptr 0 0)),(8,(Qc (max (max (p1.length:Int) (p2.length:Int)) 1))),(39,(Qs v2))],[(.box [(.dat (.lst ((List.map Qa) []))),(.dat (.lst ((List.map Qa) []))),(.dat (.lst ((List.map Qa) []))),(.dat (.lst ((List.map Qa) []))),(Qc 0),(Qc 0),(.dat (.lst ((List.map Qa) [])))])]⟩) ?_ (fun d=>?_)
 ·replace hm:=hs
  clear hs
  refine R_G (Qb 5 ?_)
  refine QA 36 hm (rfl) (fun hm=>?_) (fun hm=>?_)
  ·refine Qb 3 (Qe ?_)
   obtain rfl:=Qu hm
   exact Qm
  refine Qb 3 (Qe ?_)
  obtain rfl:=Qu hm
  exact Qm
 clear hs
 refine Qx hm (QH _) (fun hm=>?_) (fun hm=>?_)
 ·refine Qd (R_G (Qb 3 (Qe (Qr ?_))))
  obtain ⟨rfl,rfl⟩:=QU hm
  exact ⟨trivial,Qk⟩
 refine Qo (Qd (R_G (Qb 4 (Qe (Qd (Qd (R_G (Qb 1 ?_))))))))
 refine QO Qa p1 (es:=(List.map Qa) p1) rfl ?_
 refine Qb 3 (Qe ?_)
 obtain ⟨v3,hs,hm⟩:=Qg hm
 refine Zy (fun d=>⟨sl d 114 [(0,(Qc v1)),(2,(.dat (.lst ((List.map Qa) p2)))),(6,(.ptr 0 0)),(8,(Qc (max (max (p1.length:Int) (p2.length:Int)) 1))),(10,(.dat (.lst ((List.map Qa) v3)))),(11,(.dat (.lst ((List.map Qa) p2))))],[(.box [(.dat (.lst ((List.map Qa) []))),(.dat (.lst ((List.map Qa) []))),(.dat (.lst ((List.map Qa) []))),(.dat (.lst ((List.map Qa) []))),(Qc 0),(Qc 0),(.dat (.lst ((List.map Qa) [])))])]⟩) ?_ (fun d=>?_)
 ·replace hm:=hs
  clear hs
  refine Qx hm (Q1 _ _) (fun hm=>?_) (fun hm=>?_)
  ·refine R_G (Qb 2 ?_)
   obtain ⟨v4,hx,hm⟩:=Qg hm
   have hq:=Qb9 _ _ hx []
   refine Qp hq ?_
   refine Qb 1 (Qe ?_)
   obtain rfl:=Qu hm
   exact Qm
  refine Qo ?_
  obtain rfl:=Qu hm
  exact Qm
 clear hs
 refine Qd (Qd (R_G (Qb 1 ?_)))
 refine QO Qa p2 (es:=(List.map Qa) p2) rfl ?_
 refine Qb 3 (Qe ?_)
 obtain ⟨v5,hs,hm⟩:=Qg hm
 refine Zy (fun d=>⟨sl d 114 [(0,(Qc v1)),(6,(.ptr 0 0)),(8,(Qc (max (max (p1.length:Int) (p2.length:Int)) 1))),(10,(.dat (.lst ((List.map Qa) v3)))),(11,(.dat (.lst ((List.map Qa) v5))))],[(.box [(.dat (.lst ((List.map Qa) []))),(.dat (.lst ((List.map Qa) []))),(.dat (.lst ((List.map Qa) []))),(.dat (.lst ((List.map Qa) []))),(Qc 0),(Qc 0),(.dat (.lst ((List.map Qa) [])))])]⟩) ?_ (fun d=>?_)
 ·replace hm:=hs
  clear hs
  refine Qx hm (Q1 _ _) (fun hm=>?_) (fun hm=>?_)
  ·refine R_G (Qb 2 ?_)
   obtain ⟨v6,hx,hm⟩:=Qg hm
   have hq:=Qb9 _ _ hx []
   refine Qp hq ?_
   refine Qb 1 (Qe ?_)
   obtain rfl:=Qu hm
   exact Qm
  refine Qo ?_
  obtain rfl:=Qu hm
  exact Qm
 clear hs
 refine Qd (Qd (R_G (Qb 1 ?_)))
 refine QO Qa v3 (es:=(List.map Qa) v3) rfl ?_
 refine Qb 2 (Qe ?_)
 obtain ⟨v7,hs,hm⟩:=Qg hm
 refine Zy (fun d=>⟨sl d 114 [(0,(Qc v1)),(6,(.ptr 0 0)),(8,(Qc (max (max (p1.length:Int) (p2.length:Int)) 1))),(10,(.dat (.lst ((List.map Qa) v7)))),(11,(.dat (.lst ((List.map Qa) v5))))],[(.box [(.dat (.lst ((List.map Qa) []))),(.dat (.lst ((List.map Qa) []))),(.dat (.lst ((List.map Qa) []))),(.dat (.lst ((List.map Qa) []))),(Qc 0),(Qc 0),(.dat (.lst ((List.map Qa) [])))])]⟩) ?_ (fun d=>?_)
 ·replace hm:=hs
  clear hs
  refine Qx hm (rfl) (fun hm=>?_) (fun hm=>?_)
  ·refine R_G (Qb 2 ?_)
   obtain ⟨v8,hx,hm⟩:=Qg hm
   have hq:=QdR _ _ hx []
   refine Qp hq ?_
   refine Qb 1 (Qe ?_)
   obtain rfl:=Qu hm
   exact Qm
  refine Qo ?_
  obtain rfl:=Qu hm
  exact Qm
 clear hs
 refine Qd (Qd (R_G (Qb 1 ?_)))
 refine QO Qa v5 (es:=(List.map Qa) v5) rfl ?_
 refine Qb 2 (Qe ?_)
 obtain ⟨v9,hs,hm⟩:=Qg hm
 refine Zy (fun d=>⟨sl d 114 [(0,(Qc v1)),(6,(.ptr 0 0)),(8,(Qc (max (max (p1.length:Int) (p2.length:Int)) 1))),(10,(.dat (.lst ((List.map Qa) v7)))),(11,(.dat (.lst ((List.map Qa) v9))))],[(.box [(.dat (.lst ((List.map Qa) []))),(.dat (.lst ((List.map Qa) []))),(.dat (.lst ((List.map Qa) []))),(.dat (.lst ((List.map Qa) []))),(Qc 0),(Qc 0),(.dat (.lst ((List.map Qa) [])))])]⟩) ?_ (fun d=>?_)
 ·replace hm:=hs
  clear hs
  refine Qx hm (rfl) (fun hm=>?_) (fun hm=>?_)
  ·refine R_G (Qb 2 ?_)
   obtain ⟨v10,hx,hm⟩:=Qg hm
   have hq:=QdR _ _ hx []
   refine Qp hq ?_
   refine Qb 1 (Qe ?_)
   obtain rfl:=Qu hm
   exact Qm
  refine Qo ?_
  obtain rfl:=Qu hm
  exact Qm
 clear hs
 refine Qd (Qd (R_G (Qb 1 (Qe (Qw ?_)))))
 obtain ⟨out,hs,hm⟩:=Qg hm
 refine Ze ?_
 rcases out with _|_
 ·refine RL_use (X4 _ _ hs) (by kernel_rfl) ?_
  clear hs
  intro e s hp
  obtain ⟨rfl,d,rfl⟩:=hp
  obtain ⟨rfl,rfl⟩:=QU hm
  exact ⟨trivial,Qk⟩
 ·refine RL_use (X4 _ _ hs) (by kernel_rfl) ?_
  clear hs
  intro e s hp
  obtain ⟨rfl,d,rfl⟩:=hp
  refine Qd ?_
  refine QaK ?_
  refine Qb 4 ?_
  refine Q3 1 Qa hm rfl (fun _=>rfl) (fun v614 hm=>?_)
  refine Qb 3 ?_
  refine Q3 1 Qa hm rfl (fun _=>rfl) (fun v615 hm=>?_)
  refine Qb 2 ?_
  obtain ⟨v616,hx,hm⟩:=Qg hm
  have hq:=QdR _ _ hx []
  refine Qp hq ?_
  refine Qb 1 ?_
  refine Qe ⟨by kernel_rfl,?_⟩
  refine Qd (Qd (R_G (Qb 1 ?_)))
  obtain ⟨v617,hx,hm⟩:=Qg hm
  have hq:=Qbx _ _ hx []
  refine Qp hq ?_
  refine Qb 1 (Qe ?_)
  refine Qx hm (ne_dec _ _) (fun hm=>?_) (fun hm=>?_)
  ·refine Qd (R_G (Qb 3 (Qe (Qr ?_))))
   obtain ⟨rfl,rfl⟩:=QU hm
   exact ⟨trivial,Qk⟩
  refine Qo (Qd (R_G (Qb 7 (Qe (Qr ?_)))))
  obtain ⟨rfl,rfl⟩:=QU hm
  exact ⟨trivial,Qk⟩
def Zi (x:((List QD) × (List Qq) × Qf)):Option (Qh × (List Qq) × Int) :=
 match x with
 | (p0,p1,p2) =>
 if p2.kind≤2 then
  Qau (p0,p1,p2)>>=fun ((v1,v2,v3):(Qh × (List Qq) × Int)) =>
  some (v1,v2,v3)
 else
 idx p2.kids (W ((p2.kids.length:Int) - 1))>>=fun v4 =>
 Zi (p0,p1,v4)>>=fun ((v5,v6,v7):(Qh × (List Qq) × Int)) =>
 if v7≠0 then
  some ((⟨0,([]:(List Int)),0,([]:(List Int)),0,0,([]:(List Int)),([]:(List Qh))⟩:Qh),([]:(List Qq)),v7)
 else
 (if p2.kind=3 then
  some true
 else
 some (p2.fn != 6)
 )>>=fun (v8:Bool) =>
 if v8=true then
  YU (p0,(⟨p2.kind,p2.fn,p2.axis,p2.name,p2.nums,p2.kids⟩:Qf),(⟨v5.kind,v5.shape,v5.buffer,v5.starts,v5.axis,v5.amount,v5.perm,v5.kids⟩:Qh))>>=fun ((v9,v10):(Qh × Int)) =>
  some (v9,v6,v10)
 else
 idx p2.kids 0>>=fun v11 =>
 Zi (p0,v6,v11)>>=fun ((v12,v13,v14):(Qh × (List Qq) × Int)) =>
 if v14≠0 then
  some ((⟨0,([]:(List Int)),0,([]:(List Int)),0,0,([]:(List Int)),([]:(List Qh))⟩:Qh),([]:(List Qq)),v14)
 else
 Xn (p2.axis,v12.shape,v5.shape)>>=fun ((v15,v16):(Qt × Int)) =>
 if v16≠0 then
  some ((⟨0,([]:(List Int)),0,([]:(List Int)),0,0,([]:(List Int)),([]:(List Qh))⟩:Qh),([]:(List Qq)),v16)
 else
 Zs ((⟨v12.kind,v12.shape,v12.buffer,v12.starts,v12.axis,v12.amount,v12.perm,v12.kids⟩:Qh),v15.left)>>=fun (v17:Qh) =>
 Zs ((⟨v5.kind,v5.shape,v5.buffer,v5.starts,v5.axis,v5.amount,v5.perm,v5.kids⟩:Qh),v15.right)>>=fun (v18:Qh) =>
 some ((⟨7,v15.shape,0,([]:(List Int)),v15.axis,0,([]:(List Int)),([(⟨v17.kind,v17.shape,v17.buffer,v17.starts,v17.axis,v17.amount,v17.perm,v17.kids⟩:Qh),(⟨v18.kind,v18.shape,v18.buffer,v18.starts,v18.axis,v18.amount,v18.perm,v18.kids⟩:Qh)]:(List Qh))⟩:Qh),v13,0)
 partial_fixpoint
def QbV:((List QD) × (List Qq) × Qf)→(Qh × (List Qq) × Int)→Prop:=fun x r=>match x,r with
 | (p0,p1,p2),(r0,r1,r2)=>∀ H,PC prog env 16 ([(.lst ((List.map QD.toD) p0)),(.lst ((List.map Qq.toD) p1)),(Qf.ex p2)].map .dat) H (.tup [(.dat (Qh.ex r0)),(.dat (.lst ((List.map Qq.toD) r1))),(Qc r2)]) H
theorem g_ref15_expr:(∀ x r,Zi x=some r→QbV x r):=by
 refine Zi.partial_correctness QbV ?_
 ·intro Zi QbY x r hm
  unfold QbV
  obtain ⟨p0,p1,p2⟩:=x
  obtain ⟨r0,r1,r2⟩:=r
  intro H
  refine PC_sx (ds:=[(.lst ((List.map QD.toD) p0)),(.lst ((List.map Qq.toD) p1)),(Qf.ex p2)]) (fn:=f16) rfl ?_
  refine Qd (R_G (Qb 4 (Qe (Qd (Qd (R_G (Qb 3 (Qe ?_))))))))
  refine Qx hm (rfl) (fun hm=>?_) (fun hm=>?_)
  ·refine Qd (R_G (Qb 3 ?_))
   obtain ⟨⟨v1,v2,v3⟩,hx,hm⟩:=Qg hm
   have hq:=QfV _ _ hx []
   refine Qp hq ?_
   refine Qb 6 (Qe (Qr ?_))
   obtain ⟨rfl,rfl,rfl⟩:=QfE hm
   exact ⟨trivial,Qk⟩
  refine Qo (Qd (R_G (Qb 6 ?_)))
  refine QO Qf.toD p2.kids (es:=Qf.toDs p2.kids) (Qf.toDs_eq _) ?_
  refine Qb 1 ?_
  obtain ⟨v4,hx,hm⟩:=Qg hm
  refine QbA 6 Qf.toD p2.kids (W ((p2.kids.length:Int) - 1)) v4 (es:=Qf.toDs p2.kids) (d:=(Qf.ex v4)) (Qf.toDs_eq _) hx (Qf.toD_eq v4) rfl ?_
  refine Qb 1 ?_
  obtain ⟨⟨v5,v6,v7⟩,hx,hm⟩:=Qg hm
  have hq:=QbY _ _ hx []
  refine Qp hq ?_
  refine Qb 8 (Qe (Qd (Qd (R_G (Qb 2 (Qe ?_))))))
  refine Qx hm (ne_dec _ _) (fun hm=>?_) (fun hm=>?_)
  ·refine Qd (R_G (Qb 5 (Qe (Qr ?_))))
   obtain ⟨rfl,rfl,rfl⟩:=QfE hm
   exact ⟨trivial,Qk⟩
  refine Qo (Qd (Qd ?_))
  obtain ⟨v8,hs,hm⟩:=Qg hm
  refine Zy (fun d=>⟨sl d 106 [(0,(.dat (.lst ((List.map QD.toD) p0)))),(1,(.dat (.lst ((List.map Qq.toD) v6)))),(5,(.ptr 0 0)),(6,(.ptr 1 0)),(9,(.ptr 2 0)),(51,(Qs v8))],[(.box [(Qc p2.kind),(Qc p2.fn),(Qc p2.axis),(.dat (strD p2.name)),(.dat (.lst ((List.map Qa) p2.nums))),(.dat (.lst (Qf.toDs p2.kids)))]),(.box [(Qc 0),(.dat (.lst ((List.map Qa) []))),(Qc 0),(.dat (.lst ((List.map Qa) []))),(Qc 0),(Qc 0),(.dat (.lst ((List.map Qa) []))),(.dat (.lst (Qh.toDs [])))]),(.box [(Qc v5.kind),(.dat (.lst ((List.map Qa) v5.shape))),(Qc v5.buffer),(.dat (.lst ((List.map Qa) v5.starts))),(Qc v5.axis),(Qc v5.amount),(.dat (.lst ((List.map Qa) v5.perm))),(.dat (.lst (Qh.toDs v5.kids)))])]⟩) ?_ (fun d=>?_)
  ·replace hm:=hs
   clear hs
   refine R_G (Qb 4 ?_)
   refine QA 47 hm (Q1 _ _) (fun hm=>?_) (fun hm=>?_)
   ·refine Qb 4 (Qe ?_)
    obtain rfl:=Qu hm
    exact Qm
   refine Qb 4 (Qe ?_)
   obtain rfl:=Qu hm
   exact Qm
  clear hs
  refine Qx hm (QH _) (fun hm=>?_) (fun hm=>?_)
  ·refine Qd (R_G (Qb 3 ?_))
   obtain ⟨⟨v9,v10⟩,hx,hm⟩:=Qg hm
   have hq:=Qf9 _ _ hx []
   refine Qp hq ?_
   refine Qb 6 (Qe (Qd (R_G (Qb 6 (Qe (Qr ?_))))))
   obtain ⟨rfl,rfl,rfl⟩:=QfE hm
   exact ⟨trivial,Qk⟩
  refine Qo (Qd (R_G (Qb 4 ?_)))
  obtain ⟨v11,hx,hm⟩:=Qg hm
  refine QbA 6 Qf.toD p2.kids 0 v11 (es:=Qf.toDs p2.kids) (d:=(Qf.ex v11)) (Qf.toDs_eq _) hx (Qf.toD_eq v11) rfl ?_
  refine Qb 1 ?_
  obtain ⟨⟨v12,v13,v14⟩,hx,hm⟩:=Qg hm
  have hq:=QbY _ _ hx []
  refine Qp hq ?_
  refine Qb 8 (Qe (Qd (Qd (R_G (Qb 2 (Qe ?_))))))
  refine Qx hm (ne_dec _ _) (fun hm=>?_) (fun hm=>?_)
  ·refine Qd (R_G (Qb 5 (Qe (Qr ?_))))
   obtain ⟨rfl,rfl,rfl⟩:=QfE hm
   exact ⟨trivial,Qk⟩
  refine Qo (Qd (R_G (Qb 6 ?_)))
  obtain ⟨⟨v15,v16⟩,hx,hm⟩:=Qg hm
  have hq:=Qe0 _ _ hx []
  refine Qp hq ?_
  refine Qb 6 (Qe (Qd (Qd (R_G (Qb 2 (Qe ?_))))))
  refine Qx hm (ne_dec _ _) (fun hm=>?_) (fun hm=>?_)
  ·refine Qd (R_G (Qb 5 (Qe (Qr ?_))))
   obtain ⟨rfl,rfl,rfl⟩:=QfE hm
   exact ⟨trivial,Qk⟩
  refine Qo (Qd ?_)
  refine QaK ?_
  refine Qb 7 ?_
  obtain ⟨v17,hx,hm⟩:=Qg hm
  have hq:=XO _ _ hx []
  refine Qp hq ?_
  refine Qb 3 ?_
  obtain ⟨v18,hx,hm⟩:=Qg hm
  have hq:=XO _ _ hx []
  refine Qp hq ?_
  refine Qb 6 ?_
  refine Qe ⟨by kernel_rfl,?_⟩
  refine Qr ?_
  obtain ⟨rfl,rfl,rfl⟩:=QfE hm
  exact ⟨trivial,Qk⟩
theorem QbY:∀ x r,Zi x=some r→QbV x r:=g_ref15_expr
def QbW (x:((List QD) × Qf)):Option (Yf × Int) :=
 match x with
 | (p0,p1) =>
 Zi (p0,([]:(List Qq)),(⟨p1.kind,p1.fn,p1.axis,p1.name,p1.nums,p1.kids⟩:Qf))>>=fun ((v1,v2,v3):(Qh × (List Qq) × Int)) =>
 if v3≠0 then
  some ((⟨(⟨0,([]:(List Int)),0,([]:(List Int)),0,0,([]:(List Int)),([]:(List Qh))⟩:Qh),([]:(List Qq))⟩:Yf),v3)
 else
 some ((⟨v1,v2⟩:Yf),0)
def QeI:((List QD) × Qf)→(Yf × Int)→Prop:=fun x r=>match x,r with
 | (p0,p1),(r0,r1)=>∀ H,PC prog env 7 ([(.lst ((List.map QD.toD) p0)),(Qf.ex p1)].map .dat) H (.tup [(.dat (Yf.toD r0)),(Qc r1)]) H
theorem QfU:∀ x r,QbW x=some r→QeI x r:=by
 intro x r hm
 unfold QbW at hm
 unfold QeI
 obtain ⟨p0,p1⟩:=x
 obtain ⟨r0,r1⟩:=r
 intro H
 refine PC_sx (ds:=[(.lst ((List.map QD.toD) p0)),(Qf.ex p1)]) (fn:=f7) rfl ?_
 refine Qd (R_G (Qb 3 (Qe (Qd (R_G (Qb 2 ?_))))))
 obtain ⟨⟨v1,v2,v3⟩,hx,hm⟩:=Qg hm
 have hq:=QbY _ _ hx []
 refine Qp hq ?_
 refine Qb 8 (Qe (Qd (Qd (R_G (Qb 2 (Qe ?_))))))
 refine Qx hm (ne_dec _ _) (fun hm=>?_) (fun hm=>?_)
 ·refine Qd (R_G (Qb 4 (Qe (Qr ?_))))
  obtain ⟨rfl,rfl⟩:=QU hm
  exact ⟨trivial,Qk⟩
 refine Qo (Qd (R_G (Qb 5 (Qe (Qr ?_)))))
 obtain ⟨rfl,rfl⟩:=QU hm
 exact ⟨trivial,Qk⟩
mutual
def ZV (x:(Qf × (List Qf) × Int)):Option ((List Qf)) :=
 match x with
 | (p0,v201,v202) =>
 if v202≥0 then
  idx p0.kids v202>>=fun v602 =>
  XV v602>>=fun (v603:(List Qf)) =>
  app 88 v201 v603>>=fun v604 =>
  ZV (p0,v604,(W (v202 - 1)))
 else
 some v201
 partial_fixpoint
def XV (x:Qf):Option (List Qf) :=
 match x with
 | p0 =>
 ZV (p0,([]:List Qf),(W ((p0.kids.length:Int) - 1)))>>=fun (v601:(List Qf)) =>
 app 88 v601 ([p0]:List Qf)>>=fun v605 =>
 some v605
 partial_fixpoint
end
def Qan:(Qf × (List Qf) × Int)→(List Qf)→Prop:=fun x r=>match x with
 | (p0,v201,v202)=>∀ st,prune 2 ((Qy (QN [1,1,0,1,0,0] (QP f17))).bind (env.hint 17).keepAt) st=⟨kp 25 [(1,(.ptr 0 0)),(3,(.vec 1 (Qf.toDs v201))),(4,(Qc v202))],[(.box [(Qc p0.kind),(Qc p0.fn),(Qc p0.axis),(.dat (strD p0.name)),(.dat (.lst ((List.map Qa) p0.nums))),(.dat (.lst (Qf.toDs p0.kids)))]),(.tok 25 v201.length)]⟩ →
  RL prog env (env.hint 17) true (QN [1,1,0,1,0,0] (QP f17)) 2 st (fun e s=>match r with|v601=>e=.exit 0∧∃ d,s=⟨sl d 25 [(1,(.ptr 0 0)),(3,(.vec 1 (Qf.toDs v601)))],[(.box [(Qc p0.kind),(Qc p0.fn),(Qc p0.axis),(.dat (strD p0.name)),(.dat (.lst ((List.map Qa) p0.nums))),(.dat (.lst (Qf.toDs p0.kids)))]),(.tok 25 v601.length)]⟩)
def Qbt:Qf→(List Qf)→Prop:=fun x r=>match x,r with
 | p0,r0=>∀ H,PC prog env 17 ([(Qf.ex p0)].map .dat) H (.dat (.lst (Qf.toDs r0))) H
theorem g_ref08_Steps_L1:(∀ x r,ZV x=some r→Qan x r)∧(∀ x r,XV x=some r→Qbt x r):=by
 refine ZV.mutual_partial_correctness Qan Qbt ?_ ?_
 ·intro ZV XV QaD QcC x r hm
  unfold Qan
  obtain ⟨p0,v201,v202⟩:=x
  intro st hst
  refine RL_at hst ?_
  clear hst
  refine Qd (Qd (R_G (Qb 2 (Qe ?_))))
  refine Qx hm (rfl) (fun hm=>?_) (fun hm=>?_)
  ·refine Qo (Qd (Qw (R_G (Qb 4 ?_))))
   obtain ⟨v602,hx,hm⟩:=Qg hm
   refine QbA 6 Qf.toD p0.kids v202 v602 (es:=Qf.toDs p0.kids) (d:=(Qf.ex v602)) (Qf.toDs_eq _) hx (Qf.toD_eq v602) rfl ?_
   refine Qb 1 ?_
   obtain ⟨v603,hx,hm⟩:=Qg hm
   have hq:=QcC _ _ hx []
   refine Qp hq ?_
   obtain ⟨v604,hx,hm⟩:=Qg hm
   refine X8 25 6 88 1 Qf.toD v201 v603 v604 (xs:=Qf.toDs v201) (es:=Qf.toDs v603) (L:=Qf.toDs) Qf.toDs_eq rfl rfl Qf.fit hx ?_
   refine Qb 1 (Qe (R_G (Qb 3 (Qe ?_))))
   exact QaD _ _ hm _ (by kernel_rfl)
  refine Q8 ?_
  obtain rfl:=Qu hm
  exact ⟨rfl,Qm⟩
 ·intro ZV QaD p0 r0 hm
  unfold Qbt
  intro H
  refine PC_sx (ds:=[(Qf.ex p0)]) (fn:=f17) rfl ?_
  refine Qd (R_G (Qb 2 (Qe (Qd (R_G (Qb 1 (Qe (Qd (Qd (R_G (Qb 2 ?_)))))))))))
  refine QO Qf.toD p0.kids (es:=Qf.toDs p0.kids) (Qf.toDs_eq _) ?_
  refine Qb 2 (Qe (Qw ?_))
  obtain ⟨v601,hs,hm⟩:=Qg hm
  refine Ze ?_
  refine RL_use (QaD _ _ hs) (by kernel_rfl) ?_
  clear hs
  intro e s hp
  obtain ⟨rfl,d,rfl⟩:=hp
  refine Qd (R_G (Qb 3 ?_))
  obtain ⟨v605,hx,hm⟩:=Qg hm
  refine X8 25 6 88 1 Qf.toD v601 ([p0]:List Qf) v605 (xs:=Qf.toDs v601) (es:=[(Qf.ex p0)]) (L:=Qf.toDs) Qf.toDs_eq rfl (by simp only [Qf.toDs,Qf.toD_eq]) Qf.fit hx ?_
  refine Qb 1 (Qe (Qr ?_))
  obtain rfl:=Qu hm
  exact ⟨trivial,Qk⟩
theorem QaD:∀ x r,ZV x=some r→Qan x r:=g_ref08_Steps_L1.1
theorem QcC:∀ x r,XV x=some r→Qbt x r:=g_ref08_Steps_L1.2
def Xj (x:((List ByteArray) × ByteArray × Int)):Option (Unit ⊕ Unit) :=
 match x with
 | (p1,p0,v201) =>
 if v201 < (p1.length:Int) then
  idx p1 v201>>=fun v601 =>
  if v601=p0 then
   some (Sum.inl ())
  else
  Xj (p1,p0,(W (v201+1)))
 else
 some (Sum.inr ())
 partial_fixpoint
def Qeb:((List ByteArray) × ByteArray × Int)→(Unit ⊕ Unit)→Prop:=fun x r=>match x with
 | (p1,p0,v201)=>∀ st,prune 0 ((Qy (QN [1,0,1,0,0] (QP f18))).bind (env.hint 18).keepAt) st=⟨kp 18 [(0,(.dat (strD p0))),(1,(.dat (.lst ((List.map strD) p1)))),(5,(Qc v201))],[]⟩ →
  RL prog env (env.hint 18) true (QN [1,0,1,0,0] (QP f18)) 0 st (fun e s=>match r with|.inl _=>e=.ret∧∃ d,s=⟨sl d 18 [(4,(Qs true))],[]⟩|.inr (_)=>e=.exit 0∧∃ d,s=⟨sl d 18 [],[]⟩)
theorem Qbz:∀ x r,Xj x=some r→Qeb x r:=by
 refine Xj.partial_correctness _ (fun Xj Qbz x r hm=>?_)
 unfold Qeb
 obtain ⟨p1,p0,v201⟩:=x
 intro st hst
 refine RL_at hst ?_
 clear hst
 refine Qd (Qd (R_G (Qb 2 ?_)))
 refine QO strD p1 (es:=(List.map strD) p1) rfl ?_
 refine Qb 1 (Qe ?_)
 refine Qx hm (rfl) (fun hm=>?_) (fun hm=>?_)
 ·refine Qo (Qd (Qw (Qd (R_G (Qb 2 ?_)))))
  refine Q3 1 strD hm rfl (fun _=>rfl) (fun v601 hm=>?_)
  refine Qb 2 ?_
  refine ZD rfl (fun _=>QcH (a:=v601) (b:=p0) rfl (by kernel_rfl) (by kernel_rfl)) ?_
  refine Qe ?_
  refine Qx hm (rfl) (fun hm=>?_) (fun hm=>?_)
  ·refine Qd (R_G (Qb 1 (Qe (Qr ?_))))
   obtain rfl:=Qu hm
   exact ⟨rfl,Qm⟩
  refine Qo (R_G (Qb 3 (Qe ?_)))
  exact Qbz _ _ hm _ (by kernel_rfl)
 refine Q8 ?_
 obtain rfl:=Qu hm
 exact ⟨rfl,Qm⟩
def Qb6 (x:(ByteArray × (List ByteArray))):Option Bool :=
 match x with
 | (p0,p1) =>
 (
 Xj (p1,p0,0)>>=fun (out:Unit ⊕ Unit) =>
 match out with
 | .inl _ =>
  some true
 | .inr (_) =>
  some false
 )
def Qfo:(ByteArray × (List ByteArray))→Bool→Prop:=fun x r=>match x,r with
 | (p0,p1),r0=>∀ H,PC prog env 18 ([(strD p0),(.lst ((List.map strD) p1))].map .dat) H (Qs r0) H
theorem Qgh:∀ x r,Qb6 x=some r→Qfo x r:=by
 intro x r0 hm
 unfold Qb6 at hm
 unfold Qfo
 obtain ⟨p0,p1⟩:=x
 intro H
 refine PC_sx (ds:=[(strD p0),(.lst ((List.map strD) p1))]) (fn:=f18) rfl ?_
 refine Qd (R_G (Qb 1 (Qe (Qd (Qd (R_G (Qb 1 (Qe (Qw ?_)))))))))
 obtain ⟨out,hs,hm⟩:=Qg hm
 refine Ze ?_
 rcases out with _|_
 ·refine RL_use (Qbz _ _ hs) (by kernel_rfl) ?_
  clear hs
  intro e s hp
  obtain ⟨rfl,d,rfl⟩:=hp
  obtain rfl:=Qu hm
  exact ⟨trivial,Qk⟩
 ·refine RL_use (Qbz _ _ hs) (by kernel_rfl) ?_
  clear hs
  intro e s hp
  obtain ⟨rfl,d,rfl⟩:=hp
  refine Qd (R_G (Qb 1 (Qe (Qr ?_))))
  obtain rfl:=Qu hm
  exact ⟨trivial,Qk⟩
def Zw (x:((List Qf) × Qf × (List ByteArray) × Int)):Option ((List ByteArray)) :=
 match x with
 | (v1,p0,v202,v203) =>
 if v203 < (v1.length:Int) then
  (idx v1 v203>>=fun v604 =>
  if v604.kind=2 then
   idx v1 v203>>=fun v605 =>
   Qb6 (v605.name,v202)>>=fun (v606:Bool) =>
   some (!v606)
  else
  some false
  )>>=fun (v603:Bool) =>
  if v603=true then
   idx v1 v203>>=fun v607 =>
   app 16 v202 ([v607.name]:List ByteArray)>>=fun v608 =>
   Zw (v1,p0,v608,(W (v203+1)))
  else
  Zw (v1,p0,v202,(W (v203+1)))
 else
 some v202
 partial_fixpoint
def QcK:((List Qf) × Qf × (List ByteArray) × Int)→(List ByteArray)→Prop:=fun x r=>match x with
 | (v1,p0,v202,v203)=>∀ st,prune 2 ((Qy (QN [1,1,1,0,1,0,0] (QP f8))).bind (env.hint 8).keepAt) st=⟨kp 39 [(3,(.vec 1 ((List.map strD) v202))),(4,(.dat (.lst (Qf.toDs v1)))),(5,(Qc v203))],[(.box [(Qc p0.kind),(Qc p0.fn),(Qc p0.axis),(.dat (strD p0.name)),(.dat (.lst ((List.map Qa) p0.nums))),(.dat (.lst (Qf.toDs p0.kids)))]),(.tok 9 v202.length)]⟩ →
  RL prog env (env.hint 8) true (QN [1,1,1,0,1,0,0] (QP f8)) 2 st (fun e s=>match r with|v602=>e=.exit 0∧∃ d,s=⟨sl d 39 [(3,(.vec 1 ((List.map strD) v602)))],[(.box [(Qc p0.kind),(Qc p0.fn),(Qc p0.axis),(.dat (strD p0.name)),(.dat (.lst ((List.map Qa) p0.nums))),(.dat (.lst (Qf.toDs p0.kids)))]),(.tok 9 v602.length)]⟩)
theorem QaC:∀ x r,Zw x=some r→QcK x r:=by
 refine Zw.partial_correctness _ (fun Zw QaC x r hm=>?_)
 unfold QcK
 obtain ⟨v1,p0,v202,v203⟩:=x
 intro st hst
 refine RL_at hst ?_
 clear hst
 refine Qd (Qd (R_G (Qb 2 ?_)))
 refine QO Qf.toD v1 (es:=Qf.toDs v1) (Qf.toDs_eq _) ?_
 refine Qb 1 (Qe ?_)
 refine Qx hm (rfl) (fun hm=>?_) (fun hm=>?_)
 ·refine Qo (Qd (Qw (Qd ?_)))
  obtain ⟨v603,hs,hm⟩:=Qg hm
  refine Zy (fun d=>⟨sl d 39 [(3,(.vec 1 ((List.map strD) v202))),(4,(.dat (.lst (Qf.toDs v1)))),(5,(Qc v203)),(29,(Qs v603))],[(.box [(Qc p0.kind),(Qc p0.fn),(Qc p0.axis),(.dat (strD p0.name)),(.dat (.lst ((List.map Qa) p0.nums))),(.dat (.lst (Qf.toDs p0.kids)))]),(.tok 9 v202.length)]⟩) ?_ (fun d=>?_)
  ·replace hm:=hs
   clear hs
   refine R_G (Qb 2 ?_)
   obtain ⟨v604,hx,hm⟩:=Qg hm
   refine QbA 6 Qf.toD v1 v203 v604 (es:=Qf.toDs v1) (d:=(Qf.ex v604)) (Qf.toDs_eq _) hx (Qf.toD_eq v604) rfl ?_
   refine Qb 4 ?_
   refine QA 20 hm (Q1 _ _) (fun hm=>?_) (fun hm=>?_)
   ·refine Qb 2 ?_
    obtain ⟨v605,hx,hm⟩:=Qg hm
    refine QbA 6 Qf.toD v1 v203 v605 (es:=Qf.toDs v1) (d:=(Qf.ex v605)) (Qf.toDs_eq _) hx (Qf.toD_eq v605) rfl ?_
    refine Qb 3 ?_
    obtain ⟨v606,hx,hm⟩:=Qg hm
    have hq:=Qgh _ _ hx []
    refine Qp hq ?_
    refine Qb 2 (Qe ?_)
    obtain rfl:=Qu hm
    exact Qm
   refine Qb 9 (Qe ?_)
   obtain rfl:=Qu hm
   exact Qm
  clear hs
  refine Qx hm (QH _) (fun hm=>?_) (fun hm=>?_)
  ·refine R_G (Qb 3 ?_)
   obtain ⟨v607,hx,hm⟩:=Qg hm
   refine QbA 6 Qf.toD v1 v203 v607 (es:=Qf.toDs v1) (d:=(Qf.ex v607)) (Qf.toDs_eq _) hx (Qf.toD_eq v607) rfl ?_
   refine Qb 3 ?_
   obtain ⟨v608,hx,hm⟩:=Qg hm
   refine X8 9 1 16 1 strD v202 ([v607.name]:List ByteArray) v608 (xs:=(List.map strD) v202) (es:=(List.map strD) ([v607.name]:List ByteArray)) (L:=(List.map strD)) (fun _=>rfl) rfl rfl (fun _=>rfl) hx ?_
   refine Qb 1 (Qe (R_G (Qb 3 (Qe ?_))))
   exact QaC _ _ hm _ (by kernel_rfl)
  refine Qo (R_G (Qb 3 (Qe ?_)))
  exact QaC _ _ hm _ (by kernel_rfl)
 refine Q8 ?_
 obtain rfl:=Qu hm
 exact ⟨rfl,Qm⟩
def XU (x:Qf):Option (List ByteArray) :=
 match x with
 | p0 =>
 XV p0>>=fun (v1:(List Qf)) =>
 Zw (v1,p0,([]:List ByteArray),0)>>=fun (v602:(List ByteArray)) =>
 some v602
def Qec:Qf→(List ByteArray)→Prop:=fun x r=>match x,r with
 | p0,r0=>∀ H,PC prog env 8 ([(Qf.ex p0)].map .dat) H (.dat (.lst ((List.map strD) r0))) H
theorem QfJ:∀ x r,XU x=some r→Qec x r:=by
 intro p0 r0 hm
 unfold XU at hm
 unfold Qec
 intro H
 refine PC_sx (ds:=[(Qf.ex p0)]) (fn:=f8) rfl ?_
 refine Qd (R_G (Qb 2 (Qe (Qd (R_G (Qb 1 (Qe (Qd (R_G (Qb 1 ?_))))))))))
 obtain ⟨v1,hx,hm⟩:=Qg hm
 have hq:=QcC _ _ hx []
 refine Qp hq ?_
 refine Qb 1 (Qe (Qd (Qd (R_G (Qb 1 (Qe (Qw ?_)))))))
 obtain ⟨v602,hs,hm⟩:=Qg hm
 refine Ze ?_
 refine RL_use (QaC _ _ hs) (by kernel_rfl) ?_
 clear hs
 intro e s hp
 obtain ⟨rfl,d,rfl⟩:=hp
 refine Qd (R_G (Qb 2 (Qe (Qr ?_))))
 obtain rfl:=Qu hm
 exact ⟨trivial,Qk⟩
def Y8 (x:Qf):Option Bool :=
 match x with
 | p0 =>
 (Qbv ()>>=fun (v2:Bool) =>
 if v2=false then
  some true
 else
 QaP ((⟨p0.kind,p0.fn,p0.axis,p0.name,p0.nums,p0.kids⟩:Qf),60)>>=fun (v3:Bool) =>
 some (!v3)
 )>>=fun (v1:Bool) =>
 if v1=true then
  Qbv ()>>=fun (v4:Bool) =>
  some v4
 else
 JU (p0.kind,p0.fn,p0.axis,p0.name,p0.nums,p0.kids)>>=fun ((v5,v6,v7,v8,v9,v10,v11,v12,v13,v14):(Int × (List Int) × Int × (List Int) × Int × Int × (List Int) × (List Qi) × (List Ql) × Int)) =>
 QbW (([]:(List QD)),(⟨p0.kind,p0.fn,p0.axis,p0.name,p0.nums,p0.kids⟩:Qf))>>=fun ((v15,v16):(Yf × Int)) =>
 if v14=v16 then
  XU (⟨p0.kind,p0.fn,p0.axis,p0.name,p0.nums,p0.kids⟩:Qf)>>=fun (v17:(List ByteArray)) =>
  if (v17.length:Int)=0 then
   some true
  else
  some (v14 != 0)
 else
 some false
def QbM:Qf→Bool→Prop:=fun x r=>match x,r with
 | p0,r0=>∀ H,PC prog env 3 ([(Qf.ex p0)].map .dat) H (Qs r0) H
theorem w_law15_ElabUnbound:∀ x r,Y8 x=some r→QbM x r:=by
 intro p0 r0 hm
 unfold Y8 at hm
 unfold QbM
 intro H
 refine PC_sx (ds:=[(Qf.ex p0)]) (fn:=f3) rfl ?_
 refine Qd (R_G (Qb 2 (Qe (Qd (Qd ?_)))))
 obtain ⟨v1,hs,hm⟩:=Qg hm
 refine Zy (fun d=>⟨sl d 38 [(1,(.iptr [(Qa p0.kind),(Qa p0.fn),(Qa p0.axis),(strD p0.name),(.lst ((List.map Qa) p0.nums)),(.lst (Qf.toDs p0.kids))])),(13,(Qs v1))],[]⟩) ?_ (fun d=>?_)
 ·replace hm:=hs
  clear hs
  refine R_G ?_
  obtain ⟨v2,hx,hm⟩:=Qg hm
  have hq:=Qeq _ _ hx []
  refine Qp hq ?_
  refine Qb 2 ?_
  refine QA 9 hm (QaT _) (fun hm=>?_) (fun hm=>?_)
  ·refine Qb 4 (Qe ?_)
   obtain rfl:=Qu hm
   exact Qm
  refine Qb 1 ?_
  obtain ⟨v3,hx,hm⟩:=Qg hm
  have hq:=QfL _ _ hx []
  refine Qp hq ?_
  refine Qb 2 (Qe ?_)
  obtain rfl:=Qu hm
  exact Qm
 clear hs
 refine Qx hm (QH _) (fun hm=>?_) (fun hm=>?_)
 ·refine Qd (R_G ?_)
  obtain ⟨v4,hx,hm⟩:=Qg hm
  have hq:=Qeq _ _ hx []
  refine Qp hq ?_
  refine Qb 1 (Qe (Qr ?_))
  obtain rfl:=Qu hm
  exact ⟨trivial,Qk⟩
 refine Qo (Qd (R_G (Qb 1 ?_)))
 obtain ⟨⟨v5,v6,v7,v8,v9,v10,v11,v12,v13,v14⟩,hx,hm⟩:=Qg hm
 have hq:=QeQ _ _ hx
 dsimp only [Qa6] at hq
 refine Qbr (n:=0) hq ?_
 refine Qb 6 (Qe (Qd (R_G (Qb 1 ?_))))
 obtain ⟨⟨v15,v16⟩,hx,hm⟩:=Qg hm
 have hq:=QfU _ _ hx []
 refine Qp hq ?_
 refine Qb 6 (Qe (Qd (R_G (Qb 4 ?_))))
 refine QA 28 hm (Q1 _ _) (fun hm=>?_) (fun hm=>?_)
 ·refine Qb 1 ?_
  obtain ⟨v17,hx,hm⟩:=Qg hm
  have hq:=QfJ _ _ hx []
  refine Qp hq ?_
  refine QO strD v17 (es:=(List.map strD) v17) rfl ?_
  refine Qb 2 ?_
  refine QA 33 hm (Q1 _ _) (fun hm=>?_) (fun hm=>?_)
  ·refine Qb 5 (Qe (Qr ?_))
   obtain rfl:=Qu hm
   exact ⟨trivial,Qk⟩
  refine Qb 5 (Qe (Qr ?_))
  obtain rfl:=Qu hm
  exact ⟨trivial,Qk⟩
 refine Qb 10 (Qe (Qr ?_))
 obtain rfl:=Qu hm
 exact ⟨trivial,Qk⟩
set_option linter.unusedSimpArgs false
theorem Equal_L1:∀ (s t p q:List Int),s.length=t.length→p.length=q.length→Sm (p++s).length→Yi (p++s,q++t,(p.length:Int))=some (if s=t then .inr () else .inl ())
 | [],[],p,q,_,_,hs=>by
  rw [Yi]; simp only [ZZ,if_false,if_true]
 | x::s,y::t,p,q,h1,h2,hs=>by
  rw [Yi]
  have ih:=Equal_L1 s t (p++[x]) (q++[y]) (by simpa using h1) (by simp [h2]) (by rw [← QE]; exact hs)
  rw [← QE,← QE] at ih
  simp only [ZE,if_true,Q2,Qj,mid_W hs,ih]
  rw [h2,Q2]
  by_cases he:x=y <;> simp [he,Qj]
 | [],_::_,_,_,h,_,_=>by cases h
 | _::_,[],_,_,h,_,_=>by cases h
theorem Equal_ok (a b:List Int) (hs:Sm a.length):QaM (a,b)=some (decide (a=b)):=by
 simp only [QaM]
 by_cases h:a.length=b.length
 ·have e:=Equal_L1 a b [] [] h rfl hs
  have e2:¬ ((a.length:Int)≠(b.length:Int)):=by omega
  simp only [e2,if_false]
  have e3:Yi (a,b,0)=_:=e
  rw [e3]
  by_cases hab:a=b
  ·subst hab; simp
  ·rw [if_neg hab,decide_eq_false hab]; rfl
 ·have e2:((a.length:Int)≠(b.length:Int)):=by omega
  have e3:a≠b:=fun e=>h (by rw [e])
  rw [if_pos e2,decide_eq_false e3]

def prodI (l:List Int):Int:=l.foldl (· * ·) 1
def negB (l:List Int):Bool:=l.any fun d=>decide (d < 0)
def bigB (l:List Int):Bool:=l.any fun d=>decide (d > 65536)
def prodR (l:List Int):Int × Int:=if negB l then (0,6) else if bigB l then (0,7) else if prodI l > 65536 then (0,7) else (prodI l,0)
def checkR (l:List Int):Int:=if negB l then 6 else if l.length > 16∨bigB l=true∨prodI l > 65536 then 7 else 0
def cellsR (l:List Int):Int:=if checkR l=0 then prodI l else 0
theorem foldl_mul:∀ (l:List Int) (x:Int),l.foldl (· * ·) x=x * l.foldl (· * ·) 1
 | [],x=>by simp
 | d::l,x=>by rw [List.foldl_cons,foldl_mul l (x * d),List.foldl_cons,foldl_mul l (1 * d),Int.one_mul,Int.mul_assoc]
theorem prodI_cons (d:Int) (l:List Int):prodI (d::l)=d * prodI l:=by rw [prodI,List.foldl_cons,foldl_mul,Int.one_mul]; rfl
theorem prodI_nil:prodI []=1:=rfl
theorem prodI_append (a b:List Int):prodI (a++b)=prodI a * prodI b:=by rw [prodI,prodI,prodI,List.foldl_append,foldl_mul]
theorem prodI_pos:∀ {l:List Int},(∀ d∈l,1≤d)→1≤prodI l
 | [],_=>by simp [prodI]
 | d::l,h=>by
  have h1:=prodI_pos (l:=l) (fun x hx=>h x (List.mem_cons_of_mem _ hx))
  have h2:=h d (List.mem_cons_self ..)
  rw [prodI_cons]
  have:=Int.mul_le_mul h2 h1 (by omega) (by omega)
  omega
theorem prodI_zero {l:List Int} (h:(0:Int)∈l):prodI l=0:=by
 obtain ⟨s,t,rfl⟩:=List.append_of_mem h
 rw [prodI_append,prodI_cons]; simp
theorem negB_cons (d:Int) (l:List Int):negB (d::l)=(decide (d < 0) || negB l):=rfl
theorem bigB_cons (d:Int) (l:List Int):bigB (d::l)=(decide (d > 65536) || bigB l):=rfl

theorem Prod_L1:∀ (s p:List Int) (z:Bool),Sm (p++s).length→ZA (p++s,z,(p.length:Int))=some (if negB s then .inl () else .inr (z || s.any (· == 0)))
 | [],p,z,hs=>by
  rw [ZA]; simp only [ZZ,if_false]; simp [negB]
 | x::s,p,z,hs=>by
  rw [ZA]
  have ih:=fun z=>Prod_L1 s (p++[x]) z (by rw [← QE]; exact hs)
  rw [← QE] at ih
  simp only [ZE,if_true,Q2,Qj,mid_W hs,ih,negB_cons]
  by_cases hn:x < 0
  ·simp [hn]
  ·cases z <;> by_cases hz:x=0 <;> simp [hn,hz]
theorem Prod_L2:∀ (s p:List Int) (z:Bool),Sm (p++s).length→ZN (p++s,z,(p.length:Int))=some (if bigB s then .inl () else .inr ())
 | [],p,z,hs=>by
  rw [ZN]; simp only [ZZ,if_false]; simp [bigB]
 | x::s,p,z,hs=>by
  rw [ZN]
  have ih:=Prod_L2 s (p++[x]) z (by rw [← QE]; exact hs)
  rw [← QE] at ih
  simp only [ZE,if_true,Q2,Qj,mid_W hs,ih,bigB_cons]
  by_cases hn:x > 65536 <;> simp [hn]
theorem Prod_L3:∀ (s p:List Int) (m:Int),Sm (p++s).length→(∀ d∈s,1≤d∧d≤65536)→1≤m→m≤65536→ZO (p++s,m,(p.length:Int))=some (if m * prodI s > 65536 then .inl () else .inr (m * prodI s))
 | [],p,m,hs,hd,h1,h2=>by
  rw [ZO]; simp only [ZZ,if_false,prodI_nil,Int.mul_one]
  rw [if_neg (by omega)]
 | x::s,p,m,hs,hd,h1,h2=>by
  rw [ZO]
  have hx:=hd x (List.mem_cons_self ..)
  have b1:=Int.mul_le_mul h2 hx.2 (by omega) (by omega)
  have b2:=Int.mul_le_mul h1 hx.1 (by omega) (by omega)
  have hw:W (m * x)=m * x:=W_ok (by omega) (by omega)
  have hds:∀ d∈s,1≤d∧d≤65536:=fun d h=>hd d (List.mem_cons_of_mem _ h)
  simp only [ZE,if_true,Q2,Qj,mid_W hs,hw,prodI_cons]
  rw [← Int.mul_assoc]
  by_cases hn:m * x > 65536
  ·have hp:=prodI_pos (l:=s) (fun d h=>(hds d h).1)
   have:m * x * 1≤m * x * prodI s:=Int.mul_le_mul_of_nonneg_left hp (by omega)
   rw [if_pos hn,if_pos (by omega)]
  ·have ih:=Prod_L3 s (p++[x]) (m * x) (by rw [← QE]; exact hs) hds (by omega) (by omega)
   rw [← QE] at ih
   rw [if_neg hn,ih]
theorem neg_all {l:List Int} (h:negB l=false):∀ d∈l,0≤d:=fun d hd=>by
 have:=List.any_eq_false.1 h d hd
 simp at this; omega
theorem big_all {l:List Int} (h:bigB l=false):∀ d∈l,d≤65536:=fun d hd=>by
 have:=List.any_eq_false.1 h d hd
 simp at this; omega
theorem Product_ok (l:List Int) (hs:Sm l.length):XG l=some (prodR l):=by
 have e1:ZA (l,false,0)=_:=Prod_L1 l [] false hs
 have e2:∀ z,ZN (l,z,0)=_:=fun z=>Prod_L2 l [] z hs
 simp only [XG,e1,Qj,prodR]
 by_cases hn:negB l=true
 ·simp [hn]
 ·have hn':negB l=false:=by simpa using hn
  simp only [hn',Bool.false_eq_true,if_false,Bool.false_or,e2,Qj]
  by_cases hb:bigB l=true
  ·simp [hb]
  ·have hb':bigB l=false:=by simpa using hb
   simp only [hb',Bool.false_eq_true,if_false]
   by_cases hz:(l.any (· == 0))=true
   ·have:prodI l=0:=prodI_zero (by simpa using hz)
    simp [hz,this]
   ·have hz':l.any (· == 0)=false:=(Bool.not_eq_true _).mp hz
    have e3:ZO (l,1,0)=_:=Prod_L3 l [] 1 hs (fun d hd=>by
     have h1:=neg_all hn' d hd
     have h2:=big_all hb' d hd
     have h3:d≠0:=fun e=>by have:=List.any_eq_false.1 hz' d hd; simp [e] at this
     omega) (by omega) (by omega)
    simp only [hz',Bool.false_eq_true,if_false,e3,Qj,Int.one_mul]
    by_cases hp:prodI l > 65536 <;> simp [hp]
theorem Check_L1:∀ (s p:List Int),Sm (p++s).length→Yh (p++s,(p.length:Int))=some (if negB s then .inl () else .inr ())
 | [],p,hs=>by
  rw [Yh]; simp only [ZZ,if_false]; simp [negB]
 | x::s,p,hs=>by
  rw [Yh]
  have ih:=Check_L1 s (p++[x]) (by rw [← QE]; exact hs)
  rw [← QE] at ih
  simp only [ZE,if_true,Q2,Qj,mid_W hs,ih,negB_cons]
  by_cases hn:x < 0 <;> simp [hn]
theorem Check_ok (l:List Int) (hs:Sm l.length):YN l=some (checkR l):=by
 have e1:Yh (l,0)=_:=Check_L1 l [] hs
 simp only [YN,e1,Qj,checkR,Product_ok l hs]
 by_cases hn:negB l=true
 ·simp [hn]
 ·simp only [hn,if_false,prodR,Bool.false_eq_true]
  by_cases hl:l.length > 16
  ·have:(l.length:Int) > 16:=by omega
   simp [hl,this,Qj]
  ·have:¬ (l.length:Int) > 16:=by omega
   by_cases hb:bigB l=true
   ·simp [hl,this,hb,Qj]
   ·by_cases hp:prodI l > 65536 <;> simp [hl,this,hb,hp,Qj]
def remL (l:List Int) (k:Nat):List Int:=l.take k++l.drop (k+1)
def insL (l:List Int) (k:Nat) (v:Int):List Int:=l.take k++v::l.drop k
def repL (l:List Int) (k:Nat) (v:Int):List Int:=l.take k++v::l.drop (k+1)
theorem checkR_zero {l:List Int}:checkR l=0↔(∀ d∈l,0≤d∧d≤65536)∧l.length≤16∧prodI l≤65536:=by
 unfold checkR
 constructor
 ·intro h
  cases hn:negB l
  ·rw [hn,if_neg (by decide)] at h
   split at h
   ·cases h
   ·rename_i h2
    have hb:bigB l=false:=by
     cases hb:bigB l
     ·rfl
     ·exact absurd (Or.inr (Or.inl hb)) h2
    exact ⟨fun d hd=>⟨neg_all hn d hd,big_all hb d hd⟩,by have:=fun h=>h2 (Or.inl h); omega,by have:=fun h=>h2 (Or.inr (Or.inr h)); omega⟩
  ·rw [hn] at h; cases h
 ·rintro ⟨h1,h2,h3⟩
  have hn:negB l=false:=List.any_eq_false.2 fun d hd=>by have:=h1 d hd; simp; omega
  have hb:bigB l=false:=List.any_eq_false.2 fun d hd=>by have:=h1 d hd; simp; omega
  rw [hn,hb,if_neg (by decide),if_neg]
  rintro (h|h|h)
  ·omega
  ·cases h
  ·omega
theorem prod_rep (l:List Int) (i:Nat) (x:Int):prodI (repL l i x)=x * prodI (remL l i):=by
 rw [repL,remL,prodI_append,prodI_cons,prodI_append,Int.mul_left_comm]
theorem rep_self {l:List Int} {i:Nat} (hi:i < l.length):repL l i l[i]=l:=by
 rw [repL,← List.drop_eq_getElem_cons hi,List.take_append_drop]
theorem rep_mem {l:List Int} {i:Nat} {x d:Int}:d∈repL l i x↔d=x∨d∈remL l i:=by
 simp only [repL,remL,List.mem_append,List.mem_cons]
 constructor
 ·rintro (h|h|h)
  ·exact .inr (.inl h)
  ·exact .inl h
  ·exact .inr (.inr h)
 ·rintro (h|h|h)
  ·exact .inr (.inl h)
  ·exact .inl h
  ·exact .inr (.inr h)
theorem rep_len {l:List Int} {i:Nat} {x:Int} (hi:i < l.length):(repL l i x).length=l.length:=by simp [repL]; omega
theorem rem_mem {l:List Int} {i:Nat} {d:Int} (h:d∈remL l i):d∈l:=by
 simp only [remL,List.mem_append] at h
 rcases h with h|h
 ·exact List.mem_of_mem_take h
 ·exact List.mem_of_mem_drop h
theorem prodI_nonneg:∀ {l:List Int},(∀ d∈l,0≤d)→0≤prodI l
 | [],_=>by simp [prodI]
 | d::l,h=>by
  rw [prodI_cons]
  exact Int.mul_nonneg (h d (List.mem_cons_self ..)) (prodI_nonneg fun x hx=>h x (List.mem_cons_of_mem _ hx))
theorem part_right {l:List Int} {i:Nat} {x y:Int} (hi:i < l.length) (h:checkR (repL l i y)=0) (h0:0≤x) (hx:x≤y):checkR (repL l i x)=0:=by
 obtain ⟨h1,h2,h3⟩:=checkR_zero.1 h
 have hr:∀ d∈remL l i,0≤d∧d≤65536:=fun d hd=>h1 d (rep_mem.2 (.inr hd))
 have hy:=h1 y (rep_mem.2 (.inl rfl))
 refine checkR_zero.2 ⟨fun d hd=>?_,?_,?_⟩
 ·rcases rep_mem.1 hd with rfl|hd
  ·omega
  ·exact hr d hd
 ·rw [rep_len hi] at h2 ⊢; exact h2
 ·rw [prod_rep] at h3 ⊢
  have:=Int.mul_le_mul_of_nonneg_right hx (prodI_nonneg fun d hd=>(hr d hd).1)
  omega
theorem rep_other {a b:List Int} {i:Nat} (ha:i < a.length) (hb:i < b.length) (hrem:remL a i=remL b i) (x:Int):repL a i x=repL b i x:=by
 have e1:a.take i=b.take i:=by
  have:=congrArg (List.take i) hrem
  simpa [remL,List.take_append_of_le_length,Nat.le_of_lt ha,Nat.le_of_lt hb,List.length_take,List.take_take] using this
 have e2:a.drop (i+1)=b.drop (i+1):=by
  have h3:a.take i++a.drop (i+1)=b.take i++b.drop (i+1):=hrem
  rw [e1] at h3
  exact List.append_cancel_left h3
 rw [repL,repL,e1,e2]
def Dims (X:List Int):Prop:=∀ d∈X,0≤d∧d≤65536
theorem getD_in {X:List Int} {k:Nat} (h:Dims X) (hk:k < X.length):0≤X.getD k 0∧X.getD k 0≤65536:=by
 rw [List.getD_eq_getElem?_getD,List.getElem?_eq_getElem hk]; exact h _ (List.getElem_mem hk)
theorem idx_getD {X:List Int} {k:Nat} (hk:k < X.length):idx X (k:Int)=some (X.getD k 0):=by
 rw [idx_ok hk,List.getD_eq_getElem?_getD,List.getElem?_eq_getElem hk]; rfl
inductive Below:List Int→List Int→Prop
 | nil:Below [] []
 | cons {x y:Int} {s t:List Int} (h0:0≤x) (h1:x≤y) (h:Below s t):Below (x::s) (y::t)
theorem Below.len {s t:List Int} (h:Below s t):s.length=t.length:=by
 induction h with
 | nil=>rfl
 | cons _ _ _ ih=>simp [ih]
theorem Below.prod {s t:List Int} (h:Below s t):0≤prodI s∧prodI s≤prodI t:=by
 induction h with
 | nil=>simp [prodI]
 | cons h0 h1 _ ih =>
  rw [prodI_cons,prodI_cons]
  exact ⟨Int.mul_nonneg h0 ih.1,Int.mul_le_mul h1 ih.2 ih.1 (by omega)⟩
theorem Below.dims {s t:List Int} (h:Below s t) (ht:Dims t):Dims s:=by
 induction h with
 | nil=>intro d hd; cases hd
 | @cons x y s t h0 h1 _ ih =>
  intro d hd
  rcases List.mem_cons.1 hd with rfl|hd
  ·have:=ht y (List.mem_cons_self ..); omega
  ·exact ih (fun z hz=>ht z (List.mem_cons_of_mem _ hz)) d hd
theorem Below.right {s t:List Int} (h:Below s t) (ht:checkR t=0):checkR s=0:=by
 obtain ⟨h1,h2,h3⟩:=checkR_zero.1 ht
 have:=h.prod
 exact checkR_zero.2 ⟨h.dims h1,by rw [h.len]; exact h2,by omega⟩
theorem check_dims {X:List Int} (h0:∀ d∈X,0≤d):checkR X=0∨checkR X=7:=by
 have hn:negB X=false:=List.any_eq_false.2 fun d hd=>by have:=h0 d hd; simp; omega
 unfold checkR
 rw [hn]
 simp only [Bool.false_eq_true,if_false]
 split
 ·exact .inr rfl
 ·exact .inl rfl
theorem prodI_ones:∀ n:Nat,prodI (List.replicate n 1)=1
 | 0=>rfl
 | n+1=>by rw [List.replicate_succ,prodI_cons,prodI_ones n]; rfl
theorem check_ones {n:Nat} (h:n≤16):checkR (List.replicate n 1)=0 :=
 checkR_zero.2 ⟨fun d hd=>by rw [List.eq_of_mem_replicate hd]; omega,by simpa using h,by rw [prodI_ones]; omega⟩
theorem Cont1_L1:∀ (s p:List Int),Sm (p++s).length→∃ r,QJ (p++s,(p.length:Int))=some r∧(negB s=true→∃ j:Nat,r=.inl (j:Int))∧(negB s=false→r=.inr ())
 | [],p,hs=>by
  rw [QJ]; simp only [ZZ,if_false]; exact ⟨_,rfl,fun h=>(by cases h),fun _=>rfl⟩
 | x::s,p,hs=>by
  rw [QJ]
  obtain ⟨r,h1,h2,h3⟩:=Cont1_L1 s (p++[x]) (by rw [← QE]; exact hs)
  rw [← QE] at h1
  simp only [ZE,if_true,Q2,Qj,mid_W hs,Qbj,negB_cons]
  by_cases hn:x < 0
  ·simp only [hn,decide_true,if_true]; exact ⟨_,rfl,fun _=>⟨_,rfl⟩,fun h=>by simp at h⟩
  ·simp only [hn,decide_false,Bool.false_eq_true,if_false,Bool.false_or]; exact ⟨r,h1,h2,h3⟩
theorem Cont1_ok (l:List Int) (hs:Sm l.length):Q6 l=some (negB l):=by
 obtain ⟨r,h1,h2,h3⟩:=Cont1_L1 l [] hs
 have e:QJ (l,0)=some r:=h1
 simp only [Q6,Zu,e,Qj]
 cases hn:negB l
 ·rw [h3 hn]; rfl
 ·obtain ⟨j,rfl⟩:=h2 hn; simp [Qj]
theorem Cont2_L1:∀ (s p:List Int),Sm (p++s).length→∃ r,QK (p++s,(p.length:Int))=some r∧(bigB s=true→∃ j:Nat,r=.inl (j:Int))∧(bigB s=false→r=.inr ())
 | [],p,hs=>by
  rw [QK]; simp only [ZZ,if_false]; exact ⟨_,rfl,fun h=>(by cases h),fun _=>rfl⟩
 | x::s,p,hs=>by
  rw [QK]
  obtain ⟨r,h1,h2,h3⟩:=Cont2_L1 s (p++[x]) (by rw [← QE]; exact hs)
  rw [← QE] at h1
  simp only [ZE,if_true,Q2,Qj,mid_W hs,Qbk,bigB_cons]
  by_cases hn:x > 65536
  ·simp only [hn,decide_true,if_true]; exact ⟨_,rfl,fun _=>⟨_,rfl⟩,fun h=>by simp at h⟩
  ·simp only [hn,decide_false,Bool.false_eq_true,if_false,Bool.false_or]; exact ⟨r,h1,h2,h3⟩
theorem Cont2_ok (l:List Int) (hs:Sm l.length):Q7 l=some (bigB l):=by
 obtain ⟨r,h1,h2,h3⟩:=Cont2_L1 l [] hs
 have e:QK (l,0)=some r:=h1
 simp only [Q7,Zv,e,Qj]
 cases hn:bigB l
 ·rw [h3 hn]; rfl
 ·obtain ⟨j,rfl⟩:=h2 hn; simp [Qj]
def errR (l:List Int):Int:=if negB l then 6 else if bigB l then 7 else 0
theorem sizecheck_ok (l:List Int) (hs:Sm l.length):Jv l=some (errR l):=by
 simp only [Jv,Cont1_ok l hs,Cont2_ok l hs,Qj,errR]
 by_cases h1:negB l=true
 ·simp [h1]
 ·by_cases h2:bigB l=true <;> simp [h1,h2]
theorem Index_L1 (v:Int):∀ (s p:List Int),Sm (p++s).length→∃ r,Zd (p++s,v,(p.length:Int))=some r∧(s.any (v == ·)=true→∃ j:Nat,r=.inl (j:Int))∧(s.any (v == ·)=false→r=.inr ())
 | [],p,hs=>by
  rw [Zd]; simp only [ZZ,if_false]; exact ⟨_,rfl,fun h=>(by cases h),fun _=>rfl⟩
 | x::s,p,hs=>by
  rw [Zd]
  obtain ⟨r,h1,h2,h3⟩:=Index_L1 v s (p++[x]) (by rw [← QE]; exact hs)
  rw [← QE] at h1
  simp only [ZE,if_true,Q2,Qj,mid_W hs]
  by_cases hn:v=x
  ·rw [if_pos hn]; exact ⟨_,rfl,fun _=>⟨_,rfl⟩,fun h=>by simp [hn] at h⟩
  ·rw [if_neg hn]; exact ⟨r,h1,fun h=>h2 (by simpa [hn] using h),fun h=>h3 (by simpa [hn] using h)⟩
theorem Contains_ok (l:List Int) (v:Int) (hs:Sm l.length):Yo (l,v)=some (l.any (v == ·)):=by
 obtain ⟨r,h1,h2,h3⟩:=Index_L1 v l [] hs
 have e:Zd (l,v,0)=some r:=h1
 simp only [Yo,Xc,e,Qj]
 cases hn:l.any (v == ·)
 ·rw [h3 hn]; rfl
 ·obtain ⟨j,rfl⟩:=h2 hn; simp [Qj]
theorem Mul_ok {a b:Int} (ha:1≤a∧a≤65536) (hb:1≤b∧b≤65536):Qb7 (a,b,65536)=some (if a * b > 65536 then (0,false) else (a * b,true)):=by
 have m1:=Int.mul_le_mul ha.2 hb.2 (by omega) (by omega)
 have m2:=Int.mul_le_mul ha.1 hb.1 (by omega) (by omega)
 have hq0:(65536:Int).tdiv b=65536 / b:=Int.tdiv_eq_ediv_of_nonneg (by omega)
 have hq1:(65536:Int) / b≤65536:=Int.ediv_le_self _ (by omega)
 have hq2:0≤(65536:Int) / b:=Int.ediv_nonneg (by omega) (by omega)
 have hq:quoM 65536 b=some (65536 / b):=by
  rw [quoM,if_neg (by omega),hq0,W_ok (by omega) (by omega)]
 have hlt:(a > 65536 / b)=(a * b > 65536):=by
  have:=Int.ediv_lt_iff_lt_mul (a:=65536) (b:=a) (c:=b) (by omega)
  simp only [gt_iff_lt,eq_iff_iff]
  exact this
 simp only [Qb7,show ¬ a < 0 by omega,show ¬ b < 0 by omega,show ¬ a > 65536 by omega,show ¬ b > 65536 by omega,show b > 0 by omega,if_false,if_true,hq,Qj,hlt,decide_false,Bool.false_eq_true]
 by_cases h:a * b > 65536
 ·simp [h]
 ·simp only [h,decide_false,Qj,Bool.false_eq_true,if_false]; rw [W_ok (by omega) (by omega)]
theorem foldP_L1:∀ (s p:List Int) (m:Int),Sm (p++s).length→(∀ d∈s,1≤d∧d≤65536)→1≤m→m≤65536 →
  ∃ r,QV (p++s,m,(p.length:Int))=some r∧(m * prodI s > 65536→∃ v,r=.inl v)∧(¬ m * prodI s > 65536→r=.inr (m * prodI s))
 | [],p,m,hs,hd,h1,h2=>by
  rw [QV]; simp only [ZZ,if_false,prodI_nil,Int.mul_one]
  exact ⟨_,rfl,fun h=>(by omega),fun _=>rfl⟩
 | x::s,p,m,hs,hd,h1,h2=>by
  rw [QV]
  have hx:=hd x (List.mem_cons_self ..)
  have hds:∀ d∈s,1≤d∧d≤65536:=fun d h=>hd d (List.mem_cons_of_mem _ h)
  have b2:=Int.mul_le_mul h1 hx.1 (by omega) (by omega)
  simp only [ZE,if_true,Q2,Qj,mid_W hs,Qay,Mul_ok ⟨h1,h2⟩ hx,prodI_cons]
  rw [← Int.mul_assoc]
  by_cases hn:m * x > 65536
  ·have hp:=prodI_pos (l:=s) (fun d h=>(hds d h).1)
   have:m * x * 1≤m * x * prodI s:=Int.mul_le_mul_of_nonneg_left hp (by omega)
   simp only [hn,if_true,Qj]
   exact ⟨_,rfl,fun _=>⟨_,rfl⟩,fun h=>absurd h (by omega)⟩
  ·obtain ⟨r,e1,e2,e3⟩:=foldP_L1 s (p++[x]) (m * x) (by rw [← QE]; exact hs) hds (by omega) (by omega)
   rw [← QE] at e1
   simp only [hn,if_false,Qj,Bool.true_eq_false]
   exact ⟨r,e1,e2,e3⟩
theorem sProduct_ok (l:List Int) (hs:Sm l.length):Jj l=some (prodR l):=by
 simp only [Jj,sizecheck_ok l hs,Qj,Yj,prodR,errR]
 by_cases hn:negB l=true
 ·simp [hn,Qj]
 ·have hn':negB l=false:=(Bool.not_eq_true _).mp hn
  by_cases hb:bigB l=true
  ·simp [hn,hb,Qj]
  ·have hb':bigB l=false:=(Bool.not_eq_true _).mp hb
   simp only [hn',hb',Bool.false_eq_true,if_false,if_true,Contains_ok l 0 hs,Qj]
   by_cases hz:l.any ((0:Int) == ·)=true
   ·have h0:(0:Int)∈l:=by
     obtain ⟨x,hx,he⟩:=List.any_eq_true.1 hz
     have:(0:Int)=x:=by simpa using he
     rw [this]; exact hx
    have:=prodI_zero h0
    simp [hz,this,Qj]
   ·have hall:∀ d∈l,1≤d∧d≤65536:=fun d hd=>by
     have h1:=neg_all hn' d hd
     have h2:=big_all hb' d hd
     have h3:d≠0:=fun e=>hz (List.any_eq_true.2 ⟨d,hd,by simp [e]⟩)
     omega
    obtain ⟨r,e1,e2,e3⟩:=foldP_L1 l [] 1 hs hall (by omega) (by omega)
    have e4:QV (l,1,0)=some r:=e1
    rw [Int.one_mul] at e2 e3
    simp only [hz,if_false,Qj,Yk,e4,ne_eq,not_true]
    by_cases hp:prodI l > 65536
    ·obtain ⟨v,rfl⟩:=e2 hp; simp [hp,Qj]
    ·rw [e3 hp]; simp [hp,Qj]
theorem shapeCheck_ok (l:List Int) (hs:Sm l.length):Zp l=some (checkR l):=by
 simp only [Zp,sProduct_ok l hs,Qj,prodR,checkR]
 by_cases hn:negB l=true
 ·simp [hn,Qj]
 ·by_cases hl:l.length > 16
  ·have h16:(l.length:Int) > 16:=by omega
   by_cases hb:bigB l=true
   ·simp [hn,hb,hl,h16,Qj]
   ·by_cases hp:prodI l > 65536 <;> simp [hn,hb,hp,hl,h16,Qj]
  ·have h16:¬ (l.length:Int) > 16:=by omega
   by_cases hb:bigB l=true
   ·simp [hn,hb,hl,h16,Qj]
   ·by_cases hp:prodI l > 65536 <;> simp [hn,hb,hp,hl,h16,Qj]
theorem Sm_le {n:Nat} (h:n≤1000):Sm n:=Sm_of (show n≤1000 from h)
theorem Clone_ok (l:List Int) (hl:l.length≤1000):Qz l=some l:=by
 rw [Qz,app_ok (by simp [room]; omega)]; rfl
theorem app1 {l:List Int} {v:Int} (hl:l.length≤100000):app 8 l [v]=some (l++[v]):=app_ok (by simp [room]; omega)
def zeroRule:Qn:=⟨[],[],[],[],0,0,[]⟩
theorem failed_ok (e:Int):Zt e=some (zeroRule,e):=rfl
def absI (v:Int):Int:=if v < 0 then -v else v
def bigM (v:Int):Bool:=decide (v > 65536) || decide (v < -65536)
theorem Mag_ok (v:Int):Xp v=some (if bigM v then (0,7) else (absI v,0)):=by
 simp only [Xp,bigM]
 by_cases h1:v > 65536
 ·simp [h1,Qj]
 ·by_cases h2:v < -65536
  ·simp [h1,h2,Qj]
  ·have w:W (0 - v)=0 - v:=W_ok (by omega) (by omega)
   have e:(if v < 0 - v then 0 - v else v)=absI v:=by unfold absI; split <;> split <;> omega
   simp only [h1,h2,if_false,decide_false,Qj,Bool.false_eq_true,Bool.or_false,w,e]
def seenL (a:List Int) (n:Nat):List Int:=if a=[] then List.replicate n 1 else a
theorem seen_ok (a:List Int) (n:Nat):Qai (a,(n:Int))=some (if a=[]∧n > 16 then ([],7) else (seenL a n,0)):=by
 simp only [Qai,Qcq,Y3]
 cases a with
 | cons x a=>rw [if_pos (by simp)]; simp [seenL]
 | nil =>
  rw [if_neg (by simp)]
  by_cases h:n > 16
  ·rw [if_pos (show (n:Int) > 16 by omega)]; simp [h]
  ·rw [if_neg (show ¬ (n:Int) > 16 by omega),if_pos ⟨by simp,by omega,by omega⟩]
   simp [h,Qj,seenL]
theorem seen_check {a:List Int} {n:Nat} (h:checkR a=0) (hn:¬ (a=[]∧n > 16)):checkR (seenL a n)=0:=by
 unfold seenL
 split
 ·rename_i he; exact check_ones (Nat.le_of_not_lt fun hc=>hn ⟨he,hc⟩)
 ·exact h
def stI (v d:Int):Int:=if v < 0 then d - absI v else 0
theorem zip_mid {f:Int→Int→Int} {p q:List Int} {x y:Int} (h:p.length=q.length):List.zipWith f (p++[x]) (q++[y])=List.zipWith f p q++[f x y]:=by
 rw [List.zipWith_append h]; rfl
theorem take_L1 (sc:Bool):∀ (s t p q:List Int),s.length=t.length→p.length=q.length→(p++s).length≤1000→Dims t →
  ∃ o,Yr (⟨p++s,sc⟩,q++t,p.map absI,List.zipWith stI p q,(p.length:Int))=some o ∧
   (s.any bigM=true→∃ m n,o=.inl ([],[],[],[],0,0,[],7,m,n))∧(s.any bigM=false→o=.inr ((p++s).map absI,List.zipWith stI (p++s) (q++t)))
 | [],[],p,q,_,h2,h3,h4=>by
  rw [Yr]; simp only [ZZ,if_false]
  exact ⟨_,rfl,(fun h=>by simp at h),(fun _=>by simp)⟩
 | x::s,y::t,p,q,h1,h2,h3,h4=>by
  have hy:=h4 y (List.mem_cons_self ..)
  have hlp:(p.map absI).length≤100000:=by simp at h3 ⊢; omega
  have hlq:(List.zipWith stI p q).length≤100000:=by simp at h3 ⊢; omega
  have hi:idx (q++y::t) (p.length:Int)=some y:=by rw [h2]; exact Q2
  rw [Yr]
  simp only [ZE,if_true,Q2,hi,Qj,Mag_ok]
  cases hb:bigM x with
  | true =>
   simp only [if_true,ne_eq,failed_ok,Qj,zeroRule]
   rw [if_pos (by decide)]
   exact ⟨_,rfl,fun _=>⟨_,_,rfl⟩,fun h=>by simp [hb] at h⟩
  | false =>
   obtain ⟨o,e,ho⟩:=take_L1 sc s t (p++[x]) (q++[y]) (by simpa using h1) (by simp [h2]) (by rw [← QE]; exact h3) (fun d hd=>h4 d (List.mem_cons_of_mem _ hd))
   rw [← QE,← QE,zip_mid h2,List.map_append] at e
   rw [← QE,← QE] at ho
   have hx:-65536≤x∧x≤65536:=by simp [bigM] at hb; omega
   have ha:0≤absI x∧absI x≤65536:=by unfold absI; split <;> omega
   simp only [Bool.false_eq_true,if_false,app1 hlp,app1 hlq,mid_W (Sm_le h3),Qj]
   rw [if_neg (by decide)]
   have hbs:(x::s).any bigM=s.any bigM:=by simp [hb]
   rw [hbs]
   by_cases hn:x < 0
   ·have w:W (y - absI x)=stI x y:=by rw [W_ok (by omega) (by omega)]; simp [stI,hn]
    rw [if_pos hn,w]
    exact ⟨o,e,ho⟩
   ·have w:stI x y=0:=by simp [stI,hn]
    rw [if_neg hn]
    rw [w] at e
    exact ⟨o,e,ho⟩
 | [],_::_,_,_,h,_,_,_=>by cases h
 | _::_,[],_,_,h,_,_,_=>by cases h
def takeE (l a:List Int):Int:=if a=[]∧l.length > 16 then 7 else if l.length≠(seenL a l.length).length then 5 else if l.any bigM then 7 else checkR (l.map absI)
def takeR (l a:List Int):Qn × Int:=if takeE l a=0 then (⟨[],seenL a l.length,l.map absI,List.zipWith stI l (seenL a l.length),-1,0,[]⟩,0) else (zeroRule,takeE l a)
theorem Take_ok (l:List Int) (sc:Bool) (a:List Int) (hl:l.length≤1000) (ha:checkR a=0):QbF (⟨l,sc⟩,a)=some (takeR l a):=by
 simp only [QbF,seen_ok,Qj,takeR,takeE]
 by_cases h1:a=[]∧l.length > 16
 ·rw [if_pos h1]; simp [h1,failed_ok,Qj]
 ·rw [if_neg h1]
  have hc:=seen_check ha h1
  simp only [ne_eq,not_true,if_false]
  generalize seenL a l.length=r at hc ⊢
  obtain ⟨r1,r2,r3⟩:=checkR_zero.1 hc
  by_cases h2:l.length=r.length
  ·have h2':¬ ¬ (l.length:Int)=(r.length:Int):=by omega
   rw [if_neg h2']
   obtain ⟨o,e,ho1,ho2⟩:=take_L1 sc l r [] [] h2 rfl (by simp; omega) r1
   have e':Yr (⟨l,sc⟩,r,[],[],0)=some o:=e
   rw [e']
   simp only [Qj,h2,not_true,if_false,h1]
   cases hb:l.any bigM with
   | true=>obtain ⟨m,n,rfl⟩:=ho1 hb; simp [zeroRule]
   | false =>
    rw [ho2 hb]
    have hm:(l.map absI).length≤1000:=by simp; omega
    have hr:r.length≤1000:=by omega
    simp only [List.nil_append,X1,Qj,JY,shapeCheck_ok _ (Sm_le hm),Clone_ok _ hm,Clone_ok _ hr,Xz,Bool.false_eq_true,if_false]
    by_cases h4:checkR (l.map absI)=0
    ·simp [h4,show ¬ 16 < r.length by omega]
    ·simp [h4,zeroRule,show ¬ 16 < r.length by omega]
  ·have h2':(l.length:Int)≠(r.length:Int):=by omega
   rw [if_pos h2']; simp [h1,h2,failed_ok,Qj]
def dropD (d v:Int):Int:=d - (if absI v > d then d else absI v)
def dropS (d v:Int):Int:=if v < 0 then 0 else (if absI v > d then d else absI v)
theorem dropped_ok {d:Int} (hd:0≤d∧d≤65536) (v:Int):Qah (d,v)=some (dropD d v,dropS d v):=by
 simp only [Qah,Mag_ok,Qj]
 have hr:∀ k:Int,0≤k→k≤d→W (d - k)=d - k:=fun k h1 h2=>W_ok (by omega) (by omega)
 have ha:0≤absI v:=by unfold absI; split <;> omega
 cases hb:bigM v with
 | true =>
  have h1:absI v > d:=by simp [bigM] at hb; unfold absI; split <;> omega
  have w:W 0=0:=by have:=hr d hd.1 (by omega); simpa using this
  by_cases hn:v < 0 <;> simp [Qj,h1,hn,dropD,dropS,w]
 | false =>
  by_cases h1:absI v > d
  ·have w:W 0=0:=by have:=hr d hd.1 (by omega); simpa using this
   by_cases hn:v < 0 <;> simp [Qj,h1,hn,dropD,dropS,w]
  ·have w:=hr (absI v) ha (by omega)
   by_cases hn:v < 0 <;> simp [Qj,h1,hn,dropD,dropS,w]
theorem set_at {α:Type} {p s:List α} {x y:α} {n:Nat} (h:n=p.length):(p++x::s).set n y=p++y::s:=by subst h; simp
theorem drop_L1 (sc:Bool) (v7 v8:List Int):∀ (s p q t:List Int),s.length≤t.length→p.length=q.length→(q++t).length≤1000→v7.length=(q++t).length→v8.length=(q++t).length→Dims t →
  YB (⟨p++s,sc⟩,q++t,v7,v8,List.zipWith dropD q p++t,List.zipWith dropS q p++List.replicate t.length 0,(p.length:Int))
   = some (List.zipWith dropD q p++(List.zipWith dropD t s++t.drop s.length),List.zipWith dropS q p++(List.zipWith dropS t s++List.replicate (t.length - s.length) 0))
 | [],p,q,t,_,h2,h3,h4,h5,h6=>by
  rw [YB]; simp only [ZZ,if_false]; simp
 | x::s,p,q,y::t,h1,h2,h3,h4,h5,h6=>by
  have hy:=h6 y (List.mem_cons_self ..)
  have hz:(List.zipWith dropD q p).length=p.length:=by simp; omega
  have hz2:(List.zipWith dropS q p).length=p.length:=by simp; omega
  have hi:idx (q++y::t) (p.length:Int)=some y:=by rw [h2]; exact Q2
  have g1:(List.zipWith dropD q p++y::t).length=v7.length:=by rw [h4]; simp; omega
  have g2:(List.zipWith dropS q p++List.replicate (y::t).length 0).length=v8.length:=by rw [h5]; simp; omega
  have j1:p.length < (List.zipWith dropD q p++y::t).length:=by simp; omega
  have j2:p.length < (List.zipWith dropS q p++List.replicate (y::t).length 0).length:=by simp; omega
  have s1:(List.zipWith dropD q p++y::t).set p.length (dropD y x)=List.zipWith dropD (q++[y]) (p++[x])++t:=by
   rw [zip_mid h2.symm,set_at hz.symm]; simp
  have s2:(List.zipWith dropS q p++List.replicate (y::t).length 0).set p.length (dropS y x)=List.zipWith dropS (q++[y]) (p++[x])++List.replicate t.length 0:=by
   rw [zip_mid h2.symm,List.length_cons,List.replicate_succ,set_at hz2.symm]; simp
  have ih:=drop_L1 sc v7 v8 s (p++[x]) (q++[y]) t (by simpa using h1) (by simp [h2]) (by rw [← QE]; exact h3) (by rw [← QE]; exact h4) (by rw [← QE]; exact h5) (fun d hd=>h6 d (List.mem_cons_of_mem _ hd))
  rw [← QE,← QE] at ih
  have hw:W ((p.length:Int)+1)=((p++[x]).length:Int):=by simp at h1 h3; rw [W_ok (by omega) (by omega)]; simp
  have m1:setM (List.zipWith dropD q p++y::t) (p.length:Int) (dropD y x)=some (List.zipWith dropD (q++[y]) (p++[x])++t):=by
   rw [setM,if_pos ⟨by omega,by simpa using j1⟩,Int.toNat_natCast,s1]
  have m2:setM (List.zipWith dropS q p++List.replicate (y::t).length 0) (p.length:Int) (dropS y x)=some (List.zipWith dropS (q++[y]) (p++[x])++List.replicate t.length 0):=by
   rw [setM,if_pos ⟨by omega,by simpa using j2⟩,Int.toNat_natCast,s2]
  have k1:Xb ((List.zipWith dropD q p++y::t).length=v7.length)=some ():=if_pos g1
  have k2:Xb ((List.zipWith dropS q p++List.replicate (y::t).length 0).length=v8.length)=some ():=if_pos g2
  rw [YB]
  simp only [ZE,if_true,Q2,hi,Qj,dropped_ok hy,k1,k2,idx_ok j1,idx_ok j2,m1,m2,hw,ih]
  rw [zip_mid h2.symm,zip_mid h2.symm]
  simp
 | _::_,_,_,[],h,_,_,_,_,_=>by simp at h
def dropE (l a:List Int):Int:=if a=[]∧l.length > 16 then 7 else if l.length > (seenL a l.length).length then 5 else 0
def dropL (l r:List Int):List Int:=List.zipWith dropD r l++r.drop l.length
def dropF (l r:List Int):List Int:=List.zipWith dropS r l++List.replicate (r.length - l.length) 0
def dropR (l a:List Int):Qn × Int:=if dropE l a=0 then (⟨[],seenL a l.length,dropL l (seenL a l.length),dropF l (seenL a l.length),-1,0,[]⟩,0) else (zeroRule,dropE l a)
theorem dropD_in {d:Int} (hd:0≤d) (v:Int):0≤dropD d v∧dropD d v≤d:=by
 have ha:0≤absI v:=by unfold absI; split <;> omega
 unfold dropD; split <;> omega
theorem below_drop:∀ (l r:List Int),l.length≤r.length→Dims r→Below (dropL l r) r
 | [],r,_,h=>by
  have:dropL [] r=r:=by simp [dropL]
  rw [this]
  induction r with
  | nil=>exact .nil
  | cons y r ih=>exact .cons (h y (List.mem_cons_self ..)).1 (Int.le_refl _) (ih (by simp) (fun d hd=>h d (List.mem_cons_of_mem _ hd)) (by simp [dropL]))
 | x::l,y::r,h1,h=>by
  have e:dropL (x::l) (y::r)=dropD y x::dropL l r:=by simp [dropL]
  have hy:=h y (List.mem_cons_self ..)
  have hd:=dropD_in hy.1 x
  rw [e]
  exact .cons hd.1 hd.2 (below_drop l r (by simpa using h1) fun d hd=>h d (List.mem_cons_of_mem _ hd))
 | _::_,[],h,_=>by simp at h
theorem Drop_ok (l:List Int) (sc:Bool) (a:List Int) (hl:l.length≤1000) (ha:checkR a=0):Qa4 (⟨l,sc⟩,a)=some (dropR l a):=by
 by_cases h1:a=[]∧l.length > 16
 ·simp only [Qa4,seen_ok,Qj,dropR,dropE]
  rw [if_pos h1]; simp [h1,failed_ok,Qj]
 ·have hs:Qai (a,(l.length:Int))=some (seenL a l.length,0):=by rw [seen_ok,if_neg h1]
  have hc:=seen_check ha h1
  unfold dropR dropE
  generalize seenL a l.length=r at hs hc ⊢
  simp only [Qa4,hs,Qj,ne_eq,not_true,if_false]
  obtain ⟨r1,r2,r3⟩:=checkR_zero.1 hc
  by_cases h2:l.length > r.length
  ·rw [if_pos (show (l.length:Int) > (r.length:Int) by omega)]; simp [h1,h2,failed_ok,Qj]
  ·have hr:r.length≤1000:=by omega
   have hm:makeM 8 (r.length:Int) 0=some (List.replicate r.length (0:Int)):=by
    rw [makeM,if_pos ⟨by omega,by simp [room]; omega,by omega⟩]; simp
   have e:=drop_L1 sc r (List.replicate r.length 0) l [] [] r (by omega) rfl (by simpa using hr) rfl (by simp) r1
   have e':YB (⟨l,sc⟩,r,r,List.replicate r.length 0,r,List.replicate r.length 0,0)=some (dropL l r,dropF l r):=e
   have hb:=below_drop l r (by omega) r1
   have hd:(dropL l r).length≤1000:=by rw [hb.len]; omega
   have hf:(dropF l r).length=r.length:=by simp [dropF]; omega
   rw [if_neg (show ¬ (l.length:Int) > (r.length:Int) by omega)]
   simp only [Clone_ok _ hr,hm,Qj,e',X2,J0,Xb,hb.len,if_true,shapeCheck_ok _ (Sm_le hd),hb.right hc,ne_eq,not_true,if_false,Clone_ok _ hd,XA,hf,List.length_replicate,h1,h2]
theorem gEqual_L1:∀ (s t p q:List Int),s.length=t.length→p.length=q.length→Sm (p++s).length→Za (p++s,q++t,(p.length:Int))=some (if s=t then .inr () else .inl ())
 | [],[],p,q,_,_,hs=>by
  rw [Za]; simp only [ZZ,if_false,if_true]
 | x::s,y::t,p,q,h1,h2,hs=>by
  rw [Za]
  have ih:=gEqual_L1 s t (p++[x]) (q++[y]) (by simpa using h1) (by simp [h2]) (by rw [← QE]; exact hs)
  rw [← QE,← QE] at ih
  simp only [ZE,if_true,Q2,Qj,mid_W hs,ih]
  rw [h2,Q2]
  by_cases he:x=y <;> simp [he,Qj]
 | [],_::_,_,_,h,_,_=>by cases h
 | _::_,[],_,_,h,_,_=>by cases h
theorem gEqual_ok (a b:List Int) (hs:Sm a.length):Yl (a,b)=some (decide (a=b)):=by
 simp only [Yl]
 by_cases h:a.length=b.length
 ·have e:=gEqual_L1 a b [] [] h rfl hs
  have e2:¬ ((a.length:Int)≠(b.length:Int)):=by omega
  simp only [e2,if_false]
  have e3:Za (a,b,0)=_:=e
  rw [e3]
  by_cases hab:a=b
  ·subst hab; simp
  ·rw [if_neg hab,decide_eq_false hab]; rfl
 ·have e2:((a.length:Int)≠(b.length:Int)):=by omega
  have e3:a≠b:=fun e=>h (by rw [e])
  rw [if_pos e2,decide_eq_false e3]
theorem sEqual_ok (a b:List Int) (hs:Sm a.length):Xk (a,b)=some (decide (a=b)):=by
 simp only [Xk,gEqual_ok a b hs,Qj]
theorem sEqual_ok' (a b:List Int) (hs:Sm b.length):Xk (a,b)=some (decide (a=b)):=by
 by_cases h:a.length=b.length
 ·exact sEqual_ok a b (by rw [h]; exact hs)
 ·have e2:((a.length:Int)≠(b.length:Int)):=by omega
  have e3:a≠b:=fun e=>h (by rw [e])
  simp only [Xk,Yl]
  rw [if_pos e2,decide_eq_false e3]; rfl
theorem Sum2_ok {a b:Int} (ha:0≤a∧a≤65536) (hb:0≤b∧b≤65536):Qb8 [a,b]=some (if a+b > 65536 then (0,7) else (a+b,0)):=by
 have hs:Sm [a,b].length:=by unfold Sm; simp
 have he:errR [a,b]=0:=by
  have h1:negB [a,b]=false:=by simp [negB]; omega
  have h2:bigB [a,b]=false:=by simp [bigB]; omega
  simp [errR,h1,h2]
 have w0:W (0+a)=a:=by rw [W_ok (by omega) (by omega)]; omega
 have w1:W (a+b)=a+b:=W_ok (by omega) (by omega)
 have i0:idx [a,b] 0=some a:=rfl
 have i1:idx [a,b] 1=some b:=rfl
 have c0:W (0+1)=1:=W_ok (by omega) (by omega)
 have c1:W (1+1)=2:=W_ok (by omega) (by omega)
 have hf:Q0 ([a,b],0,0)=some (if a+b > 65536 then .inl (a+b) else .inr (a+b)):=by
  rw [Q0]
  simp only [List.length_cons,List.length_nil,i0,Qj,Qbi,w0,show a≤65536 from ha.2,decide_true,Bool.true_eq_false,if_false,c0]
  rw [if_pos (by omega),Q0]
  simp only [List.length_cons,List.length_nil,i1,Qj,Qbi,w1,c1]
  rw [if_pos (by omega)]
  by_cases h:a+b > 65536
  ·have h':¬ a+b≤65536:=by omega
   simp [h,h']
  ·have h':a+b≤65536:=by omega
   simp only [h',decide_true,Bool.true_eq_false,if_false]
   rw [Q0]
   simp [h]
 simp only [Qb8,YC,sizecheck_ok _ hs,he,Qj,YD,hf]
 by_cases h:a+b > 65536 <;> simp [h,Qj]
theorem sub_lo {l:List Int} {k:Nat} (h:k≤l.length):sub l 0 (k:Int)=some (l.take k):=by
 rw [sub,if_pos ⟨by omega,by omega,by omega⟩]; simp
theorem sub_hi {l:List Int} {k:Nat} (h:k≤l.length):sub l (k:Int) (l.length:Int)=some (l.drop k):=by
 rw [sub,if_pos ⟨by omega,by omega,by omega⟩]; simp
theorem Concat_ok (ls:List (List Int)) (h1:ls.length≤1000) (h2:ls.flatten.length≤1000000):Ya ls=some ls.flatten:=if_pos ⟨h1,h2⟩
theorem W_nat {k:Nat} (h:k≤1000000):W ((k:Int)+1)=((k+1:Nat):Int):=W_succ (by omega)
theorem Insert_ok (l:List Int) (k:Nat) (v:Int) (hk:k≤l.length) (hl:l.length≤1000):Qaj (l,(k:Int),v)=some (insL l k v,0):=by
 have c:=Concat_ok [l.take k,[v],l.drop k] (by simp) (by simp; omega)
 have a1:¬ ((k:Int) < 0):=by omega
 have a2:¬ ((k:Int) > (l.length:Int)):=by omega
 have a3:¬ ((k:Int) > (k:Int)):=by omega
 simp only [Qaj,Qa5,YQ,Qj,sub_lo hk,sub_hi hk,YF,c,a1,a2,a3,if_false,decide_false,Bool.false_eq_true]
 simp [insL]
theorem Replace_ok (l:List Int) (k:Nat) (v:Int) (hk:k < l.length) (hl:l.length≤1000):Y7 (l,(k:Int),v)=some (repL l k v,0):=by
 have c:=Concat_ok [l.take k,[v],l.drop (k+1)] (by simp) (by simp; omega)
 have a0:¬ ((k:Int)≥(l.length:Int)):=by omega
 have a1:¬ ((k:Int) < 0):=by omega
 have a2:¬ (((k+1:Nat):Int) > (l.length:Int)):=by omega
 have a3:¬ ((k:Int) > ((k+1:Nat):Int)):=by omega
 simp only [Y7,Qa5,W_nat (show k≤1000000 by omega),YR,Qj,sub_lo (show k≤l.length by omega),sub_hi (show k+1≤l.length by omega),YF,c,a0,a1,a2,a3,if_false,decide_false,Bool.false_eq_true]
 simp [repL]
theorem Remove_ok (l:List Int) (k:Nat) (hk:k < l.length) (hl:l.length≤1000):YW (l,(k:Int))=some (remL l k,0):=by
 have c:=Concat_ok [l.take k,[],l.drop (k+1)] (by simp) (by simp; omega)
 have a0:¬ ((k:Int)≥(l.length:Int)):=by omega
 have a1:¬ ((k:Int) < 0):=by omega
 have a2:¬ (((k+1:Nat):Int) > (l.length:Int)):=by omega
 have a3:¬ ((k:Int) > ((k+1:Nat):Int)):=by omega
 simp only [YW,W_nat (show k≤1000000 by omega),YP,Qj,sub_lo (show k≤l.length by omega),sub_hi (show k+1≤l.length by omega),Qaw,c,a0,a1,a2,a3,if_false,decide_false,Bool.false_eq_true]
 simp [remL]
theorem insL_len (p:List Int) (k:Nat) (v:Int):(insL p k v).length=p.length+1:=by simp [insL]; omega
theorem remL_len {l:List Int} {k:Nat} (hk:k < l.length):(remL l k).length+1=l.length:=by simp [remL]; omega
def sumAt (X Y:List Int) (k:Nat):Int:=X.getD k 0+Y.getD k 0
def tailE (X Y:List Int) (k:Nat):Int:=if remL X k≠remL Y k then 5 else if checkR (repL X k (sumAt X Y k))≠0 then 7 else 0
theorem big_rep {X:List Int} {k:Nat} {n:Int} (hX:Dims X) (h0:0≤n) (hn:n > 65536):checkR (repL X k n)≠0:=fun h=>by
 have:=(checkR_zero.1 h).1 n (rep_mem.2 (.inl rfl)); omega
theorem check_rep {X:List Int} {k:Nat} {n:Int} (hX:Dims X) (h0:0≤n) (h:checkR (repL X k n)≠0):checkR (repL X k n)=7:=by
 have hn:negB (repL X k n)=false:=List.any_eq_false.2 fun d hd=>by
  have:0≤d:=by
   rcases rep_mem.1 hd with rfl|h
   ·exact h0
   ·exact (hX d (rem_mem h)).1
  simp; omega
 unfold checkR at h ⊢
 rw [hn] at h ⊢
 simp only [Bool.false_eq_true,if_false] at h ⊢
 split
 ·rfl
 ·rename_i h2; rw [if_neg h2] at h; exact absurd rfl h
theorem cat_tail {p0:Int} {a b X Y:List Int} {k R:Nat} (hR:(max (max (a.length:Int) (b.length:Int)) 1)=(R:Int)) (hk:k < R) (hR16:R≤16) (hax:(if p0=-1 then some (W ((R:Int) - 1)) else some p0)=some (k:Int))
  (hX:Yd (a,b,(R:Int),(k:Int))=some (X,0)) (hY:Yd (b,a,(R:Int),(k:Int))=some (Y,0)) (lX:X.length=R) (lY:Y.length=R) (dX:Dims X) (dY:Dims Y) :
  YI (p0,a,b)=some (if tailE X Y k=0 then ⟨X,Y,repL X k (sumAt X Y k),[],k,0,[]⟩ else zeroRule,tailE X Y k):=by
 have hkX:k < X.length:=by omega
 have hkY:k < Y.length:=by omega
 have gX:=getD_in dX hkX
 have gY:=getD_in dY hkY
 have eX:YW (X,(k:Int))=_:=Remove_ok X k hkX (by omega)
 have eY:YW (Y,(k:Int))=_:=Remove_ok Y k hkY (by omega)
 have rX:=remL_len hkX
 have e0:∀ n:Int,Y7 (X,(k:Int),n)=some (repL X k n,0):=fun n=>Replace_ok X k n hkX (by omega)
 simp only [YI,hR,hax,Qj,hX,hY]
 rw [if_neg (show ¬ ((k:Int)≥(R:Int)) by omega)]
 simp only [ne_eq,not_true,if_false,Qj,bne_self_eq_false,Bool.false_eq_true,Qbw,eX,eY,sEqual_ok _ _ (Sm_le (show (remL X k).length≤1000 by omega)),idx_getD hkX,idx_getD hkY,Sum2_ok gX gY,e0]
 unfold tailE
 by_cases h1:remL X k=remL Y k
 ·rw [decide_eq_true h1]
  simp only [Bool.true_eq_false,if_false,h1,not_true,ne_eq]
  by_cases h2:X.getD k 0+Y.getD k 0 > 65536
  ·have h3:checkR (repL X k (sumAt X Y k))≠0:=big_rep dX (by unfold sumAt; omega) h2
   simp only [h2,if_true,Qj,h3,not_false_eq_true,failed_ok]
   rfl
  ·simp only [h2,if_false,Qj,not_true,YO,JX,Clone_ok Y (show Y.length≤1000 by omega),XK,YZ]
   have e5:(repL X k (X.getD k 0+Y.getD k 0)).length≤1000:=by rw [rep_len hkX]; omega
   rw [shapeCheck_ok _ (Sm_le e5),Clone_ok _ e5]
   have e6:X.getD k 0+Y.getD k 0=sumAt X Y k:=rfl
   rw [e6]
   by_cases h4:checkR (repL X k (sumAt X Y k))=0
   ·simp [h4,Qj]
   ·have h7:=check_rep dX (by unfold sumAt; omega) h4
    simp [h7,Qj,zeroRule]
 ·rw [decide_eq_false h1]
  simp [h1,Qj,failed_ok]
theorem ins_mem {l:List Int} {i:Nat} {x d:Int} (h:d∈insL l i x):d=x∨d∈l:=by
 simp only [insL,List.mem_append,List.mem_cons] at h
 rcases h with h|h|h
 ·exact .inr (List.mem_of_mem_take h)
 ·exact .inl h
 ·exact .inr (List.mem_of_mem_drop h)
def widR (a b:List Int) (R k:Nat):List Int:=if a.length=R then a else if a.length+1=R then insL a k 1 else repL b k 1
theorem widR_dims {a b:List Int} {R k:Nat} (ha:Dims a) (hb:Dims b):Dims (widR a b R k):=by
 intro d hd
 unfold widR at hd
 split at hd
 ·exact ha d hd
 ·split at hd
  ·rcases ins_mem hd with rfl|h
   ·omega
   ·exact ha d h
  ·rcases rep_mem.1 hd with rfl|h
   ·omega
   ·exact hb d (rem_mem h)
theorem widR_len {a b:List Int} {R k:Nat} (hk:k < R) (h:a.length=R∨a.length+1=R∨b.length=R):(widR a b R k).length=R:=by
 unfold widR
 split
 ·assumption
 ·split
  ·rw [insL_len]; assumption
  ·rw [rep_len (by omega)]; omega
theorem wid_ok {a b:List Int} {R k:Nat} (hk:k < R) (hR:R≤16) (h:a.length=R∨a.length+1=R∨(a.length=0∧b.length=R)):Yd (a,b,(R:Int),(k:Int))=some (widR a b R k,0):=by
 have wR:W ((R:Int) - 1)=(R:Int) - 1:=W_ok (by omega) (by omega)
 simp only [Yd,wR,widR]
 by_cases h1:a.length=R
 ·rw [if_pos (by omega),if_pos h1,Clone_ok a (by omega)]; rfl
 ·rw [if_neg (by omega),if_neg h1]
  by_cases h2:a.length+1=R
  ·rw [if_pos (by omega),if_pos h2,Insert_ok a k 1 (by omega) (by omega)]; rfl
  ·rw [if_neg (by omega),if_neg h2,if_pos (by omega),Replace_ok b k 1 (by omega) (by omega)]; rfl
theorem wid_bad {a b:List Int} {R k:Nat} (hR:R≤16) (h1:a.length≠R) (h2:a.length+1≠R) (h3:a.length≠0):Yd (a,b,(R:Int),(k:Int))=some ([],4):=by
 by_cases hz:R=0
 ·subst hz
  have wR:W (((0:Nat):Int) - 1)=-1:=W_ok (by omega) (by omega)
  simp only [Yd,wR]
  rw [if_neg (by omega),if_neg (by omega),if_neg (by omega)]
 ·have wR:W ((R:Int) - 1)=(R:Int) - 1:=W_ok (by omega) (by omega)
  simp only [Yd,wR]
  rw [if_neg (by omega),if_neg (by omega),if_neg (by omega)]

def catR (p0:Int) (a b:List Int):Qn × Int :=
 let R:=max (max a.length b.length) 1
 let k:=(if p0=-1 then (R:Int) - 1 else p0).toNat
 if p0≥(R:Int) then (zeroRule,4)
 else if (a.length≠R∧a.length+1≠R∧a.length≠0)∨(b.length≠R∧b.length+1≠R∧b.length≠0) then (zeroRule,4)
 else if tailE (widR a b R k) (widR b a R k) k=0 then (⟨widR a b R k,widR b a R k,repL (widR a b R k) k (sumAt (widR a b R k) (widR b a R k) k),[],k,0,[]⟩,0)
 else (zeroRule,tailE (widR a b R k) (widR b a R k) k)
theorem Cat_ok {p0:Int} {a b:List Int} (hp:-1≤p0) (la:a.length≤16) (lb:b.length≤16) (da:Dims a) (db:Dims b):YI (p0,a,b)=some (catR p0 a b):=by
 unfold catR
 obtain ⟨R,hRdef⟩:∃ R,R=max (max a.length b.length) 1:=⟨_,rfl⟩
 have hR:(max (max (a.length:Int) (b.length:Int)) 1)=(R:Int):=by omega
 have hR16:R≤16:=by omega
 have wR:W ((R:Int) - 1)=(R:Int) - 1:=W_ok (by omega) (by omega)
 simp only [← hRdef]
 by_cases hbig:p0≥(R:Int)
 ·rw [if_pos hbig]
  simp only [YI,hR,show ¬ p0=-1 by omega,if_false,Qj,hbig,if_true,failed_ok]
 obtain ⟨k,hk⟩:∃ k:Nat,(k:Int)=if p0=-1 then (R:Int) - 1 else p0:=by
  by_cases h:p0=-1
  ·exact ⟨R - 1,by rw [if_pos h]; omega⟩
  ·exact ⟨p0.toNat,by rw [if_neg h]; omega⟩
 have hkR:k < R:=by by_cases h:p0=-1 <;> simp [h] at hk <;> omega
 have hax1:(if p0=-1 then some (W ((R:Int) - 1)) else some p0)=some (k:Int):=by
  rw [wR,hk]; by_cases h:p0=-1 <;> simp [h]
 rw [if_neg hbig,← hk,Int.toNat_natCast]
 by_cases hbad:(a.length≠R∧a.length+1≠R∧a.length≠0)∨(b.length≠R∧b.length+1≠R∧b.length≠0)
 ·rw [if_pos hbad]
  simp only [YI,hR,hax1,Qj]
  rw [if_neg (show ¬ ((k:Int)≥(R:Int)) by omega)]
  rcases hbad with ⟨h1,h2,h3⟩|⟨h1,h2,h3⟩
  ·have hb:b.length=R:=by omega
   rw [wid_bad hR16 h1 h2 h3,wid_ok hkR hR16 (.inl hb)]; rfl
  ·have ha:a.length=R:=by omega
   rw [wid_bad hR16 h1 h2 h3,wid_ok hkR hR16 (.inl ha)]; rfl
 ·have hA:a.length=R∨a.length+1=R∨(a.length=0∧b.length=R):=by omega
  have hB:b.length=R∨b.length+1=R∨(b.length=0∧a.length=R):=by omega
  rw [if_neg hbad,cat_tail hR hkR hR16 hax1 (wid_ok hkR hR16 hA) (wid_ok hkR hR16 hB) (widR_len hkR (by omega)) (widR_len hkR (by omega)) (widR_dims da db) (widR_dims db da)]
  split <;> rename_i h
  ·rw [h]
  ·rfl
theorem guardT {h:Decidable True}:@Xb True h=some ():=if_pos trivial
theorem Clone64_ok (l:List Int) (hl:l.length≤1000):Ye l=some l:=by
 rw [Ye,app_ok (by simp [room]; omega)]; rfl
theorem room_ok (n:Nat) (h:n≤1000):Xb (0≤(n:Int)∧(n:Int) * (8:Int)≤(room:Int)∧(n:Int)≤9223372036854775807)=some ():=if_pos ⟨by omega,by simp [room]; omega,by omega⟩
def setOf (l:List Int):List Int:=l.foldl insK []
theorem setOf_snoc (l:List Int) (x:Int):setOf (l++[x])=insK (setOf l) x:=by simp [setOf]
theorem mem_insK {l:List Int} {x y:Int}:y∈insK l x↔y∈l∨y=x:=by
 unfold insK
 split
 ·rename_i h
  constructor
  ·exact .inl
  ·rintro (h'|rfl)
   ·exact h'
   ·exact h
 ·simp
theorem insK_nodup {l:List Int} {x:Int} (h:l.Nodup):(insK l x).Nodup:=by
 unfold insK
 split
 ·exact h
 ·rename_i hx
  rw [List.nodup_append]
  exact ⟨h,by simp,fun a ha b hb=>by rw [List.mem_singleton] at hb; subst hb; exact fun e=>hx (e ▸ ha)⟩
theorem snocInd {α:Type} {P:List α→Prop} (h0:P []) (h1:∀ l x,P l→P (l++[x])) (l:List α):P l:=by
 have:∀ m:List α,P m.reverse:=fun m=>by
  induction m with
  | nil=>exact h0
  | cons x m ih=>rw [List.reverse_cons]; exact h1 _ _ ih
 have:=this l.reverse
 rwa [List.reverse_reverse] at this
theorem mem_setOf (l:List Int):∀ y,y∈setOf l↔y∈l:=by
 induction l using snocInd with
 | h0=>intro y; simp [setOf]
 | h1 l x ih=>intro y; rw [setOf_snoc,mem_insK,ih]; simp
theorem setOf_nodup (l:List Int):(setOf l).Nodup:=by
 induction l using snocInd with
 | h0=>simp [setOf]
 | h1 l x ih=>rw [setOf_snoc]; exact insK_nodup ih
def inR (n:Nat) (v:Int):Bool:=decide (0≤v) && decide (v < (n:Int))
theorem conv_L1 (q1:List Int) (q2:Bool) (n:Nat):∀ (s p:List Int),(p++s).length≤1000→∃ o,QT (p++s,q1,q2,(n:Int),setOf p,p,(p.length:Int))=some o ∧
  (s.all (inR n)=true→o=.inr (setOf (p++s),p++s))∧(s.all (inR n)=false→∃ a m,o=.inl (a,6,m))
 | [],p,hs=>by
  rw [QT]; simp only [ZZ,if_false]
  exact ⟨_,rfl,(fun _=>by simp),(fun h=>by simp at h)⟩
 | x::s,p,hs=>by
  rw [QT]
  have hlp:p.length≤100000:=by simp at hs; omega
  simp only [ZE,if_true,Q2,Qj,YE,mid_W (Sm_le hs)]
  by_cases h1:x < 0
  ·simp only [h1,if_true,Qj,ne_eq]
   rw [if_pos (by decide)]
   exact ⟨_,rfl,(fun h=>by simp [inR,show ¬ 0≤x by omega] at h),(fun _=>⟨_,_,rfl⟩)⟩
  ·by_cases h2:x≥(n:Int)
   ·simp only [h1,if_false,Qj,h2,decide_true,if_true,ne_eq]
    rw [if_pos (by decide)]
    exact ⟨_,rfl,(fun h=>by simp [inR,show ¬ x < (n:Int) by omega] at h),(fun _=>⟨_,_,rfl⟩)⟩
   ·obtain ⟨o,e,ho⟩:=conv_L1 q1 q2 n s (p++[x]) (by rw [← QE]; exact hs)
    rw [← QE,setOf_snoc] at e
    rw [← QE] at ho
    have hx:inR n x=true:=by simp [inR]; omega
    have ha:(x::s).all (inR n)=s.all (inR n):=by simp [hx]
    rw [ha]
    simp only [h1,if_false,Qj,h2,decide_false,Bool.false_eq_true,ne_eq,not_true,app1 hlp,e]
    exact ⟨o,rfl,ho⟩
def maxF (l:List Int) (m:Int):Int:=l.foldl (fun a x=>if a < x then x else a) m
def maxL (l:List Int):Int:=match l with|[]=>0|x::s=>maxF s x
theorem max_L1:∀ (s p:List Int) (m:Int),(p++s).length≤1000→Zj (p++s,m,(p.length:Int))=some (maxF s m)
 | [],p,m,hs=>by
  rw [Zj]; simp only [ZZ,if_false]; rfl
 | x::s,p,m,hs=>by
  rw [Zj]
  have ih:=max_L1 s (p++[x]) (if m < x then x else m) (by rw [← QE]; exact hs)
  rw [← QE] at ih
  simp only [ZE,if_true,Q2,Qj,mid_W (Sm_le hs),ih]; rfl
theorem Max_ok {l:List Int} (hl:l.length≤1000) (h0:l≠[]):Yu l=some (maxL l):=by
 cases l with
 | nil=>exact absurd rfl h0
 | cons x s =>
  have e:Zj (x::s,x,1)=some (maxF s x):=max_L1 s [x] x hl
  have hi:idx (x::s) 0=some x:=rfl
  simp only [Yu,hi,Qj,e]
  rw [if_neg (by simp; omega)]; rfl
theorem maxF_ge:∀ (l:List Int) (m:Int),m≤maxF l m∧(∀ x∈l,x≤maxF l m)∧(maxF l m=m∨maxF l m∈l)
 | [],m=>⟨Int.le_refl _,by simp,.inl rfl⟩
 | y::l,m=>by
  obtain ⟨h1,h2,h3⟩:=maxF_ge l (if m < y then y else m)
  have e:maxF (y::l) m=maxF l (if m < y then y else m):=rfl
  rw [e]
  have hm:m≤(if m < y then y else m)∧y≤(if m < y then y else m)∧((if m < y then y else m)=m∨(if m < y then y else m)=y):=by split <;> omega
  refine ⟨by omega,fun x hx=>?_,?_⟩
  ·rcases List.mem_cons.1 hx with rfl|hx
   ·omega
   ·exact h2 x hx
  ·rcases h3 with h3|h3
   ·rcases hm.2.2 with h|h
    ·left; omega
    ·right; rw [h3,h]; exact List.mem_cons_self ..
   ·right; exact List.mem_cons_of_mem _ h3
theorem maxL_ge {l:List Int} (h0:l≠[]):(∀ x∈l,x≤maxL l)∧maxL l∈l:=by
 cases l with
 | nil=>exact absurd rfl h0
 | cons y l =>
  obtain ⟨h1,h2,h3⟩:=maxF_ge l y
  refine ⟨fun x hx=>?_,?_⟩
  ·rcases List.mem_cons.1 hx with rfl|hx
   ·exact h1
   ·exact h2 x hx
  ·show maxF l y∈y::l
   rcases h3 with h3|h3
   ·rw [h3]; exact List.mem_cons_self ..
   ·exact List.mem_cons_of_mem _ h3
def permE (v:List Int) (n:Nat):Int:=if v.length≠n then 5 else if v.all (inR n)=false then 6 else if n > 0∧((setOf v).length:Int)≠maxL v+1 then 6 else 0
theorem Permutation_ok (v:List Int) (sc:Bool) (n:Nat) (hv:v.length≤1000):Xw (⟨v,sc⟩,(n:Int))=some (if permE v n=0 then (v,0) else ([],permE v n)):=by
 simp only [Xw,Jk,permE]
 by_cases h1:v.length=n
 ·subst h1
  obtain ⟨o,e,h2,h3⟩:=conv_L1 v sc v.length v [] (by simp; omega)
  have e':QT (v,v,sc,(v.length:Int),[],[],0)=some o:=e
  simp only [if_false,Clone64_ok v (by omega),Qj,ne_eq,not_true,Z5,room_ok _ (show v.length≤1000 by omega),e']
  cases ha:v.all (inR v.length) with
  | false =>
   obtain ⟨a,m,rfl⟩:=h3 ha
   simp [Qj]
  | true =>
   rw [h2 ha]
   simp only [List.nil_append,Bool.true_eq_false,if_false,Qj]
   by_cases h4:v.length > 0
   ·have hn:v≠[]:=by intro h; subst h; simp at h4
    have hm:0≤maxL v∧maxL v < v.length:=by
     have:=List.all_eq_true.1 ha _ (maxL_ge hn).2
     simpa [inR] using this
    have w:W (maxL v+1)=maxL v+1:=W_ok (by omega) (by omega)
    simp only [show (v.length:Int) > 0 by omega,if_true,Max_ok (show v.length≤1000 by omega) hn,Qj,w,h4,true_and]
    by_cases h5:((setOf v).length:Int)=maxL v+1 <;> simp [h5]
   ·simp only [h4,Qj,show ¬ (v.length:Int) > 0 by omega,if_false,false_and,if_true]; rfl
 ·have h1':(v.length:Int)≠(n:Int):=by omega
  simp only [h1',if_true,Qj,ne_eq,not_false_eq_true,h1]
  simp
def padTo (l:List Int) (j:Nat):List Int:=l++List.replicate (j+1 - l.length) 65536
def minI (a b:Int):Int:=if b < a then b else a
def stepP (l:List Int) (j:Nat) (x:Int):List Int:=(padTo l j).set j (minI ((padTo l j).getD j 0) x)
def permF:List Int→List Int→List Int→List Int
 | l,j::p,x::a=>permF (stepP l j.toNat x) p a
 | l,_,_=>l
def permL (p a:List Int):List Int:=permF [] p a
theorem padTo_len (l:List Int) (j:Nat):(padTo l j).length=max l.length (j+1):=by simp [padTo]; omega
theorem stepP_len (l:List Int) (j:Nat) (x:Int):(stepP l j x).length=max l.length (j+1):=by simp [stepP,padTo_len]
theorem pad_L2 (j:Nat) (hj:j < 100) (p1:List Int) (v204:Int) (p0:List Int):∀ (m:Nat) (l:List Int) (g:Nat),m=j+1 - l.length→l.length≤1000→∃ g',Yc ((j:Int),p1,v204,p0,g,l,l.length)=some (g',padTo l j,(padTo l j).length)
 | 0,l,g,hm,hl=>by
  have h:¬ (l.length:Int)≤(j:Int):=by omega
  rw [Yc]
  simp only [h,if_false]
  refine ⟨g,?_⟩
  have:padTo l j=l:=by unfold padTo; rw [← hm]; simp
  rw [this]
 | m+1,l,g,hm,hl=>by
  have h:(l.length:Int)≤(j:Int):=by omega
  obtain ⟨g',e⟩:=pad_L2 j hj p1 v204 p0 m (l++[65536]) (gb g ([65536]:List Int).isEmpty) (by simp; omega) (by simp; omega)
  rw [Yc]
  have hg:Xb (l.length=l.length)=some ():=if_pos rfl
  simp only [h,if_true,hg,Qj,app1 (show l.length≤100000 by omega),e]
  have hp:padTo (l++[65536]) j=padTo l j:=by
   unfold padTo
   rw [List.append_assoc,List.length_append,List.length_singleton,show j+1 - l.length=(j+1 - (l.length+1))+1 by omega,List.replicate_succ]; rfl
  rw [hp]
  exact ⟨g',rfl⟩
theorem perm_L1:∀ (s t p q l:List Int) (g:Nat),s.length=t.length→p.length=q.length→(p++s).length≤100→(∀ x∈s,0≤x∧x < 100)→l.length≤100 →
  ∃ g',ZP (p++s,q++t,g,l,l.length,(p.length:Int))=some (g',permF l s t,(permF l s t).length)
 | [],[],p,q,l,g,_,h2,h3,h4,h5=>by
  rw [ZP]; simp only [ZZ,if_false]
  exact ⟨g,rfl⟩
 | j::s,x::t,p,q,l,g,h1,h2,h3,h4,h5=>by
  have hj:=h4 j (List.mem_cons_self ..)
  obtain ⟨k,rfl⟩:=Int.eq_ofNat_of_zero_le hj.1
  obtain ⟨g1,e1⟩:=pad_L2 k (by omega) (q++x::t) (p.length:Int) (p++(k:Int)::s) (k+1 - l.length) l g rfl (by omega)
  obtain ⟨g2,e2⟩:=perm_L1 s t (p++[(k:Int)]) (q++[x]) (stepP l k x) g1 (by simpa using h1) (by simp [h2]) (by rw [← QE]; exact h3) (fun y hy=>h4 y (List.mem_cons_of_mem _ hy)) (by rw [stepP_len]; omega)
  rw [← QE,← QE] at e2
  have hk:k < (padTo l k).length:=by rw [padTo_len]; omega
  have hi:idx (q++x::t) (p.length:Int)=some x:=by rw [h2]; exact Q2
  have hs:setM (padTo l k) (k:Int) (minI ((padTo l k).getD k 0) x)=some (stepP l k x):=by
   rw [setM,if_pos ⟨by omega,by simpa using hk⟩,Int.toNat_natCast]; rfl
  have hg:Xb ((padTo l k).length=(padTo l k).length)=some ():=if_pos rfl
  have hlen:(padTo l k).length=(stepP l k x).length:=by rw [padTo_len,stepP_len]
  rw [ZP]
  have hmin:(if x < (padTo l k).getD k 0 then x else (padTo l k).getD k 0)=minI ((padTo l k).getD k 0) x:=rfl
  simp only [ZE,if_true,Q2,hi,Qj,e1,hg,idx_getD hk,hmin,hs,mid_W (Sm_le (show (p++(k:Int)::s).length≤1000 by omega))]
  rw [hlen,e2]
  exact ⟨g2,rfl⟩
 | [],_::_,_,_,_,_,h,_,_,_,_=>by cases h
 | _::_,[],_,_,_,_,h,_,_,_,_=>by cases h
theorem permF_len:∀ (s t l:List Int),(∀ x∈s,0≤x∧x < 100)→l.length≤100→(permF l s t).length≤100
 | [],_,l,_,h=>by unfold permF; exact h
 | _::_,[],l,_,h=>by unfold permF; exact h
 | j::s,x::t,l,hs,h=>by
  have hj:=hs j (List.mem_cons_self ..)
  rw [permF]
  exact permF_len s t _ (fun y hy=>hs y (List.mem_cons_of_mem _ hy)) (by rw [stepP_len]; omega)
def transE (v a:List Int):Int:=if permE v a.length=0 then checkR (permL v a) else permE v a.length
def transR (v a:List Int):Qn × Int:=if transE v a=0 then (⟨[],a,permL v a,[],-1,0,v⟩,0) else (zeroRule,transE v a)
theorem permE_zero {v:List Int} {n:Nat} (h:permE v n=0):v.length=n∧(∀ x∈v,0≤x∧x < (n:Int))∧(n > 0→((setOf v).length:Int)=maxL v+1):=by
 unfold permE at h
 by_cases h1:v.length=n
 ·rw [if_neg (by omega)] at h
  cases ha:v.all (inR n) with
  | false=>rw [if_pos ha] at h; cases h
  | true =>
   rw [if_neg (by rw [ha]; decide)] at h
   refine ⟨h1,fun x hx=>by have:=List.all_eq_true.1 ha x hx; simpa [inR] using this,fun hn=>?_⟩
   by_cases h5:((setOf v).length:Int)=maxL v+1
   ·exact h5
   ·rw [if_pos ⟨hn,h5⟩] at h; cases h
 ·rw [if_pos h1] at h; cases h
theorem permuted_ok (v a:List Int) (ha:a.length≤16) (hl:v.length=a.length) (hv:∀ x∈v,0≤x∧x < (a.length:Int)):XI (v,a)=some (if checkR (permL v a)=0 then (⟨[],a,permL v a,[],-1,0,v⟩,0) else (zeroRule,checkR (permL v a))):=by
 have hv':∀ x∈v,0≤x∧x < 100:=fun x hx=>by have:=hv x hx; omega
 obtain ⟨g,e⟩:=perm_L1 v a [] [] [] 0 hl rfl (by simp; omega) hv' (by simp)
 have e':ZP (v,a,0,[],([]:List Int).length,0)=some (g,permL v a,(permL v a).length):=e
 have hL:(permL v a).length≤100:=permF_len v a [] hv' (by simp)
 have hg:Xb ((permL v a).length=(permL v a).length)=some ():=if_pos rfl
 simp only [XI,e',Qj,JV,hg,shapeCheck_ok _ (Sm_le (show (permL v a).length≤1000 by omega)),Clone_ok a (by omega),Clone_ok _ (show (permL v a).length≤1000 by omega),Y2]
 by_cases h:checkR (permL v a)=0
 ·simp [h,guardT]
 ·simp [h,zeroRule,guardT]
theorem Transpose_ok (v:List Int) (sc:Bool) (a:List Int) (hv:v.length≤1000) (ha:a.length≤16):Ji (⟨v,sc⟩,a)=some (transR v a):=by
 simp only [Ji,Permutation_ok v sc a.length hv,Qj,transR,transE]
 by_cases h:permE v a.length=0
 ·obtain ⟨h1,h2,h3⟩:=permE_zero h
  simp only [h,if_true,ne_eq,not_true,if_false,permuted_ok v a ha h1 h2,Qj]
 ·simp [h,failed_ok,Qj]
theorem dimN_L1:∀ (s p:List Int),Sm (p++s).length→∃ r,QC (p++s,(p.length:Int))=some r∧(negB s=true→∃ j:Nat,r=.inl (j:Int))∧(negB s=false→r=.inr ())
 | [],p,hs=>by
  rw [QC]; simp only [ZZ,if_false]; exact ⟨_,rfl,fun h=>(by cases h),fun _=>rfl⟩
 | x::s,p,hs=>by
  rw [QC]
  obtain ⟨r,h1,h2,h3⟩:=dimN_L1 s (p++[x]) (by rw [← QE]; exact hs)
  rw [← QE] at h1
  simp only [ZE,if_true,Q2,Qj,mid_W hs,X3,negB_cons]
  by_cases hn:x < 0
  ·simp only [hn,decide_true,if_true]; exact ⟨_,rfl,fun _=>⟨_,rfl⟩,fun h=>by simp at h⟩
  ·simp only [hn,decide_false,Bool.false_eq_true,if_false,Bool.false_or]; exact ⟨r,h1,h2,h3⟩
theorem dimN_ok (l:List Int) (hs:Sm l.length):QX l=some (negB l):=by
 obtain ⟨r,h1,h2,h3⟩:=dimN_L1 l [] hs
 have e:QC (l,0)=some r:=h1
 simp only [QX,Zc,e,Qj]
 cases hn:negB l
 ·rw [h3 hn]; rfl
 ·obtain ⟨j,rfl⟩:=h2 hn; simp [Qj]
theorem dimC_L1 (sc:Bool):∀ (s p:List Int),(p++s).length≤1000→negB s=false→∃ o,QS (p++s,sc,p,(p.length:Int))=some o ∧
  (bigB s=true→∃ m,o=.inl (7,m))∧(bigB s=false→o=.inr (p++s))
 | [],p,hs,_=>by
  rw [QS]; simp only [ZZ,if_false]
  exact ⟨_,rfl,(fun h=>by simp [bigB] at h),(fun _=>by simp)⟩
 | x::s,p,hs,hn=>by
  rw [QS]
  have hlp:p.length≤100000:=by simp at hs; omega
  rw [negB_cons,Bool.or_eq_false_iff] at hn
  have hx:¬ x < 0:=by simpa using hn.1
  simp only [ZE,if_true,Q2,Qj,mid_W (Sm_le hs),Qax,hx,if_false,bigB_cons]
  by_cases hb:x > 65536
  ·simp only [hb,if_true,Qj,ne_eq]
   rw [if_pos (by decide)]
   exact ⟨_,rfl,(fun _=>⟨_,rfl⟩),(fun h=>by simp at h)⟩
  ·obtain ⟨o,e,ho⟩:=dimC_L1 sc s (p++[x]) (by rw [← QE]; exact hs) hn.2
   rw [← QE] at e ho
   simp only [hb,if_false,Qj,ne_eq,not_true,app1 hlp,e,decide_false,Bool.false_or]
   exact ⟨o,rfl,ho⟩
theorem Dimensions_ok (l:List Int) (sc:Bool) (hl:l.length≤1000):XM ⟨l,sc⟩=some (if checkR l=0 then (l,0) else ([],checkR l)):=by
 simp only [XM,dimN_ok l (Sm_le hl),Qj]
 cases hn:negB l with
 | true =>
  have hc:checkR l=6:=by rw [checkR,hn]; rfl
  simp [hc]
 | false =>
  obtain ⟨o,e,h1,h2⟩:=dimC_L1 sc l [] hl hn
  have e':QS (l,sc,[],0)=some o:=e
  simp only [Bool.false_eq_true,if_false,Z4,room_ok _ hl,Qj,e']
  cases hb:bigB l with
  | true =>
   obtain ⟨m,rfl⟩:=h1 hb
   have hc:checkR l=7:=by rw [checkR,hn,hb]; simp
   simp [hc,Qj]
  | false =>
   rw [h2 hb]
   simp only [List.nil_append,Qj,shapeCheck_ok l (Sm_le hl)]
   by_cases hc:checkR l=0 <;> simp [hc]
def reshR (l a:List Int):Qn × Int:=if checkR l=0 then (⟨[],a,l,[],-1,0,[]⟩,0) else (zeroRule,checkR l)
theorem Reshape_ok (l:List Int) (sc:Bool) (a:List Int) (hl:l.length≤1000) (ha:a.length≤1000):Qad (⟨l,sc⟩,a)=some (reshR l a):=by
 simp only [Qad,Dimensions_ok l sc hl,Qj,reshR]
 by_cases h:checkR l=0
 ·simp [h,JZ,shapeCheck_ok l (Sm_le hl),Clone_ok l hl,Clone_ok a ha,Qj]
 ·simp [h,failed_ok,Qj]
theorem Cells_ok (l:List Int) (hs:Sm l.length):QaL l=some (cellsR l):=by
 simp only [QaL,Check_ok l hs,Qj,Product_ok l hs,cellsR]
 by_cases hc:checkR l=0
 ·have:(prodR l).1=prodI l:=by
   unfold checkR at hc
   unfold prodR
   by_cases hn:negB l=true
   ·simp [hn] at hc
   ·by_cases hb:bigB l=true
    ·simp [hn,hb] at hc
    ·by_cases hp:prodI l > 65536
     ·simp [hn,hb,hp] at hc
     ·simp [hn,hb,hp]
  simp [hc,this]
 ·simp [hc]
end Go.Proofs.Tryz
