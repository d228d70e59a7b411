/-
 Models of functions, their walks, and plain laws.
-/
import Derived.Test.YtdecaohlejlglaaGreatKElabUnboundA
namespace Go.Proofs.Tryz
open Go Go.Pm
set_option linter.unusedVariables false
set_option maxHeartbeats 2000000
set_option maxRecDepth 2000
def Q0 (x:((List Int) × Int × Int)):Option (Int ⊕ Int) :=
 match x with
 | (p0,v201,v202) =>
 if v202 < (p0.length:Int) then
  idx p0 v202>>=fun v603 =>
  Qbi (v201,v603)>>=fun ((v604,v605):(Int × Bool)) =>
  if v605=false then
   some (Sum.inl v604)
  else
  Q0 (p0,v604,(W (v202+1)))
 else
 some (Sum.inr v201)
 partial_fixpoint
def Jo:((List Int) × Int × Int)→(Int ⊕ Int)→Prop:=fun x r=>match x with
 | (p0,v201,v202)=>∀ st,prune 0 ((Qy (QN [1,1,0,1,0,0] (QP f160))).bind (env.hint 160).keepAt) st=⟨kp 31 [(2,(.dat (.raw (.func (.func 164) #[] #[])))),(8,(Qc v201)),(13,(.dat (.lst ((List.map Qa) p0)))),(14,(Qc (p0.length:Int))),(15,(Qc v202))],[]⟩ →
  RL prog env (env.hint 160) true (QN [1,1,0,1,0,0] (QP f160)) 0 st (fun e s=>match r with|.inl v601=>e=.ret∧∃ d,s=⟨sl d 31 [(6,(Qc v601)),(7,(Qs false))],[]⟩|.inr (v602)=>e=.exit 0∧∃ d,s=⟨sl d 31 [(8,(Qc v602))],[]⟩)
theorem Yq:∀ x r,Q0 x=some r→Jo x r:=by
 refine Q0.partial_correctness _ (fun Q0 Yq x r hm=>?_)
 unfold Jo
 obtain ⟨p0,v201,v202⟩:=x
 intro st hst
 refine RL_at hst ?_
 clear hst
 refine Qd (R_G (Qb 1 (Qe (Qd ?_))))
 refine Qx hm (rfl) (fun hm=>?_) (fun hm=>?_)
 ·refine Qo (Qd (Qw (Qd (R_G ?_))))
  refine Q3 1 Qa hm rfl (fun _=>rfl) (fun v603 hm=>?_)
  refine Qb 2 (Qe (Qd (R_G (Qb 3 ?_))))
  obtain ⟨⟨v604,v605⟩,hx,hm⟩:=Qg hm
  have hq:=QfX _ _ hx []
  refine Qp hq ?_
  refine Qb 5 (Qe (Qd (R_G (Qb 2 (Qe ?_)))))
  refine Qx hm (QaT _) (fun hm=>?_) (fun hm=>?_)
  ·refine Qd (R_G (Qb 3 (Qe (Qr ?_))))
   obtain rfl:=Qu hm
   exact ⟨rfl,Qm⟩
  refine Qo (R_G (Qb 2 (Qe ?_)))
  exact Yq _ _ hm _ (by kernel_rfl)
 refine Q8 ?_
 obtain rfl:=Qu hm
 exact ⟨rfl,Qm⟩
def YD (x:((List Int) × Int)):Option (Int × Bool) :=
 match x with
 | (p0,p1) =>
 (
 Q0 (p0,p1,0)>>=fun (out:Int ⊕ Int) =>
 match out with
 | .inl v601 =>
  some (v601,false)
 | .inr (v602) =>
  some (v602,true)
 )
def Qaa:((List Int) × Int)→(Int × Bool)→Prop:=fun x r=>match x,r with
 | (p0,p1),(r0,r1)=>∀ H,PC prog env 160 ([(.lst ((List.map Qa) p0)),(Qa p1),(.raw (.func (.func 164) #[] #[]))].map .dat) H (.tup [(Qc r0),(Qs r1)]) H
theorem Qce:∀ x r,YD x=some r→Qaa x r:=by
 intro x r hm
 unfold YD at hm
 unfold Qaa
 obtain ⟨p0,p1⟩:=x
 obtain ⟨r0,r1⟩:=r
 intro H
 refine PC_sx (ds:=[(.lst ((List.map Qa) p0)),(Qa p1),(.raw (.func (.func 164) #[] #[]))]) (fn:=f160) rfl ?_
 refine Qd (R_G (Qb 2 (Qe (Qd (R_G (Qb 3 (Qe (Qd (Qd (R_G (Qb 1 ?_)))))))))))
 refine QO Qa p0 (es:=(List.map Qa) p0) rfl ?_
 refine Qb 1 (Qe (Qw ?_))
 obtain ⟨out,hs,hm⟩:=Qg hm
 refine Ze ?_
 rcases out with v601|v602
 ·refine RL_use (Yq _ _ hs) (by kernel_rfl) ?_
  clear hs
  intro e s hp
  obtain ⟨rfl,d,rfl⟩:=hp
  obtain ⟨rfl,rfl⟩:=QU hm
  exact ⟨trivial,Qk⟩
 ·refine RL_use (Yq _ _ hs) (by kernel_rfl) ?_
  clear hs
  intro e s hp
  obtain ⟨rfl,d,rfl⟩:=hp
  refine Qd (R_G (Qb 3 (Qe (Qr ?_))))
  obtain ⟨rfl,rfl⟩:=QU hm
  exact ⟨trivial,Qk⟩
def YC (x:((List Int) × Int)):Option (Int × Int) :=
 match x with
 | (p0,p1) =>
 Jv p0>>=fun (v1:Int) =>
 if v1≠0 then
  some (0,v1)
 else
 YD (p0,p1)>>=fun ((v2,v3):(Int × Bool)) =>
 if v3=false then
  some (0,7)
 else
 some (v2,0)
def J9:((List Int) × Int)→(Int × Int)→Prop:=fun x r=>match x,r with
 | (p0,p1),(r0,r1)=>∀ H,PC prog env 140 ([(.lst ((List.map Qa) p0)),(Qa p1),(.raw (.func (.func 164) #[] #[]))].map .dat) H (.tup [(Qc r0),(Qc r1)]) H
theorem Qcd:∀ x r,YC x=some r→J9 x r:=by
 intro x r hm
 unfold YC at hm
 unfold J9
 obtain ⟨p0,p1⟩:=x
 obtain ⟨r0,r1⟩:=r
 intro H
 refine PC_sx (ds:=[(.lst ((List.map Qa) p0)),(Qa p1),(.raw (.func (.func 164) #[] #[]))]) (fn:=f140) rfl ?_
 refine Qd (R_G (Qb 2 (Qe (Qd (Qd (R_G (Qb 1 ?_)))))))
 obtain ⟨v1,hx,hm⟩:=Qg hm
 have hq:=Qc3 _ _ hx []
 refine Qp hq ?_
 refine Qb 1 (Qe (Qd (R_G (Qb 2 (Qe ?_)))))
 refine Qx hm (ne_dec _ _) (fun hm=>?_) (fun hm=>?_)
 ·refine Qd (R_G (Qb 3 (Qe (Qr ?_))))
  obtain ⟨rfl,rfl⟩:=QU hm
  exact ⟨trivial,Qk⟩
 refine Qo (Qd (R_G (Qb 3 ?_)))
 obtain ⟨⟨v2,v3⟩,hx,hm⟩:=Qg hm
 have hq:=Qce _ _ hx []
 refine Qp hq ?_
 refine Qb 5 (Qe (Qd (Qd (R_G (Qb 2 (Qe ?_))))))
 refine Qx hm (QaT _) (fun hm=>?_) (fun hm=>?_)
 ·refine Qd (R_G (Qb 2 (Qe (Qr ?_))))
  obtain ⟨rfl,rfl⟩:=QU hm
  exact ⟨trivial,Qk⟩
 refine Qo (Qd (R_G (Qb 3 (Qe (Qr ?_)))))
 obtain ⟨rfl,rfl⟩:=QU hm
 exact ⟨trivial,Qk⟩
def Qb8 (x:(List Int)):Option (Int × Int) :=
 match x with
 | p0 =>
 YC (p0,0)>>=fun ((v1,v2):(Int × Int)) =>
 some (v1,v2)
def Qfr:(List Int)→(Int × Int)→Prop:=fun x r=>match x,r with
 | p0,(r0,r1)=>∀ H,PC prog env 146 ([(.lst ((List.map Qa) p0))].map .dat) H (.tup [(Qc r0),(Qc r1)]) H
theorem Qgk:∀ x r,Qb8 x=some r→Qfr x r:=by
 intro p0 r hm
 unfold Qb8 at hm
 unfold Qfr
 obtain ⟨r0,r1⟩:=r
 intro H
 refine PC_sx (ds:=[(.lst ((List.map Qa) p0))]) (fn:=f146) rfl ?_
 refine Qd (R_G (Qb 2 (Qe (Qd (R_G (Qb 1 ?_))))))
 obtain ⟨⟨v1,v2⟩,hx,hm⟩:=Qg hm
 have hq:=Qcd _ _ hx []
 refine Qp hq ?_
 refine Qb 4 (Qe (Qr ?_))
 obtain ⟨rfl,rfl⟩:=QU hm
 exact ⟨trivial,Qk⟩
def Qbw (x:((List Int) × (List Int) × Int)):Option ((List Int) × Int) :=
 match x with
 | (p0,p1,p2) =>
 YW (p0,p2)>>=fun ((v1,v2):((List Int) × Int)) =>
 YW (p1,p2)>>=fun ((v3,v4):((List Int) × Int)) =>
 Xk (v1,v3)>>=fun (v5:Bool) =>
 if v5=false then
  some (([]:(List Int)),5)
 else
 idx p0 p2>>=fun v6 =>
 idx p1 p2>>=fun v7 =>
 Qb8 ([v6,v7]:List Int)>>=fun ((v8,v9):(Int × Int)) =>
 if v9≠0 then
  some (([]:(List Int)),v9)
 else
 Y7 (p0,p2,v8)>>=fun ((v10,v11):((List Int) × Int)) =>
 some (v10,v11)
def Qej:((List Int) × (List Int) × Int)→((List Int) × Int)→Prop:=fun x r=>match x,r with
 | (p0,p1,p2),(r0,r1)=>∀ H,PC prog env 126 ([(.lst ((List.map Qa) p0)),(.lst ((List.map Qa) p1)),(Qa p2)].map .dat) H (.tup [(.dat (.lst ((List.map Qa) r0))),(Qc r1)]) H
theorem QfN:∀ x r,Qbw x=some r→Qej x r:=by
 intro x r hm
 unfold Qbw at hm
 unfold Qej
 obtain ⟨p0,p1,p2⟩:=x
 obtain ⟨r0,r1⟩:=r
 intro H
 refine PC_sx (ds:=[(.lst ((List.map Qa) p0)),(.lst ((List.map Qa) p1)),(Qa p2)]) (fn:=f126) rfl ?_
 refine Qd (R_G (Qb 2 (Qe (Qd (R_G (Qb 2 ?_))))))
 obtain ⟨⟨v1,v2⟩,hx,hm⟩:=Qg hm
 have hq:=QdW _ _ hx []
 refine Qp hq ?_
 refine Qb 5 (Qe (Qd (R_G (Qb 2 ?_))))
 obtain ⟨⟨v3,v4⟩,hx,hm⟩:=Qg hm
 have hq:=QdW _ _ hx []
 refine Qp hq ?_
 refine Qb 5 (Qe (Qd (Qd (R_G (Qb 2 ?_)))))
 obtain ⟨v5,hx,hm⟩:=Qg hm
 have hq:=Qeu _ _ hx []
 refine Qp hq ?_
 refine Qb 1 (Qe ?_)
 refine Qx hm (QaT _) (fun hm=>?_) (fun hm=>?_)
 ·refine Qd (R_G (Qb 2 (Qe (Qr ?_))))
  obtain ⟨rfl,rfl⟩:=QU hm
  exact ⟨trivial,Qk⟩
 refine Qo (Qd ?_)
 refine QaK ?_
 refine Qb 2 ?_
 refine Q3 1 Qa hm rfl (fun _=>rfl) (fun v6 hm=>?_)
 refine Qb 3 ?_
 refine Q3 1 Qa hm rfl (fun _=>rfl) (fun v7 hm=>?_)
 refine Qb 2 ?_
 obtain ⟨⟨v8,v9⟩,hx,hm⟩:=Qg hm
 have hq:=Qgk _ _ hx []
 refine Qp hq ?_
 refine Qb 5 ?_
 refine Qe ⟨by kernel_rfl,?_⟩
 refine Qd (Qd (R_G (Qb 2 (Qe ?_))))
 refine Qx hm (ne_dec _ _) (fun hm=>?_) (fun hm=>?_)
 ·refine Qd (R_G (Qb 3 (Qe (Qr ?_))))
  obtain ⟨rfl,rfl⟩:=QU hm
  exact ⟨trivial,Qk⟩
 refine Qo (Qd (R_G (Qb 3 ?_)))
 obtain ⟨⟨v10,v11⟩,hx,hm⟩:=Qg hm
 have hq:=Qdm _ _ hx []
 refine Qp hq ?_
 refine Qb 4 (Qe (Qr ?_))
 obtain ⟨rfl,rfl⟩:=QU hm
 exact ⟨trivial,Qk⟩
def XK (x:(Int × Int × (List Int) × (List Int) × (List Int))):Option (Unit) :=
 match x with
 | (q0,q1,q2,q3,q4) =>
 some ()
def J6:(Int × Int × (List Int) × (List Int) × (List Int))→Unit→Prop:=fun x r=>match x with
 | (q0,q1,q2,q3,q4)=>PC prog env 123 [(.ptr 6 0),(.iptr [(Qa q0)]),(.iptr [(Qa q1)])] [(.box [(.dat (.lst ((List.map Qa) []))),(.dat (.lst ((List.map Qa) []))),(.dat (.lst ((List.map Qa) []))),(.dat (.lst ((List.map Qa) []))),(Qc 0),(Qc 0),(.dat (.lst ((List.map Qa) [])))]),(.box [(.dat (.lst ((List.map Qa) q2)))]),(.box [(.fn 123 [(.iptr [(Qa q0)]),(.iptr [(Qa q1)])]),(.fn 127 [(.ptr 1 0)])]),(.box [(.dat (.lst ((List.map Qa) []))),(.dat (.lst ((List.map Qa) []))),(.dat (.lst ((List.map Qa) []))),(.dat (.lst ((List.map Qa) []))),(Qc 0),(Qc 0),(.dat (.lst ((List.map Qa) [])))]),(.mt 3 1 (cellsOf Qa q3)),(.mt 3 1 (cellsOf Qa q4)),(.box [(.dat (.lst ((List.map Qa) []))),(.ms 4 1 0 q3.length q3.length),(.ms 5 1 0 q4.length q4.length),(.dat (.lst ((List.map Qa) []))),(Qc (-1)),(Qc 0),(.dat (.lst ((List.map Qa) [])))])] (match r with|_=>(.tup [])) (match r with|_=>[(.box [(.dat (.lst ((List.map Qa) []))),(.dat (.lst ((List.map Qa) []))),(.dat (.lst ((List.map Qa) []))),(.dat (.lst ((List.map Qa) []))),(Qc 0),(Qc 0),(.dat (.lst ((List.map Qa) [])))]),(.box [(.dat (.lst ((List.map Qa) q2)))]),(.box [(.fn 123 [(.iptr [(Qa q0)]),(.iptr [(Qa q1)])]),(.fn 127 [(.ptr 1 0)])]),(.box [(.dat (.lst ((List.map Qa) []))),(.dat (.lst ((List.map Qa) []))),(.dat (.lst ((List.map Qa) []))),(.dat (.lst ((List.map Qa) []))),(Qc 0),(Qc 0),(.dat (.lst ((List.map Qa) [])))]),(.mt 3 1 (cellsOf Qa q3)),(.mt 3 1 (cellsOf Qa q4)),(.box [(.dat (.lst ((List.map Qa) []))),(.ms 4 1 0 q3.length q3.length),(.ms 5 1 0 q4.length q4.length),(.dat (.lst ((List.map Qa) []))),(Qc q0),(Qc q1),(.dat (.lst ((List.map Qa) [])))])])
theorem QdS:∀ x r,XK x=some r→J6 x r:=by
 intro x r hm
 unfold XK at hm
 unfold J6
 obtain ⟨q0,q1,q2,q3,q4⟩:=x
 refine PC_sxB (fn:=f123) rfl ?_
 refine QaK ?_
 refine Qb 10 ?_
 refine Qe ⟨by kernel_rfl,?_⟩
 obtain rfl:=Qu hm
 exact ⟨trivial,QY (by kernel_rfl) (by kernel_rfl)⟩
def YZ (x:((List Int) × Int × Int × (List Int) × (List Int))):Option (Unit) :=
 match x with
 | (q0,q1,q2,q3,q4) =>
 some ()
def Jb:((List Int) × Int × Int × (List Int) × (List Int))→Unit→Prop:=fun x r=>match x with
 | (q0,q1,q2,q3,q4)=>PC prog env 127 [(.ptr 6 0),(.ptr 1 0)] [(.box [(.dat (.lst ((List.map Qa) []))),(.dat (.lst ((List.map Qa) []))),(.dat (.lst ((List.map Qa) []))),(.dat (.lst ((List.map Qa) []))),(Qc 0),(Qc 0),(.dat (.lst ((List.map Qa) [])))]),(.box [(.dat (.lst ((List.map Qa) q0)))]),(.box [(.fn 123 [(.iptr [(Qa q1)]),(.iptr [(Qa q2)])]),(.fn 127 [(.ptr 1 0)])]),(.box [(.dat (.lst ((List.map Qa) []))),(.dat (.lst ((List.map Qa) []))),(.dat (.lst ((List.map Qa) []))),(.dat (.lst ((List.map Qa) []))),(Qc 0),(Qc 0),(.dat (.lst ((List.map Qa) [])))]),(.mt 3 1 (cellsOf Qa q3)),(.mt 3 1 (cellsOf Qa q4)),(.box [(.dat (.lst ((List.map Qa) []))),(.ms 4 1 0 q3.length q3.length),(.ms 5 1 0 q4.length q4.length),(.dat (.lst ((List.map Qa) []))),(Qc q1),(Qc q2),(.dat (.lst ((List.map Qa) [])))])] (match r with|_=>(.tup [])) (match r with|_=>[(.box [(.dat (.lst ((List.map Qa) []))),(.dat (.lst ((List.map Qa) []))),(.dat (.lst ((List.map Qa) []))),(.dat (.lst ((List.map Qa) []))),(Qc 0),(Qc 0),(.dat (.lst ((List.map Qa) [])))]),(.box [(.dat (.lst ((List.map Qa) q0)))]),(.box [(.fn 123 [(.iptr [(Qa q1)]),(.iptr [(Qa q2)])]),(.fn 127 [(.ptr 1 0)])]),(.box [(.dat (.lst ((List.map Qa) []))),(.dat (.lst ((List.map Qa) []))),(.dat (.lst ((List.map Qa) []))),(.dat (.lst ((List.map Qa) []))),(Qc 0),(Qc 0),(.dat (.lst ((List.map Qa) [])))]),(.mt 3 1 (cellsOf Qa q3)),(.mt 3 1 (cellsOf Qa q4)),(.box [(.dat (.lst ((List.map Qa) q0))),(.ms 4 1 0 q3.length q3.length),(.ms 5 1 0 q4.length q4.length),(.dat (.lst ((List.map Qa) []))),(Qc q1),(Qc q2),(.dat (.lst ((List.map Qa) [])))])])
theorem QcW:∀ x r,YZ x=some r→Jb x r:=by
 intro x r hm
 unfold YZ at hm
 unfold Jb
 obtain ⟨q0,q1,q2,q3,q4⟩:=x
 refine PC_sxB (fn:=f127) rfl ?_
 refine R_G (Qb 5 (Qe ?_))
 obtain rfl:=Qu hm
 exact ⟨trivial,QY (by kernel_rfl) (by kernel_rfl)⟩
def JX (x:((List Int) × (List Int) × (List Int) × Int × Int)):Option (Int ⊕ ((List Int) × (List Int))) :=
 match x with
 | (q0,q1,q2,q3,q4) =>
 Zp q1>>=fun (v1:Int) =>
 if v1≠0 then
  some (Sum.inl v1)
 else
 Qz q0>>=fun v2 =>
 Qz q1>>=fun v3 =>
 XK (q3,q4,q2,v2,v3)>>=fun (_:Unit) =>
 YZ (q2,q3,q4,v2,v3)>>=fun (_:Unit) =>
 some (Sum.inr (v2,v3))
def JP:((List Int) × (List Int) × (List Int) × Int × Int)→(Int ⊕ ((List Int) × (List Int)))→Prop:=fun x r=>match x with
 | (q0,q1,q2,q3,q4)=>PC prog env 97 [(.dat (.lst ((List.map Qa) q0))),(.dat (.lst ((List.map Qa) q1))),(.arr 2 0 2 2)] [(.box [(.dat (.lst ((List.map Qa) []))),(.dat (.lst ((List.map Qa) []))),(.dat (.lst ((List.map Qa) []))),(.dat (.lst ((List.map Qa) []))),(Qc 0),(Qc 0),(.dat (.lst ((List.map Qa) [])))]),(.box [(.dat (.lst ((List.map Qa) q2)))]),(.box [(.fn 123 [(.iptr [(Qa q3)]),(.iptr [(Qa q4)])]),(.fn 127 [(.ptr 1 0)])])] (match r with|.inl v5001=>(.tup [(.dat (.agg [(.lst ((List.map Qa) [])),(.lst ((List.map Qa) [])),(.lst ((List.map Qa) [])),(.lst ((List.map Qa) [])),(Qa 0),(Qa 0),(.lst ((List.map Qa) []))])),(Qc v5001)])|.inr ((v5002,v5003))=>(.tup [(.agg [(.dat (.lst ((List.map Qa) q2))),(.ms 4 1 0 v5002.length v5002.length),(.ms 5 1 0 v5003.length v5003.length),(.dat (.lst ((List.map Qa) []))),(Qc q3),(Qc q4),(.dat (.lst ((List.map Qa) [])))]),(Qc 0)])) (match r with|.inl v5001=>[(.box [(.dat (.lst ((List.map Qa) []))),(.dat (.lst ((List.map Qa) []))),(.dat (.lst ((List.map Qa) []))),(.dat (.lst ((List.map Qa) []))),(Qc 0),(Qc 0),(.dat (.lst ((List.map Qa) [])))]),(.box [(.dat (.lst ((List.map Qa) q2)))]),(.box [(.fn 123 [(.iptr [(Qa q3)]),(.iptr [(Qa q4)])]),(.fn 127 [(.ptr 1 0)])]),(.box [(.dat (.lst ((List.map Qa) []))),(.dat (.lst ((List.map Qa) []))),(.dat (.lst ((List.map Qa) []))),(.dat (.lst ((List.map Qa) []))),(Qc 0),(Qc 0),(.dat (.lst ((List.map Qa) [])))])]|.inr ((v5002,v5003))=>[(.box [(.dat (.lst ((List.map Qa) []))),(.dat (.lst ((List.map Qa) []))),(.dat (.lst ((List.map Qa) []))),(.dat (.lst ((List.map Qa) []))),(Qc 0),(Qc 0),(.dat (.lst ((List.map Qa) [])))]),(.box [(.dat (.lst ((List.map Qa) q2)))]),(.box [(.fn 123 [(.iptr [(Qa q3)]),(.iptr [(Qa q4)])]),(.fn 127 [(.ptr 1 0)])]),(.box [(.dat (.lst ((List.map Qa) q2))),(.ms 4 1 0 v5002.length v5002.length),(.ms 5 1 0 v5003.length v5003.length),(.dat (.lst ((List.map Qa) []))),(Qc q3),(Qc q4),(.dat (.lst ((List.map Qa) [])))]),(.mt 3 1 (cellsOf Qa v5002)),(.mt 3 1 (cellsOf Qa v5003)),(.box [(.dat (.lst ((List.map Qa) q2))),(.ms 4 1 0 v5002.length v5002.length),(.ms 5 1 0 v5003.length v5003.length),(.dat (.lst ((List.map Qa) []))),(Qc q3),(Qc q4),(.dat (.lst ((List.map Qa) [])))])])
theorem Qcx:∀ x r,JX x=some r→JP x r:=by
 intro x r hm
 unfold JX at hm
 unfold JP
 obtain ⟨q0,q1,q2,q3,q4⟩:=x
 refine PC_sxB (fn:=f97) rfl ?_
 refine Qd (R_G (Qb 2 (Qe (Qd (Qd (R_G (Qb 1 ?_)))))))
 obtain ⟨v1,hx,hm⟩:=Qg hm
 have hq:=ZY _ _ hx []
 refine Qp hq ?_
 refine Qb 1 (Qe (Qd (R_G (Qb 2 (Qe ?_)))))
 refine Qx hm (ne_dec _ _) (fun hm=>?_) (fun hm=>?_)
 ·refine Qd (R_G (Qb 4 (Qe (Qr ?_))))
  obtain rfl:=Qu hm
  exact ⟨trivial,QY (by kernel_rfl) (by kernel_rfl)⟩
 refine Qo (Qd (R_G (Qb 1 ?_)))
 obtain ⟨v2,hx,hm⟩:=Qg hm
 have hq:=QG _ _ hx
 dsimp only [QB] at hq
 have hl9:mtOf [Blk.mt 3 (cgm_slices_Clone_int_int v2) (cellsOf Qa v2)] 0=some (3,cgm_slices_Clone_int_int v2,cellsOf Qa v2):=ZS (by kernel_rfl)
 refine Yb (v:=.ms 4 1 0 v2.length v2.length) (fun H=>H++[.mt 3 1 (cellsOf Qa v2)]) rfl (by kernel_rfl) ?_ ?_
 ·intro K hk
  refine Zz 4 (first:=#[]) (cap:=#[]) (j:=(0,3)) (ow':=[]) (f0:=Qa) (l:=v2) rfl ?_ ?_ ?_ (ds:=[.lst ((List.map Qa) q0)]) ?_ hq hl9 ?_ ?_ ?_
  ·kernel_rfl
  ·kernel_rfl
  ·kernel_rfl
  ·kernel_rfl
  ·exact hk
  ·kernel_rfl
  ·decide
 refine Qb 1 ?_
 obtain ⟨v3,hx,hm⟩:=Qg hm
 have hq:=QG _ _ hx
 dsimp only [QB] at hq
 have hl9:mtOf [Blk.mt 3 (cgm_slices_Clone_int_int v3) (cellsOf Qa v3)] 0=some (3,cgm_slices_Clone_int_int v3,cellsOf Qa v3):=ZS (by kernel_rfl)
 refine Yb (v:=.ms 5 1 0 v3.length v3.length) (fun H=>H++[.mt 3 1 (cellsOf Qa v3)]) rfl (by kernel_rfl) ?_ ?_
 ·intro K hk
  refine Zz 5 (first:=#[]) (cap:=#[]) (j:=(0,3)) (ow':=[]) (f0:=Qa) (l:=v3) rfl ?_ ?_ ?_ (ds:=[.lst ((List.map Qa) q1)]) ?_ hq hl9 ?_ ?_ ?_
  ·kernel_rfl
  ·kernel_rfl
  ·kernel_rfl
  ·kernel_rfl
  ·exact hk
  ·kernel_rfl
  ·decide
 refine Qb 3 (Qe (Qd (Qd (R_G (Qb 1 (Qb 1 (Qb 1 (Qe (Qw ?_)))))))))
 refine Ze ?_
 refine RL_at (st':=⟨kp 33 [(6,(.ptr 3 0)),(9,(.ptr 6 0)),(23,(.arr 2 0 2 2)),(24,(Qc 2)),(25,(Qc 0))],[(.box [(.dat (.lst ((List.map Qa) []))),(.dat (.lst ((List.map Qa) []))),(.dat (.lst ((List.map Qa) []))),(.dat (.lst ((List.map Qa) []))),(Qc 0),(Qc 0),(.dat (.lst ((List.map Qa) [])))]),(.box [(.dat (.lst ((List.map Qa) q2)))]),(.box [(.fn 123 [(.iptr [(Qa q3)]),(.iptr [(Qa q4)])]),(.fn 127 [(.ptr 1 0)])]),(.box [(.dat (.lst ((List.map Qa) []))),(.dat (.lst ((List.map Qa) []))),(.dat (.lst ((List.map Qa) []))),(.dat (.lst ((List.map Qa) []))),(Qc 0),(Qc 0),(.dat (.lst ((List.map Qa) [])))]),(.mt 3 1 (cellsOf Qa v2)),(.mt 3 1 (cellsOf Qa v3)),(.box [(.dat (.lst ((List.map Qa) []))),(.ms 4 1 0 v2.length v2.length),(.ms 5 1 0 v3.length v3.length),(.dat (.lst ((List.map Qa) []))),(Qc (-1)),(Qc 0),(.dat (.lst ((List.map Qa) [])))])]⟩) (prune_of2 [(.box [(.dat (.lst ((List.map Qa) []))),(.dat (.lst ((List.map Qa) []))),(.dat (.lst ((List.map Qa) []))),(.dat (.lst ((List.map Qa) []))),(Qc 0),(Qc 0),(.dat (.lst ((List.map Qa) [])))]),(.box [(.dat (.lst ((List.map Qa) q2)))]),(.box [(.fn 123 [(.iptr [(Qa q3)]),(.iptr [(Qa q4)])]),(.fn 127 [(.ptr 1 0)])]),(.box [(.dat (.lst ((List.map Qa) []))),(.dat (.lst ((List.map Qa) []))),(.dat (.lst ((List.map Qa) []))),(.dat (.lst ((List.map Qa) []))),(Qc 0),(Qc 0),(.dat (.lst ((List.map Qa) [])))]),(.mt 3 1 (cellsOf Qa v2)),(.mt 3 1 (cellsOf Qa v3)),(.box [(.dat (.lst ((List.map Qa) []))),(.ms 4 1 0 v2.length v2.length),(.ms 5 1 0 v3.length v3.length),(.dat (.lst ((List.map Qa) []))),(Qc (-1)),(Qc 0),(.dat (.lst ((List.map Qa) [])))])] (fun _=>(pg_cons (by kernel_rfl) (pg_cons (by kernel_rfl) (pg_cons (by kernel_rfl) (pg_cons (by kernel_rfl) (pg_cons (purge_mt Qa _ _ _ _ _) (pg_cons (purge_mt Qa _ _ _ _ _) (pg_cons (by kernel_rfl) pg_nil)))))))) rfl) ?_
 refine Qd (R_G (Qb 1 (Qe (Qd ?_))))
 refine QaZ (by kernel_rfl) ?_
 refine Qo (Qd (Qw (Qd (R_G (Qb 1 (Qb 2 (Qe (R_G (Qb 1 ?_)))))))))
 obtain ⟨_,hx,hm⟩:=Qg hm
 have hq:=QdS _ _ hx
 dsimp only [J6] at hq
 refine Zh hq ?_
 refine Qe (R_G (Qb 2 (Qe ?_)))
 refine RL_at (st':=⟨kp 33 [(6,(.ptr 3 0)),(9,(.ptr 6 0)),(23,(.arr 2 0 2 2)),(24,(Qc 2)),(25,(Qc 1))],[(.box [(.dat (.lst ((List.map Qa) []))),(.dat (.lst ((List.map Qa) []))),(.dat (.lst ((List.map Qa) []))),(.dat (.lst ((List.map Qa) []))),(Qc 0),(Qc 0),(.dat (.lst ((List.map Qa) [])))]),(.box [(.dat (.lst ((List.map Qa) q2)))]),(.box [(.fn 123 [(.iptr [(Qa q3)]),(.iptr [(Qa q4)])]),(.fn 127 [(.ptr 1 0)])]),(.box [(.dat (.lst ((List.map Qa) []))),(.dat (.lst ((List.map Qa) []))),(.dat (.lst ((List.map Qa) []))),(.dat (.lst ((List.map Qa) []))),(Qc 0),(Qc 0),(.dat (.lst ((List.map Qa) [])))]),(.mt 3 1 (cellsOf Qa v2)),(.mt 3 1 (cellsOf Qa v3)),(.box [(.dat (.lst ((List.map Qa) []))),(.ms 4 1 0 v2.length v2.length),(.ms 5 1 0 v3.length v3.length),(.dat (.lst ((List.map Qa) []))),(Qc q3),(Qc q4),(.dat (.lst ((List.map Qa) [])))])]⟩) (prune_of2 [(.box [(.dat (.lst ((List.map Qa) []))),(.dat (.lst ((List.map Qa) []))),(.dat (.lst ((List.map Qa) []))),(.dat (.lst ((List.map Qa) []))),(Qc 0),(Qc 0),(.dat (.lst ((List.map Qa) [])))]),(.box [(.dat (.lst ((List.map Qa) q2)))]),(.box [(.fn 123 [(.iptr [(Qa q3)]),(.iptr [(Qa q4)])]),(.fn 127 [(.ptr 1 0)])]),(.box [(.dat (.lst ((List.map Qa) []))),(.dat (.lst ((List.map Qa) []))),(.dat (.lst ((List.map Qa) []))),(.dat (.lst ((List.map Qa) []))),(Qc 0),(Qc 0),(.dat (.lst ((List.map Qa) [])))]),(.mt 3 1 (cellsOf Qa v2)),(.mt 3 1 (cellsOf Qa v3)),(.box [(.dat (.lst ((List.map Qa) []))),(.ms 4 1 0 v2.length v2.length),(.ms 5 1 0 v3.length v3.length),(.dat (.lst ((List.map Qa) []))),(Qc q3),(Qc q4),(.dat (.lst ((List.map Qa) [])))])] (fun _=>(pg_cons (by kernel_rfl) (pg_cons (by kernel_rfl) (pg_cons (by kernel_rfl) (pg_cons (by kernel_rfl) (pg_cons (purge_mt Qa _ _ _ _ _) (pg_cons (purge_mt Qa _ _ _ _ _) (pg_cons (by kernel_rfl) pg_nil)))))))) rfl) ?_
 refine Qd (R_G (Qb 1 (Qe (Qd ?_))))
 refine QaZ (by kernel_rfl) ?_
 refine Qo (Qd (Qw (Qd (R_G (Qb 1 (Qb 2 (Qe (R_G (Qb 1 ?_)))))))))
 obtain ⟨_,hx,hm⟩:=Qg hm
 have hq:=QcW _ _ hx
 dsimp only [Jb] at hq
 refine Zh hq ?_
 refine Qe (R_G (Qb 2 (Qe ?_)))
 refine RL_at (st':=⟨kp 33 [(6,(.ptr 3 0)),(9,(.ptr 6 0)),(23,(.arr 2 0 2 2)),(24,(Qc 2)),(25,(Qc 2))],[(.box [(.dat (.lst ((List.map Qa) []))),(.dat (.lst ((List.map Qa) []))),(.dat (.lst ((List.map Qa) []))),(.dat (.lst ((List.map Qa) []))),(Qc 0),(Qc 0),(.dat (.lst ((List.map Qa) [])))]),(.box [(.dat (.lst ((List.map Qa) q2)))]),(.box [(.fn 123 [(.iptr [(Qa q3)]),(.iptr [(Qa q4)])]),(.fn 127 [(.ptr 1 0)])]),(.box [(.dat (.lst ((List.map Qa) []))),(.dat (.lst ((List.map Qa) []))),(.dat (.lst ((List.map Qa) []))),(.dat (.lst ((List.map Qa) []))),(Qc 0),(Qc 0),(.dat (.lst ((List.map Qa) [])))]),(.mt 3 1 (cellsOf Qa v2)),(.mt 3 1 (cellsOf Qa v3)),(.box [(.dat (.lst ((List.map Qa) q2))),(.ms 4 1 0 v2.length v2.length),(.ms 5 1 0 v3.length v3.length),(.dat (.lst ((List.map Qa) []))),(Qc q3),(Qc q4),(.dat (.lst ((List.map Qa) [])))])]⟩) (prune_of2 [(.box [(.dat (.lst ((List.map Qa) []))),(.dat (.lst ((List.map Qa) []))),(.dat (.lst ((List.map Qa) []))),(.dat (.lst ((List.map Qa) []))),(Qc 0),(Qc 0),(.dat (.lst ((List.map Qa) [])))]),(.box [(.dat (.lst ((List.map Qa) q2)))]),(.box [(.fn 123 [(.iptr [(Qa q3)]),(.iptr [(Qa q4)])]),(.fn 127 [(.ptr 1 0)])]),(.box [(.dat (.lst ((List.map Qa) []))),(.dat (.lst ((List.map Qa) []))),(.dat (.lst ((List.map Qa) []))),(.dat (.lst ((List.map Qa) []))),(Qc 0),(Qc 0),(.dat (.lst ((List.map Qa) [])))]),(.mt 3 1 (cellsOf Qa v2)),(.mt 3 1 (cellsOf Qa v3)),(.box [(.dat (.lst ((List.map Qa) q2))),(.ms 4 1 0 v2.length v2.length),(.ms 5 1 0 v3.length v3.length),(.dat (.lst ((List.map Qa) []))),(Qc q3),(Qc q4),(.dat (.lst ((List.map Qa) [])))])] (fun _=>(pg_cons (by kernel_rfl) (pg_cons (by kernel_rfl) (pg_cons (by kernel_rfl) (pg_cons (by kernel_rfl) (pg_cons (purge_mt Qa _ _ _ _ _) (pg_cons (purge_mt Qa _ _ _ _ _) (pg_cons (by kernel_rfl) pg_nil)))))))) rfl) ?_
 refine Qd (R_G (Qb 1 (Qe (Qd ?_))))
 refine Js (by kernel_rfl) ?_
 refine Q8 (Qd (R_G (Qb 3 (Qe (Qr ?_)))))
 obtain rfl:=Qu hm
 exact ⟨trivial,QY (by kernel_rfl) (by kernel_rfl)⟩
def YI (x:(Int × (List Int) × (List Int))):Option (Qn × Int) :=
 match x with
 | (p0,p1,p2) =>
 (if p0=(-1) then
  some (W ((max (max (p1.length:Int) (p2.length:Int)) 1) - 1))
 else
 some p0
 )>>=fun (v1:Int) =>
 if v1≥(max (max (p1.length:Int) (p2.length:Int)) 1) then
  Zt 4>>=fun ((v2,v3):(Qn × Int)) =>
  some (v2,v3)
 else
 Yd (p1,p2,(max (max (p1.length:Int) (p2.length:Int)) 1),v1)>>=fun ((v4,v5):((List Int) × Int)) =>
 Yd (p2,p1,(max (max (p1.length:Int) (p2.length:Int)) 1),v1)>>=fun ((v6,v7):((List Int) × Int)) =>
 (if v5≠0 then
  some true
 else
 some (v7 != 0)
 )>>=fun (v8:Bool) =>
 if v8=true then
  Zt 4>>=fun ((v9,v10):(Qn × Int)) =>
  some (v9,v10)
 else
 Qbw (v4,v6,v1)>>=fun ((v11,v12):((List Int) × Int)) =>
 if v12≠0 then
  Zt v12>>=fun ((v13,v14):(Qn × Int)) =>
  some (v13,v14)
 else
 YO (v1,0)>>=fun ((v15,v16):(Int × Int)) =>
 (
 JX (v6,v11,v4,v15,v16)>>=fun (out:Int ⊕ ((List Int) × (List Int))) =>
 match out with
 | .inl v17 =>
  some ((⟨([]:(List Int)),([]:(List Int)),([]:(List Int)),([]:(List Int)),0,0,([]:(List Int))⟩:Qn),v17)
 | .inr ((v18,v19)) =>
  some ((⟨v4,v18,v19,([]:(List Int)),v15,v16,([]:(List Int))⟩:Qn),0)
 )
def Qdg:(Int × (List Int) × (List Int))→(Qn × Int)→Prop:=fun x r=>match x,r with
 | (p0,p1,p2),(r0,r1)=>∀ H,PC prog env 100 ([(Qa p0),(.lst ((List.map Qa) p1)),(.lst ((List.map Qa) p2))].map .dat) H (.tup [(.dat (Qn.toD r0)),(Qc r1)]) H
theorem Qfk:∀ x r,YI x=some r→Qdg x r:=by
 intro x r hm
 unfold YI at hm
 unfold Qdg
 obtain ⟨p0,p1,p2⟩:=x
 obtain ⟨r0,r1⟩:=r
 intro H
 refine PC_sx (ds:=[(Qa p0),(.lst ((List.map Qa) p1)),(.lst ((List.map Qa) p2))]) (fn:=f100) rfl ?_
 refine Qd (R_G (Qb 2 (Qe (Qd (R_G (Qb 1 ?_))))))
 refine QO Qa p1 (es:=(List.map Qa) p1) rfl ?_
 refine Qb 1 ?_
 refine QO Qa p2 (es:=(List.map Qa) p2) rfl ?_
 refine ZD rfl (fun _=>QgC (k:=.i64) (m:=(p1.length:Int)) (n:=(p2.length:Int)) (q:=1) rfl (by kernel_rfl) (by kernel_rfl) (by kernel_rfl)) ?_
 refine Qb 1 (Qe (Qd (Qd (R_G (Qb 2 (Qe ?_))))))
 obtain ⟨v1,hs,hm⟩:=Qg hm
 refine Zy (fun d=>⟨sl d 76 [(0,(Qc v1)),(1,(.dat (.lst ((List.map Qa) p1)))),(2,(.dat (.lst ((List.map Qa) p2)))),(6,(.ptr 0 0)),(8,(Qc (max (max (p1.length:Int) (p2.length:Int)) 1)))],[(.box [(.dat (.lst ((List.map Qa) []))),(.dat (.lst ((List.map Qa) []))),(.dat (.lst ((List.map Qa) []))),(.dat (.lst ((List.map Qa) []))),(Qc 0),(Qc 0),(.dat (.lst ((List.map Qa) [])))])]⟩) ?_ (fun d=>?_)
 ·replace hm:=hs
  clear hs
  refine Qx hm (Q1 _ _) (fun hm=>?_) (fun hm=>?_)
  ·refine R_G (Qb 3 (Qe ?_))
   obtain rfl:=Qu hm
   exact Qm
  refine Qo ?_
  obtain rfl:=Qu hm
  exact Qm
 clear hs
 refine Qd (Qd (R_G (Qb 3 (Qe ?_))))
 refine Qx hm (rfl) (fun hm=>?_) (fun hm=>?_)
 ·refine Qd (R_G ?_)
  obtain ⟨⟨v2,v3⟩,hx,hm⟩:=Qg hm
  have hq:=ZX _ _ hx []
  refine Qp hq ?_
  refine Qb 4 (Qe (Qr ?_))
  obtain ⟨rfl,rfl⟩:=QU hm
  exact ⟨trivial,Qk⟩
 refine Qo (Qd (R_G (Qb 4 ?_)))
 obtain ⟨⟨v4,v5⟩,hx,hm⟩:=Qg hm
 have hq:=QdV _ _ hx []
 refine Qp hq ?_
 refine Qb 6 (Qe (Qd (R_G (Qb 4 ?_))))
 obtain ⟨⟨v6,v7⟩,hx,hm⟩:=Qg hm
 have hq:=QdV _ _ hx []
 refine Qp hq ?_
 refine Qb 5 (Qe (Qd (Qd ?_)))
 obtain ⟨v8,hs,hm⟩:=Qg hm
 refine Zy (fun d=>⟨sl d 76 [(0,(Qc v1)),(6,(.ptr 0 0)),(9,(.ptr 1 0)),(11,(.dat (.lst ((List.map Qa) v6)))),(50,(Qs v8))],[(.box [(.dat (.lst ((List.map Qa) []))),(.dat (.lst ((List.map Qa) []))),(.dat (.lst ((List.map Qa) []))),(.dat (.lst ((List.map Qa) []))),(Qc 0),(Qc 0),(.dat (.lst ((List.map Qa) [])))]),(.box [(.dat (.lst ((List.map Qa) v4)))])]⟩) ?_ (fun d=>?_)
 ·replace hm:=hs
  clear hs
  refine R_G (Qb 3 ?_)
  refine QA 47 hm (ne_dec _ _) (fun hm=>?_) (fun hm=>?_)
  ·refine Qb 3 (Qe ?_)
   obtain rfl:=Qu hm
   exact Qm
  refine Qb 3 (Qe ?_)
  obtain rfl:=Qu hm
  exact Qm
 clear hs
 refine Qx hm (QH _) (fun hm=>?_) (fun hm=>?_)
 ·refine Qd (R_G ?_)
  obtain ⟨⟨v9,v10⟩,hx,hm⟩:=Qg hm
  have hq:=ZX _ _ hx []
  refine Qp hq ?_
  refine Qb 4 (Qe (Qr ?_))
  obtain ⟨rfl,rfl⟩:=QU hm
  exact ⟨trivial,Qk⟩
 refine Qo (Qd (R_G (Qb 3 ?_)))
 obtain ⟨⟨v11,v12⟩,hx,hm⟩:=Qg hm
 have hq:=QfN _ _ hx []
 refine Qp hq ?_
 refine Qb 5 (Qe (Qd (Qd (R_G (Qb 2 (Qe ?_))))))
 refine Qx hm (ne_dec _ _) (fun hm=>?_) (fun hm=>?_)
 ·refine Qd (R_G (Qb 1 ?_))
  obtain ⟨⟨v13,v14⟩,hx,hm⟩:=Qg hm
  have hq:=ZX _ _ hx []
  refine Qp hq ?_
  refine Qb 4 (Qe (Qr ?_))
  obtain ⟨rfl,rfl⟩:=QU hm
  exact ⟨trivial,Qk⟩
 refine Qo (Qd (R_G (Qb 3 ?_)))
 obtain ⟨⟨v15,v16⟩,hx,hm⟩:=Qg hm
 have hq:=Qc2 _ _ hx []
 refine Qp hq ?_
 refine Qb 2 ?_
 obtain ⟨out,hx,hm⟩:=Qg hm
 rcases out with v17|⟨v18,v19⟩
 ·have hq:=Qcx _ _ hx
  dsimp only [JP] at hq
  refine Zh hq ?_
  refine Qb 4 (Qe (Qr ?_))
  obtain ⟨rfl,rfl⟩:=QU hm
  exact ⟨trivial,Qk⟩
 ·have hq:=Qcx _ _ hx
  dsimp only [JP] at hq
  refine Zh hq ?_
  refine Qb 4 (Qe (Qr ?_))
  obtain ⟨rfl,rfl⟩:=QU hm
  exact ⟨trivial,Xl [(.agg [(.dat (.lst ((List.map Qa) v4))),(.ms 4 1 0 v18.length v18.length),(.ms 5 1 0 v19.length v19.length),(.dat (.lst ((List.map Qa) []))),(Qc v15),(Qc v16),(.dat (.lst ((List.map Qa) [])))]),(Qc 0)] (by kernel_rfl) (po_tup (ps_cons (p1_agg (pc_cons (by kernel_rfl) (pc_cons (pc_ms (e:=3) Qa v18 rfl (fun _=>rfl) (by kernel_rfl)) (pc_cons (pc_ms (e:=3) Qa v19 rfl (fun _=>rfl) (by kernel_rfl)) (pc_cons (by kernel_rfl) (pc_cons (by kernel_rfl) (pc_cons (by kernel_rfl) (pc_cons (by kernel_rfl) pc_nil)))))))) (ps_cons (by kernel_rfl) ps_nil)))⟩
def Qab (x:(Qi × (List Int))):Option Qi :=
 match x with
 | (p0,p1) =>
 Xk (p0.shape,p1)>>=fun (v1:Bool) =>
 if v1=true then
  some p0
 else
 Y4 (p0,p1)>>=fun (v2:Qi) =>
 some v2
def Qe5:(Qi × (List Int))→Qi→Prop:=fun x r=>match x,r with
 | (p0,p1),r0=>∀ H,PC prog env 101 ([(Qi.ex p0),(.lst ((List.map Qa) p1))].map .dat) H (.dat (Qi.ex r0)) H
theorem QdO:∀ x r,Qab x=some r→Qe5 x r:=by
 intro x r0 hm
 unfold Qab at hm
 unfold Qe5
 obtain ⟨p0,p1⟩:=x
 intro H
 refine PC_sx (ds:=[(Qi.ex p0),(.lst ((List.map Qa) p1))]) (fn:=f101) rfl ?_
 refine Qd (R_G (Qb 2 (Qe (Qd (Qd (R_G (Qb 3 ?_)))))))
 obtain ⟨v1,hx,hm⟩:=Qg hm
 have hq:=Qeu _ _ hx []
 refine Qp hq ?_
 refine Qe ?_
 refine Qx hm (QH _) (fun hm=>?_) (fun hm=>?_)
 ·refine Qd (R_G (Qb 2 (Qe (Qr ?_))))
  obtain rfl:=Qu hm
  exact ⟨trivial,Qk⟩
 refine Qo (Qd (R_G (Qb 2 ?_)))
 obtain ⟨v2,hx,hm⟩:=Qg hm
 have hq:=QbH _ _ hx []
 refine Qp hq ?_
 refine Qb 1 (Qe (Qr ?_))
 obtain rfl:=Qu hm
 exact ⟨trivial,Qk⟩
def Ye (x:List Int):Option (List Int):=app 8 [] x
def cgm_slices_Clone_int64_int64 (l:List Int):Nat:=match l with|[]=>0|_=>1
def Yw:List Int→List Int→Prop:=fun x r=>PC prog env 128 [.dat (.lst ((List.map Qa) x))] [] (.ms 0 (cgm_slices_Clone_int64_int64 r) 0 r.length r.length) [.mt 2 (cgm_slices_Clone_int64_int64 r) (cellsOf Qa r)]
theorem Qal:∀ x r,Ye x=some r→Yw x r:=by
 intro x r hm
 obtain ⟨hroom,hr⟩:=app_some hm
 have hr:r=x:=hr
 subst hr
 unfold Yw
 cases r with
 | nil=>exact PC_of (n:=20) (by kernel_rfl)
 | cons a l =>
  refine PC_sxB (fn:=f128) rfl ?_
  refine Qd (R_G (Qb 1 (Qe (Qd (Qd (R_G (Qb 1 ?_)))))))
  refine ZD rfl (fun _=>Qf1 (p:=.dat (.lst ((List.map Qa) (a::l)))) (b:=false) rfl (by kernel_rfl) (by kernel_rfl) (by kernel_rfl)) ?_
  refine Qe ?_
  refine Js (by kernel_rfl) ?_
  refine Qo (Qd (R_G (Qb 2 ?_)))
  refine Yb (v:=.ms 0 1 0 (a::l).length (a::l).length) (fun H=>H.set 0 (.mt 2 1 (cellsOf Qa (a::l)))) rfl (by kernel_rfl) (fun _ hk=>Qge Qa (l:=[]) (es:=a::l) (bytes:=8) (e:=2) (tt:=0) (g:=0) (m:=0) hm (fun _=>rfl) (by kernel_rfl) (by kernel_rfl) (by kernel_rfl) (by kernel_rfl) rfl rfl (by kernel_rfl) rfl (by kernel_rfl) (source_lst (fun _=>rfl)) hk) ?_
  refine Qb 1 (Qe (Qr ?_))
  exact ⟨trivial,QY (by kernel_rfl) (by kernel_rfl)⟩
def XN (x:(Int × Int × Int × ByteArray × (List Int) × (List Qf))):Option (((List Int) × Bool × Int)) :=
 match x with
 | (q0,q1,q2,q3,q4,q5) =>
 if q0=1 then
  Ye q4>>=fun v1 =>
  some (v1,((q4.length:Int) == 1),0)
 else
 X0 q3>>=fun (_:Unit) =>
 some (([]:List Int),false,2)
def Qbc:(Int × Int × Int × ByteArray × (List Int) × (List Qf))→((List Int) × Bool × Int)→Prop:=fun x r=>match x with
 | (q0,q1,q2,q3,q4,q5)=>PCX prog env 102 [(.dat (.raw (.pointer none))),(.dat (.agg [(Qa q0),(Qa q1),(Qa q2),(strD q3),(.lst ((List.map Qa) q4)),(.lst (Qf.toDs q5))]))] [] (match r with|(v5001,v5002,v5003)=>(.tup [(.dat (.agg [(.lst ((List.map Qa) v5001)),(QaH v5002)])),(Qc v5003)])) (match r with|(v5001,v5002,v5003)=>[])
theorem QeY:∀ x r,XN x=some r→Qbc x r:=by
 intro x r hm
 unfold XN at hm
 unfold Qbc
 obtain ⟨q0,q1,q2,q3,q4,q5⟩:=x
 refine PCX_sxB (fn:=f102) rfl ?_
 refine Qd (R_G (Qb 3 (Qe (Qd (Qd (R_G (Qb 3 (Qe ?_))))))))
 refine Qx hm (Q1 _ _) (fun hm=>?_) (fun hm=>?_)
 ·refine Qd ?_
  refine QaK ?_
  refine Qb 2 ?_
  obtain ⟨v1,hx,hm⟩:=Qg hm
  have hq:=Qal _ _ hx
  dsimp only [Yw] at hq
  refine ZD (v:=.dat (.lst ((List.map Qa) v1))) rfl (fun _=>Qdq (f:=128) (first:=#[]) (cap:=#[]) (e:=2) (ow':=[]) (ds:=[.lst ((List.map Qa) q4)]) rfl (by kernel_rfl) (by kernel_rfl) (by kernel_rfl) (by kernel_rfl) hq (p1_ms (pc_ms (e:=2) Qa v1 rfl (fun _=>rfl) (by kernel_rfl)))) ?_
  refine Qb 2 ?_
  refine QO Qa q4 (es:=(List.map Qa) q4) rfl ?_
  refine Qb 4 ?_
  refine Qe ⟨by kernel_rfl,?_⟩
  refine Qr ?_
  obtain rfl:=Qu hm
  exact ⟨trivial,fin_bodyX 0 (by kernel_rfl) (by kernel_rfl)⟩
 refine Qo (Qd (R_G (Qb 3 ?_)))
 obtain ⟨_,hx,hm⟩:=Qg hm
 have hq:=QbS _ _ hx
 dsimp only [XY] at hq
 refine Qbr (n:=0) hq ?_
 refine Qb 6 (Qe (Qd (Qw (Qd (R_G (Qb 3 (Qe ?_)))))))
 refine QaZ (by kernel_rfl) ?_
 refine Qd (R_G (Qb 3 (Qe (Qr ?_))))
 obtain rfl:=Qu hm
 exact ⟨trivial,fin_bodyX 0 (by kernel_rfl) (by kernel_rfl)⟩
def Y3 (x:Int × Int):Option (List Int):=match x with
 | (a,n)=>if (a=1∨a=-1)∧0≤n∧n≤16 then some (List.replicate n.toNat a) else none
def Jf:Int × Int→List Int→Prop:=fun x r=>match x with
 | (a,n)=>PC prog env 165 [(.dat (.lst ((List.map Qa) ([a]:List Int)))),(Qc n)] [] (.arr 0 0 r.length r.length) [(.box (cellsOf Qa r))]
theorem QcZ:∀ x r,Y3 x=some r→Jf x r:=by
 intro x r hm
 obtain ⟨a,n⟩:=x
 unfold Y3 at hm
 simp only at hm
 split at hm
 ·rename_i hc
  cases hm
  obtain ⟨ha,h0,h1⟩:=hc
  obtain ⟨k,rfl⟩:=Int.eq_ofNat_of_zero_le h0
  have hk:k≤16:=by omega
  unfold Jf
  skip
  rcases ha with rfl|rfl
  ·match k,hk with
   | 0,_=>refine PC_of (n:=60) ?_; kernel_rfl
   | 1,_=>refine PC_of (n:=60) ?_; kernel_rfl
   | 2,_=>refine PC_of (n:=60) ?_; kernel_rfl
   | 3,_=>refine PC_of (n:=60) ?_; kernel_rfl
   | 4,_=>refine PC_of (n:=60) ?_; kernel_rfl
   | 5,_=>refine PC_of (n:=60) ?_; kernel_rfl
   | 6,_=>refine PC_of (n:=60) ?_; kernel_rfl
   | 7,_=>refine PC_of (n:=60) ?_; kernel_rfl
   | 8,_=>refine PC_of (n:=60) ?_; kernel_rfl
   | 9,_=>refine PC_of (n:=60) ?_; kernel_rfl
   | 10,_=>refine PC_of (n:=60) ?_; kernel_rfl
   | 11,_=>refine PC_of (n:=60) ?_; kernel_rfl
   | 12,_=>refine PC_of (n:=60) ?_; kernel_rfl
   | 13,_=>refine PC_of (n:=60) ?_; kernel_rfl
   | 14,_=>refine PC_of (n:=60) ?_; kernel_rfl
   | 15,_=>refine PC_of (n:=60) ?_; kernel_rfl
   | 16,_=>refine PC_of (n:=60) ?_; kernel_rfl
  ·match k,hk with
   | 0,_=>refine PC_of (n:=60) ?_; kernel_rfl
   | 1,_=>refine PC_of (n:=60) ?_; kernel_rfl
   | 2,_=>refine PC_of (n:=60) ?_; kernel_rfl
   | 3,_=>refine PC_of (n:=60) ?_; kernel_rfl
   | 4,_=>refine PC_of (n:=60) ?_; kernel_rfl
   | 5,_=>refine PC_of (n:=60) ?_; kernel_rfl
   | 6,_=>refine PC_of (n:=60) ?_; kernel_rfl
   | 7,_=>refine PC_of (n:=60) ?_; kernel_rfl
   | 8,_=>refine PC_of (n:=60) ?_; kernel_rfl
   | 9,_=>refine PC_of (n:=60) ?_; kernel_rfl
   | 10,_=>refine PC_of (n:=60) ?_; kernel_rfl
   | 11,_=>refine PC_of (n:=60) ?_; kernel_rfl
   | 12,_=>refine PC_of (n:=60) ?_; kernel_rfl
   | 13,_=>refine PC_of (n:=60) ?_; kernel_rfl
   | 14,_=>refine PC_of (n:=60) ?_; kernel_rfl
   | 15,_=>refine PC_of (n:=60) ?_; kernel_rfl
   | 16,_=>refine PC_of (n:=60) ?_; kernel_rfl
 ·cases hm
def Qcq (x:Int):Option (List Int) :=
 match x with
 | p0 =>
 Y3 (1,p0)>>=fun v1 =>
 some v1
def Qfe:Int→(List Int)→Prop:=fun x r=>match x,r with
 | p0,r0=>∀ H,PC prog env 147 ([(Qa p0)].map .dat) H (.dat (.lst ((List.map Qa) r0))) H
theorem Qgd:∀ x r,Qcq x=some r→Qfe x r:=by
 intro p0 r0 hm
 unfold Qcq at hm
 unfold Qfe
 intro H
 refine PC_sx (ds:=[(Qa p0)]) (fn:=f147) rfl ?_
 refine Qd (R_G (Qb 1 (Qe (Qd (R_G (Qb 2 ?_))))))
 obtain ⟨v1,hx,hm⟩:=Qg hm
 have hq:=QcZ _ _ hx
 dsimp only [Jf] at hq
 replace hq:=hq
 refine Zh hq ?_
 refine Qb 1 (Qe (Qr ?_))
 obtain rfl:=Qu hm
 exact ⟨trivial,Xl [(.arr 0 0 v1.length v1.length)] (by kernel_rfl) (po_arr (pc_arr Qa v1 rfl (fun _=>rfl) (by kernel_rfl)))⟩
def Qai (x:((List Int) × Int)):Option ((List Int) × Int) :=
 match x with
 | (p0,p1) =>
 if (p0.length:Int) > 0 then
  some (p0,0)
 else
 if p1 > 16 then
  some (([]:(List Int)),7)
 else
 Qcq p1>>=fun (v1:(List Int)) =>
 some (v1,0)
def Qff:((List Int) × Int)→((List Int) × Int)→Prop:=fun x r=>match x,r with
 | (p0,p1),(r0,r1)=>∀ H,PC prog env 129 ([(.lst ((List.map Qa) p0)),(Qa p1)].map .dat) H (.tup [(.dat (.lst ((List.map Qa) r0))),(Qc r1)]) H
theorem Qfi:∀ x r,Qai x=some r→Qff x r:=by
 intro x r hm
 unfold Qai at hm
 unfold Qff
 obtain ⟨p0,p1⟩:=x
 obtain ⟨r0,r1⟩:=r
 intro H
 refine PC_sx (ds:=[(.lst ((List.map Qa) p0)),(Qa p1)]) (fn:=f129) rfl ?_
 refine Qd (R_G (Qb 2 (Qe (Qd (Qw (Qd (R_G (Qb 1 ?_))))))))
 refine QO Qa p0 (es:=(List.map Qa) p0) rfl ?_
 refine Qb 2 (Qe ?_)
 refine Qx hm (rfl) (fun hm=>?_) (fun hm=>?_)
 ·refine Qd (R_G (Qb 3 (Qe (Qr ?_))))
  obtain ⟨rfl,rfl⟩:=QU hm
  exact ⟨trivial,Qk⟩
 refine Qd (R_G (Qb 3 (Qe ?_)))
 refine Qx hm (rfl) (fun hm=>?_) (fun hm=>?_)
 ·refine Qd (R_G (Qb 2 (Qe (Qr ?_))))
  obtain ⟨rfl,rfl⟩:=QU hm
  exact ⟨trivial,Qk⟩
 refine Qo (Qd (R_G (Qb 1 ?_)))
 obtain ⟨v1,hx,hm⟩:=Qg hm
 have hq:=Qgd _ _ hx []
 refine Qp hq ?_
 refine Qb 2 (Qe (Qr ?_))
 obtain ⟨rfl,rfl⟩:=QU hm
 exact ⟨trivial,Qk⟩
def Xp (x:Int):Option (Int × Int) :=
 match x with
 | p0 =>
 (if p0 > 65536 then
  some true
 else
 some (decide (p0 < (-65536)))
 )>>=fun (v1:Bool) =>
 if v1=true then
  some (0,7)
 else
 some ((if p0 < (W (0 - p0)) then (W (0 - p0)) else p0),0)
def QcQ:Int→(Int × Int)→Prop:=fun x r=>match x,r with
 | p0,(r0,r1)=>∀ H,PC prog env 130 ([(Qa p0)].map .dat) H (.tup [(Qc r0),(Qc r1)]) H
theorem QcY:∀ x r,Xp x=some r→QcQ x r:=by
 intro p0 r hm
 unfold Xp at hm
 unfold QcQ
 obtain ⟨r0,r1⟩:=r
 intro H
 refine PC_sx (ds:=[(Qa p0)]) (fn:=f130) rfl ?_
 refine Qd (R_G (Qb 2 (Qe (Qd (Qd ?_)))))
 obtain ⟨v1,hs,hm⟩:=Qg hm
 refine Zy (fun d=>⟨sl d 14 [(0,(Qc p0)),(9,(Qs v1))],[]⟩) ?_ (fun d=>?_)
 ·replace hm:=hs
  clear hs
  refine R_G (Qb 3 ?_)
  refine QA 6 hm (rfl) (fun hm=>?_) (fun hm=>?_)
  ·refine Qb 3 (Qe ?_)
   obtain rfl:=Qu hm
   exact Qm
  refine Qb 3 (Qe ?_)
  obtain rfl:=Qu hm
  exact Qm
 clear hs
 refine Qx hm (QH _) (fun hm=>?_) (fun hm=>?_)
 ·refine Qd (R_G (Qb 2 (Qe (Qr ?_))))
  obtain ⟨rfl,rfl⟩:=QU hm
  exact ⟨trivial,Qk⟩
 refine Qo (Qd (R_G (Qb 3 ?_)))
 refine ZD rfl (fun _=>Qf2 (k:=.i64) (m:=p0) (n:=(W (0 - p0))) rfl (by kernel_rfl) (by kernel_rfl)) ?_
 refine Qb 2 (Qe (Qr ?_))
 obtain ⟨rfl,rfl⟩:=QU hm
 exact ⟨trivial,Qk⟩
def X1 (x:((List Int) × (List Int) × Bool × Nat)):Option (Unit) :=
 match x with
 | (q0,q1,q2,q3) =>
 some ()
def QaI:((List Int) × (List Int) × Bool × Nat)→Unit→Prop:=fun x r=>match x with
 | (q0,q1,q2,q3)=>PC prog env 131 [(.vec 3 ((List.map Qa) q0))] [(.box [(.dat (.lst ((List.map Qa) q1))),(Qs q2)]),(.box [(.dat (.lst ((List.map Qa) []))),(.dat (.lst ((List.map Qa) []))),(.dat (.lst ((List.map Qa) []))),(.dat (.lst ((List.map Qa) []))),(Qc 0),(Qc 0),(.dat (.lst ((List.map Qa) [])))]),(.tok 3 q3),(.tok 3 q0.length)] (match r with|_=>(.fn 148 [(.ptr 4 0)])) (match r with|_=>[(.box [(.dat (.lst ((List.map Qa) q1))),(Qs q2)]),(.box [(.dat (.lst ((List.map Qa) []))),(.dat (.lst ((List.map Qa) []))),(.dat (.lst ((List.map Qa) []))),(.dat (.lst ((List.map Qa) []))),(Qc 0),(Qc 0),(.dat (.lst ((List.map Qa) [])))]),(.tok 3 q3),(.tok 3 q0.length),(.box [(.vec 3 ((List.map Qa) q0))])])
theorem Qd1:∀ x r,X1 x=some r→QaI x r:=by
 intro x r hm
 unfold X1 at hm
 unfold QaI
 obtain ⟨q0,q1,q2,q3⟩:=x
 refine PC_sxB (fn:=f131) rfl ?_
 refine Qd (R_G (Qb 2 (Qe (Qd (R_G (Qb 2 (Qe (Qr ?_))))))))
 obtain rfl:=Qu hm
 exact ⟨trivial,QY (by kernel_rfl) (by kernel_rfl)⟩
def Xz (x:((List Int) × Bool × (List Int) × (List Int) × (List Int) × Nat)):Option (Unit) :=
 match x with
 | (q0,q1,q2,q3,q4,q5) =>
 some ()
def JI:((List Int) × Bool × (List Int) × (List Int) × (List Int) × Nat)→Unit→Prop:=fun x r=>match x with
 | (q0,q1,q2,q3,q4,q5)=>PC prog env 148 [(.ptr 9 0),(.ptr 4 0)] [(.box [(.dat (.lst ((List.map Qa) q0))),(Qs q1)]),(.box [(.dat (.lst ((List.map Qa) []))),(.dat (.lst ((List.map Qa) []))),(.dat (.lst ((List.map Qa) []))),(.dat (.lst ((List.map Qa) []))),(Qc 0),(Qc 0),(.dat (.lst ((List.map Qa) [])))]),(.tok 3 q5),(.tok 3 q2.length),(.box [(.vec 3 ((List.map Qa) q2))]),(.box [(.fn 148 [(.ptr 4 0)])]),(.box [(.dat (.lst ((List.map Qa) []))),(.dat (.lst ((List.map Qa) []))),(.dat (.lst ((List.map Qa) []))),(.dat (.lst ((List.map Qa) []))),(Qc 0),(Qc 0),(.dat (.lst ((List.map Qa) [])))]),(.mt 3 1 (cellsOf Qa q3)),(.mt 3 1 (cellsOf Qa q4)),(.box [(.dat (.lst ((List.map Qa) []))),(.ms 7 1 0 q3.length q3.length),(.ms 8 1 0 q4.length q4.length),(.dat (.lst ((List.map Qa) []))),(Qc (-1)),(Qc 0),(.dat (.lst ((List.map Qa) [])))])] (match r with|_=>(.tup [])) (match r with|_=>[(.box [(.dat (.lst ((List.map Qa) q0))),(Qs q1)]),(.box [(.dat (.lst ((List.map Qa) []))),(.dat (.lst ((List.map Qa) []))),(.dat (.lst ((List.map Qa) []))),(.dat (.lst ((List.map Qa) []))),(Qc 0),(Qc 0),(.dat (.lst ((List.map Qa) [])))]),(.tok 3 q5),(.tok 3 q2.length),(.box [(.vec 3 ((List.map Qa) q2))]),(.box [(.fn 148 [(.ptr 4 0)])]),(.box [(.dat (.lst ((List.map Qa) []))),(.dat (.lst ((List.map Qa) []))),(.dat (.lst ((List.map Qa) []))),(.dat (.lst ((List.map Qa) []))),(Qc 0),(Qc 0),(.dat (.lst ((List.map Qa) [])))]),(.mt 3 1 (cellsOf Qa q3)),(.mt 3 1 (cellsOf Qa q4)),(.box [(.dat (.lst ((List.map Qa) []))),(.ms 7 1 0 q3.length q3.length),(.ms 8 1 0 q4.length q4.length),(.vec 3 ((List.map Qa) q2)),(Qc (-1)),(Qc 0),(.dat (.lst ((List.map Qa) [])))])])
theorem Qdo:∀ x r,Xz x=some r→JI x r:=by
 intro x r hm
 unfold Xz at hm
 unfold JI
 obtain ⟨q0,q1,q2,q3,q4,q5⟩:=x
 refine PC_sxB (fn:=f148) rfl ?_
 refine R_G (Qb 5 (Qe ?_))
 obtain rfl:=Qu hm
 exact ⟨trivial,QY (by kernel_rfl) (by kernel_rfl)⟩
def JY (x:((List Int) × (List Int) × (List Int) × Bool × (List Int))):Option (Int ⊕ ((List Int) × (List Int))) :=
 match x with
 | (q0,q1,q2,q3,q4) =>
 Zp q1>>=fun (v1:Int) =>
 if v1≠0 then
  some (Sum.inl v1)
 else
 Qz q0>>=fun v2 =>
 Qz q1>>=fun v3 =>
 Xz (q2,q3,q4,v2,v3,q1.length)>>=fun (_:Unit) =>
 some (Sum.inr (v2,v3))
def JQ:((List Int) × (List Int) × (List Int) × Bool × (List Int))→(Int ⊕ ((List Int) × (List Int)))→Prop:=fun x r=>match x with
 | (q0,q1,q2,q3,q4)=>PC prog env 97 [(.dat (.lst ((List.map Qa) q0))),(.vec 2 ((List.map Qa) q1)),(.arr 5 0 1 1)] [(.box [(.dat (.lst ((List.map Qa) q2))),(Qs q3)]),(.box [(.dat (.lst ((List.map Qa) []))),(.dat (.lst ((List.map Qa) []))),(.dat (.lst ((List.map Qa) []))),(.dat (.lst ((List.map Qa) []))),(Qc 0),(Qc 0),(.dat (.lst ((List.map Qa) [])))]),(.tok 3 q1.length),(.tok 3 q4.length),(.box [(.vec 3 ((List.map Qa) q4))]),(.box [(.fn 148 [(.ptr 4 0)])])] (match r with|.inl v5001=>(.tup [(.dat (.agg [(.lst ((List.map Qa) [])),(.lst ((List.map Qa) [])),(.lst ((List.map Qa) [])),(.lst ((List.map Qa) [])),(Qa 0),(Qa 0),(.lst ((List.map Qa) []))])),(Qc v5001)])|.inr ((v5002,v5003))=>(.tup [(.agg [(.dat (.lst ((List.map Qa) []))),(.ms 7 1 0 v5002.length v5002.length),(.ms 8 1 0 v5003.length v5003.length),(.vec 3 ((List.map Qa) q4)),(Qc (-1)),(Qc 0),(.dat (.lst ((List.map Qa) [])))]),(Qc 0)])) (match r with|.inl v5001=>[(.box [(.dat (.lst ((List.map Qa) q2))),(Qs q3)]),(.box [(.dat (.lst ((List.map Qa) []))),(.dat (.lst ((List.map Qa) []))),(.dat (.lst ((List.map Qa) []))),(.dat (.lst ((List.map Qa) []))),(Qc 0),(Qc 0),(.dat (.lst ((List.map Qa) [])))]),(.tok 3 q1.length),(.tok 3 q4.length),(.box [(.vec 3 ((List.map Qa) q4))]),(.box [(.fn 148 [(.ptr 4 0)])]),(.box [(.dat (.lst ((List.map Qa) []))),(.dat (.lst ((List.map Qa) []))),(.dat (.lst ((List.map Qa) []))),(.dat (.lst ((List.map Qa) []))),(Qc 0),(Qc 0),(.dat (.lst ((List.map Qa) [])))])]|.inr ((v5002,v5003))=>[(.box [(.dat (.lst ((List.map Qa) q2))),(Qs q3)]),(.box [(.dat (.lst ((List.map Qa) []))),(.dat (.lst ((List.map Qa) []))),(.dat (.lst ((List.map Qa) []))),(.dat (.lst ((List.map Qa) []))),(Qc 0),(Qc 0),(.dat (.lst ((List.map Qa) [])))]),(.tok 3 q1.length),(.tok 3 q4.length),(.box [(.vec 3 ((List.map Qa) q4))]),(.box [(.fn 148 [(.ptr 4 0)])]),(.box [(.dat (.lst ((List.map Qa) []))),(.ms 7 1 0 v5002.length v5002.length),(.ms 8 1 0 v5003.length v5003.length),(.vec 3 ((List.map Qa) q4)),(Qc (-1)),(Qc 0),(.dat (.lst ((List.map Qa) [])))]),(.mt 3 1 (cellsOf Qa v5002)),(.mt 3 1 (cellsOf Qa v5003)),(.box [(.dat (.lst ((List.map Qa) []))),(.ms 7 1 0 v5002.length v5002.length),(.ms 8 1 0 v5003.length v5003.length),(.vec 3 ((List.map Qa) q4)),(Qc (-1)),(Qc 0),(.dat (.lst ((List.map Qa) [])))])])
theorem Qcy:∀ x r,JY x=some r→JQ x r:=by
 intro x r hm
 unfold JY at hm
 unfold JQ
 obtain ⟨q0,q1,q2,q3,q4⟩:=x
 refine PC_sxB (fn:=f97) rfl ?_
 refine Qd (R_G (Qb 2 (Qe (Qd (Qd (R_G (Qb 1 ?_)))))))
 obtain ⟨v1,hx,hm⟩:=Qg hm
 have hq:=ZY _ _ hx []
 refine Qp hq ?_
 refine Qb 1 (Qe (Qd (R_G (Qb 2 (Qe ?_)))))
 refine Qx hm (ne_dec _ _) (fun hm=>?_) (fun hm=>?_)
 ·refine Qd (R_G (Qb 4 (Qe (Qr ?_))))
  obtain rfl:=Qu hm
  exact ⟨trivial,QY (by kernel_rfl) (by kernel_rfl)⟩
 refine Qo (Qd (R_G (Qb 1 ?_)))
 obtain ⟨v2,hx,hm⟩:=Qg hm
 have hq:=QG _ _ hx
 dsimp only [QB] at hq
 have hl9:mtOf [Blk.mt 3 (cgm_slices_Clone_int_int v2) (cellsOf Qa v2)] 0=some (3,cgm_slices_Clone_int_int v2,cellsOf Qa v2):=ZS (by kernel_rfl)
 refine Yb (v:=.ms 7 1 0 v2.length v2.length) (fun H=>H++[.mt 3 1 (cellsOf Qa v2)]) rfl (by kernel_rfl) ?_ ?_
 ·intro K hk
  refine Zz 7 (first:=#[]) (cap:=#[]) (j:=(0,3)) (ow':=[]) (f0:=Qa) (l:=v2) rfl ?_ ?_ ?_ (ds:=[.lst ((List.map Qa) q0)]) ?_ hq hl9 ?_ ?_ ?_
  ·kernel_rfl
  ·kernel_rfl
  ·kernel_rfl
  ·kernel_rfl
  ·exact hk
  ·kernel_rfl
  ·decide
 refine Qb 1 ?_
 obtain ⟨v3,hx,hm⟩:=Qg hm
 have hq:=QG _ _ hx
 dsimp only [QB] at hq
 have hl9:mtOf [Blk.mt 3 (cgm_slices_Clone_int_int v3) (cellsOf Qa v3)] 0=some (3,cgm_slices_Clone_int_int v3,cellsOf Qa v3):=ZS (by kernel_rfl)
 refine Yb (v:=.ms 8 1 0 v3.length v3.length) (fun H=>H++[.mt 3 1 (cellsOf Qa v3)]) rfl (by kernel_rfl) ?_ ?_
 ·intro K hk
  refine Zz 8 (first:=#[]) (cap:=#[]) (j:=(0,3)) (ow':=[]) (f0:=Qa) (l:=v3) rfl ?_ ?_ ?_ (ds:=[.lst ((List.map Qa) q1)]) ?_ hq hl9 ?_ ?_ ?_
  ·kernel_rfl
  ·kernel_rfl
  ·kernel_rfl
  ·kernel_rfl
  ·exact hk
  ·kernel_rfl
  ·decide
 refine Qb 3 (Qe (Qd (Qd (R_G (Qb 1 (Qb 1 (Qb 1 (Qe (Qw ?_)))))))))
 refine Ze ?_
 refine RL_at (st':=⟨kp 33 [(6,(.ptr 6 0)),(9,(.ptr 9 0)),(23,(.arr 5 0 1 1)),(24,(Qc 1)),(25,(Qc 0))],[(.box [(.dat (.lst ((List.map Qa) q2))),(Qs q3)]),(.box [(.dat (.lst ((List.map Qa) []))),(.dat (.lst ((List.map Qa) []))),(.dat (.lst ((List.map Qa) []))),(.dat (.lst ((List.map Qa) []))),(Qc 0),(Qc 0),(.dat (.lst ((List.map Qa) [])))]),(.tok 3 q1.length),(.tok 3 q4.length),(.box [(.vec 3 ((List.map Qa) q4))]),(.box [(.fn 148 [(.ptr 4 0)])]),(.box [(.dat (.lst ((List.map Qa) []))),(.dat (.lst ((List.map Qa) []))),(.dat (.lst ((List.map Qa) []))),(.dat (.lst ((List.map Qa) []))),(Qc 0),(Qc 0),(.dat (.lst ((List.map Qa) [])))]),(.mt 3 1 (cellsOf Qa v2)),(.mt 3 1 (cellsOf Qa v3)),(.box [(.dat (.lst ((List.map Qa) []))),(.ms 7 1 0 v2.length v2.length),(.ms 8 1 0 v3.length v3.length),(.dat (.lst ((List.map Qa) []))),(Qc (-1)),(Qc 0),(.dat (.lst ((List.map Qa) [])))])]⟩) (prune_of2 [(.box [(.dat (.lst ((List.map Qa) q2))),(Qs q3)]),(.box [(.dat (.lst ((List.map Qa) []))),(.dat (.lst ((List.map Qa) []))),(.dat (.lst ((List.map Qa) []))),(.dat (.lst ((List.map Qa) []))),(Qc 0),(Qc 0),(.dat (.lst ((List.map Qa) [])))]),(.tok 3 q1.length),(.tok 3 q4.length),(.box [(.vec 3 ((List.map Qa) q4))]),(.box [(.fn 148 [(.ptr 4 0)])]),(.box [(.dat (.lst ((List.map Qa) []))),(.dat (.lst ((List.map Qa) []))),(.dat (.lst ((List.map Qa) []))),(.dat (.lst ((List.map Qa) []))),(Qc 0),(Qc 0),(.dat (.lst ((List.map Qa) [])))]),(.mt 3 1 (cellsOf Qa v2)),(.mt 3 1 (cellsOf Qa v3)),(.box [(.dat (.lst ((List.map Qa) []))),(.ms 7 1 0 v2.length v2.length),(.ms 8 1 0 v3.length v3.length),(.dat (.lst ((List.map Qa) []))),(Qc (-1)),(Qc 0),(.dat (.lst ((List.map Qa) [])))])] (fun _=>(pg_cons (by kernel_rfl) (pg_cons (by kernel_rfl) (pg_cons (by kernel_rfl) (pg_cons (by kernel_rfl) (pg_cons (by kernel_rfl) (pg_cons (by kernel_rfl) (pg_cons (by kernel_rfl) (pg_cons (purge_mt Qa _ _ _ _ _) (pg_cons (purge_mt Qa _ _ _ _ _) (pg_cons (by kernel_rfl) pg_nil))))))))))) rfl) ?_
 refine Qd (R_G (Qb 1 (Qe (Qd ?_))))
 refine QaZ (by kernel_rfl) ?_
 refine Qo (Qd (Qw (Qd (R_G (Qb 1 (Qb 2 (Qe (R_G (Qb 1 ?_)))))))))
 obtain ⟨_,hx,hm⟩:=Qg hm
 have hq:=Qdo _ _ hx
 dsimp only [JI] at hq
 refine Zh hq ?_
 refine Qe (R_G (Qb 2 (Qe ?_)))
 refine RL_at (st':=⟨kp 33 [(6,(.ptr 6 0)),(9,(.ptr 9 0)),(23,(.arr 5 0 1 1)),(24,(Qc 1)),(25,(Qc 1))],[(.box [(.dat (.lst ((List.map Qa) q2))),(Qs q3)]),(.box [(.dat (.lst ((List.map Qa) []))),(.dat (.lst ((List.map Qa) []))),(.dat (.lst ((List.map Qa) []))),(.dat (.lst ((List.map Qa) []))),(Qc 0),(Qc 0),(.dat (.lst ((List.map Qa) [])))]),(.tok 3 q1.length),(.tok 3 q4.length),(.box [(.vec 3 ((List.map Qa) q4))]),(.box [(.fn 148 [(.ptr 4 0)])]),(.box [(.dat (.lst ((List.map Qa) []))),(.dat (.lst ((List.map Qa) []))),(.dat (.lst ((List.map Qa) []))),(.dat (.lst ((List.map Qa) []))),(Qc 0),(Qc 0),(.dat (.lst ((List.map Qa) [])))]),(.mt 3 1 (cellsOf Qa v2)),(.mt 3 1 (cellsOf Qa v3)),(.box [(.dat (.lst ((List.map Qa) []))),(.ms 7 1 0 v2.length v2.length),(.ms 8 1 0 v3.length v3.length),(.vec 3 ((List.map Qa) q4)),(Qc (-1)),(Qc 0),(.dat (.lst ((List.map Qa) [])))])]⟩) (prune_of2 [(.box [(.dat (.lst ((List.map Qa) q2))),(Qs q3)]),(.box [(.dat (.lst ((List.map Qa) []))),(.dat (.lst ((List.map Qa) []))),(.dat (.lst ((List.map Qa) []))),(.dat (.lst ((List.map Qa) []))),(Qc 0),(Qc 0),(.dat (.lst ((List.map Qa) [])))]),(.tok 3 q1.length),(.tok 3 q4.length),(.box [(.vec 3 ((List.map Qa) q4))]),(.box [(.fn 148 [(.ptr 4 0)])]),(.box [(.dat (.lst ((List.map Qa) []))),(.dat (.lst ((List.map Qa) []))),(.dat (.lst ((List.map Qa) []))),(.dat (.lst ((List.map Qa) []))),(Qc 0),(Qc 0),(.dat (.lst ((List.map Qa) [])))]),(.mt 3 1 (cellsOf Qa v2)),(.mt 3 1 (cellsOf Qa v3)),(.box [(.dat (.lst ((List.map Qa) []))),(.ms 7 1 0 v2.length v2.length),(.ms 8 1 0 v3.length v3.length),(.vec 3 ((List.map Qa) q4)),(Qc (-1)),(Qc 0),(.dat (.lst ((List.map Qa) [])))])] (fun _=>(pg_cons (by kernel_rfl) (pg_cons (by kernel_rfl) (pg_cons (by kernel_rfl) (pg_cons (by kernel_rfl) (pg_cons (by kernel_rfl) (pg_cons (by kernel_rfl) (pg_cons (by kernel_rfl) (pg_cons (purge_mt Qa _ _ _ _ _) (pg_cons (purge_mt Qa _ _ _ _ _) (pg_cons (by kernel_rfl) pg_nil))))))))))) rfl) ?_
 refine Qd (R_G (Qb 1 (Qe (Qd ?_))))
 refine Js (by kernel_rfl) ?_
 refine Q8 (Qd (R_G (Qb 3 (Qe (Qr ?_)))))
 obtain rfl:=Qu hm
 exact ⟨trivial,QY (by kernel_rfl) (by kernel_rfl)⟩
def Yr (x:(QF × (List Int) × (List Int) × (List Int) × Int)):Option (((List Int) × (List Int) × (List Int) × (List Int) × Int × Int × (List Int) × Int × Nat × Nat) ⊕ ((List Int) × (List Int))) :=
 match x with
 | (p0,v1,v207,v208,v209) =>
 if v209 < (p0.values.length:Int) then
  idx p0.values v209>>=fun v619 =>
  Xp v619>>=fun ((v620,v621):(Int × Int)) =>
  if v621≠0 then
   Zt v621>>=fun ((v622,v623):(Qn × Int)) =>
   some (Sum.inl (v622.left,v622.right,v622.shape,v622.starts,v622.axis,v622.amount,v622.perm,v623,v207.length,v208.length))
  else
  app 8 v207 ([v620]:List Int)>>=fun v624 =>
  if v619 < 0 then
   idx v1 v209>>=fun v625 =>
   app 8 v208 ([(W (v625 - v620))]:List Int)>>=fun v626 =>
   Yr (p0,v1,v624,v626,(W (v209+1)))
  else
  app 8 v208 ([0]:List Int)>>=fun v627 =>
  Yr (p0,v1,v624,v627,(W (v209+1)))
 else
 some (Sum.inr (v207,v208))
 partial_fixpoint
def QdE:(QF × (List Int) × (List Int) × (List Int) × Int)→(((List Int) × (List Int) × (List Int) × (List Int) × Int × Int × (List Int) × Int × Nat × Nat) ⊕ ((List Int) × (List Int)))→Prop:=fun x r=>match x with
 | (p0,v1,v207,v208,v209)=>∀ st,prune 4 ((Qy (QN [1,1,1,1,1,0,1,0,0] (QP f103))).bind (env.hint 103).keepAt) st=⟨kp 83 [(4,(.ptr 1 0)),(6,(.dat (.lst ((List.map Qa) v1)))),(8,(.vec 2 ((List.map Qa) v207))),(9,(.vec 3 ((List.map Qa) v208))),(38,(.dat (.lst ((List.map Qa) p0.values)))),(39,(Qc (p0.values.length:Int))),(40,(Qc v209))],[(.box [(.dat (.lst ((List.map Qa) p0.values))),(Qs p0.scalar)]),(.box [(.dat (.lst ((List.map Qa) []))),(.dat (.lst ((List.map Qa) []))),(.dat (.lst ((List.map Qa) []))),(.dat (.lst ((List.map Qa) []))),(Qc 0),(Qc 0),(.dat (.lst ((List.map Qa) [])))]),(.tok 3 v207.length),(.tok 3 v208.length)]⟩ →
  RL prog env (env.hint 103) true (QN [1,1,1,1,1,0,1,0,0] (QP f103)) 4 st (fun e s=>match r with|.inl (v607,v608,v609,v610,v611,v612,v613,v614,v615,v616)=>e=.ret∧∃ d,s=⟨sl d 83 [(4,(.ptr 1 0)),(5,(Qc v614))],[(.box [(.dat (.lst ((List.map Qa) p0.values))),(Qs p0.scalar)]),(.box [(.dat (.lst ((List.map Qa) v607))),(.dat (.lst ((List.map Qa) v608))),(.dat (.lst ((List.map Qa) v609))),(.dat (.lst ((List.map Qa) v610))),(Qc v611),(Qc v612),(.dat (.lst ((List.map Qa) v613)))]),(.tok 3 v615),(.tok 3 v616)]⟩|.inr ((v617,v618))=>e=.exit 0∧∃ d,s=⟨sl d 83 [(4,(.ptr 1 0)),(6,(.dat (.lst ((List.map Qa) v1)))),(8,(.vec 2 ((List.map Qa) v617))),(9,(.vec 3 ((List.map Qa) v618)))],[(.box [(.dat (.lst ((List.map Qa) p0.values))),(Qs p0.scalar)]),(.box [(.dat (.lst ((List.map Qa) []))),(.dat (.lst ((List.map Qa) []))),(.dat (.lst ((List.map Qa) []))),(.dat (.lst ((List.map Qa) []))),(Qc 0),(Qc 0),(.dat (.lst ((List.map Qa) [])))]),(.tok 3 v617.length),(.tok 3 v618.length)]⟩)
theorem Qak:∀ x r,Yr x=some r→QdE x r:=by
 refine Yr.partial_correctness _ (fun Yr Qak x r hm=>?_)
 unfold QdE
 obtain ⟨p0,v1,v207,v208,v209⟩:=x
 intro st hst
 refine RL_at hst ?_
 clear hst
 refine Qd (R_G (Qb 1 (Qe (Qd ?_))))
 refine Qx hm (rfl) (fun hm=>?_) (fun hm=>?_)
 ·refine Qo (Qd (Qw (Qd (R_G (Qb 1 ?_)))))
  refine Q3 1 Qa hm rfl (fun _=>rfl) (fun v619 hm=>?_)
  refine Qb 3 (Qe (Qd (R_G (Qb 1 ?_))))
  obtain ⟨⟨v620,v621⟩,hx,hm⟩:=Qg hm
  have hq:=QcY _ _ hx []
  refine Qp hq ?_
  refine Qb 5 (Qe (Qd (Qd (R_G (Qb 2 (Qe ?_))))))
  refine Qx hm (ne_dec _ _) (fun hm=>?_) (fun hm=>?_)
  ·refine Qd (R_G (Qb 1 ?_))
   obtain ⟨⟨v622,v623⟩,hx,hm⟩:=Qg hm
   have hq:=ZX _ _ hx []
   refine Qp hq ?_
   refine Qb 4 (Qe (Qr ?_))
   obtain rfl:=Qu hm
   exact ⟨rfl,Qm⟩
  refine Qo (Qd (R_G (Qb 3 ?_)))
  obtain ⟨v624,hx,hm⟩:=Qg hm
  refine X8 3 1 8 2 Qa v207 ([v620]:List Int) v624 (xs:=(List.map Qa) v207) (es:=(List.map Qa) ([v620]:List Int)) (L:=(List.map Qa)) (fun _=>rfl) rfl rfl (fun _=>rfl) hx ?_
  refine Qb 1 (Qe (Qd (R_G (Qb 2 (Qe ?_)))))
  refine Qx hm (rfl) (fun hm=>?_) (fun hm=>?_)
  ·refine R_G (Qb 3 ?_)
   refine Q3 1 Qa hm rfl (fun _=>rfl) (fun v625 hm=>?_)
   refine Qb 4 ?_
   obtain ⟨v626,hx,hm⟩:=Qg hm
   refine X8 3 1 8 3 Qa v208 ([(W (v625 - v620))]:List Int) v626 (xs:=(List.map Qa) v208) (es:=(List.map Qa) ([(W (v625 - v620))]:List Int)) (L:=(List.map Qa)) (fun _=>rfl) rfl rfl (fun _=>rfl) hx ?_
   refine Qb 1 (Qe (R_G (Qb 2 (Qe ?_))))
   exact Qak _ _ hm _ (by kernel_rfl)
  refine R_G (Qb 2 ?_)
  obtain ⟨v627,hx,hm⟩:=Qg hm
  refine X8 3 1 8 3 Qa v208 ([0]:List Int) v627 (xs:=(List.map Qa) v208) (es:=(List.map Qa) ([0]:List Int)) (L:=(List.map Qa)) (fun _=>rfl) rfl rfl (fun _=>rfl) hx ?_
  refine Qb 1 (Qe (R_G (Qb 2 (Qe ?_))))
  exact Qak _ _ hm _ (by kernel_rfl)
 refine Q8 ?_
 obtain rfl:=Qu hm
 exact ⟨rfl,Qm⟩
def QbF (x:(QF × (List Int))):Option (Qn × Int) :=
 match x with
 | (p0,p1) =>
 Qai (p1,(p0.values.length:Int))>>=fun ((v1,v2):((List Int) × Int)) =>
 if v2≠0 then
  Zt v2>>=fun ((v3,v4):(Qn × Int)) =>
  some (v3,v4)
 else
 if (p0.values.length:Int)≠(v1.length:Int) then
  Zt 5>>=fun ((v5,v6):(Qn × Int)) =>
  some (v5,v6)
 else
 (
 Yr (p0,v1,([]:List Int),([]:List Int),0)>>=fun (out:((List Int) × (List Int) × (List Int) × (List Int) × Int × Int × (List Int) × Int × Nat × Nat) ⊕ ((List Int) × (List Int))) =>
 match out with
 | .inl (v607,v608,v609,v610,v611,v612,v613,v614,v615,v616) =>
  some ((⟨v607,v608,v609,v610,v611,v612,v613⟩:Qn),v614)
 | .inr ((v617,v618)) =>
  X1 (v618,p0.values,p0.scalar,v617.length)>>=fun (_:Unit) =>
  (
  JY (v1,v617,p0.values,p0.scalar,v618)>>=fun (out:Int ⊕ ((List Int) × (List Int))) =>
  match out with
  | .inl v628 =>
   some ((⟨([]:(List Int)),([]:(List Int)),([]:(List Int)),([]:(List Int)),0,0,([]:(List Int))⟩:Qn),v628)
  | .inr ((v629,v630)) =>
   some ((⟨([]:(List Int)),v629,v630,v618,(-1),0,([]:(List Int))⟩:Qn),0)
  )
 )
def Qfd:(QF × (List Int))→(Qn × Int)→Prop:=fun x r=>match x,r with
 | (p0,p1),(r0,r1)=>∀ H,PC prog env 103 ([(QF.toD p0),(.lst ((List.map Qa) p1))].map .dat) H (.tup [(.dat (Qn.toD r0)),(Qc r1)]) H
theorem Qgc:∀ x r,QbF x=some r→Qfd x r:=by
 intro x r hm
 unfold QbF at hm
 unfold Qfd
 obtain ⟨p0,p1⟩:=x
 obtain ⟨r0,r1⟩:=r
 intro H
 refine PC_sx (ds:=[(QF.toD p0),(.lst ((List.map Qa) p1))]) (fn:=f103) rfl ?_
 refine Qd (R_G (Qb 3 (Qe (Qd (R_G (Qb 3 ?_))))))
 refine QO Qa p0.values (es:=(List.map Qa) p0.values) rfl ?_
 obtain ⟨⟨v1,v2⟩,hx,hm⟩:=Qg hm
 have hq:=Qfi _ _ hx []
 refine Qp hq ?_
 refine Qb 5 (Qe (Qd (Qd (R_G (Qb 2 (Qe ?_))))))
 refine Qx hm (ne_dec _ _) (fun hm=>?_) (fun hm=>?_)
 ·refine Qd (R_G (Qb 1 ?_))
  obtain ⟨⟨v3,v4⟩,hx,hm⟩:=Qg hm
  have hq:=ZX _ _ hx []
  refine Qp hq ?_
  refine Qb 4 (Qe (Qr ?_))
  obtain ⟨rfl,rfl⟩:=QU hm
  exact ⟨trivial,Qk⟩
 refine Qo (Qd (Qd (R_G (Qb 2 ?_))))
 refine QO Qa p0.values (es:=(List.map Qa) p0.values) rfl ?_
 refine Qb 1 ?_
 refine QO Qa v1 (es:=(List.map Qa) v1) rfl ?_
 refine Qb 1 (Qe ?_)
 refine Qx hm (ne_dec _ _) (fun hm=>?_) (fun hm=>?_)
 ·refine Qd (R_G ?_)
  obtain ⟨⟨v5,v6⟩,hx,hm⟩:=Qg hm
  have hq:=ZX _ _ hx []
  refine Qp hq ?_
  refine Qb 4 (Qe (Qr ?_))
  obtain ⟨rfl,rfl⟩:=QU hm
  exact ⟨trivial,Qk⟩
 refine Qo (Qd (R_G (Qb 2 (Qe (Qd (Qd (R_G (Qb 2 ?_))))))))
 refine QO Qa p0.values (es:=(List.map Qa) p0.values) rfl ?_
 refine Qb 1 (Qe (Qw ?_))
 obtain ⟨out,hs,hm⟩:=Qg hm
 refine Ze ?_
 rcases out with ⟨v607,v608,v609,v610,v611,v612,v613,v614,v615,v616⟩|⟨v617,v618⟩
 ·refine RL_use (Qak _ _ hs) (by kernel_rfl) ?_
  clear hs
  intro e s hp
  obtain ⟨rfl,d,rfl⟩:=hp
  obtain ⟨rfl,rfl⟩:=QU hm
  exact ⟨trivial,Qk⟩
 ·refine RL_use (Qak _ _ hs) (by kernel_rfl) ?_
  clear hs
  intro e s hp
  obtain ⟨rfl,d,rfl⟩:=hp
  refine Qd (R_G (Qb 3 ?_))
  obtain ⟨_,hx,hm⟩:=Qg hm
  have hq:=Qd1 _ _ hx
  dsimp only [QaI] at hq
  refine Zh hq ?_
  refine Qb 1 ?_
  obtain ⟨out,hx,hm⟩:=Qg hm
  rcases out with v628|⟨v629,v630⟩
  ·have hq:=Qcy _ _ hx
   dsimp only [JQ] at hq
   refine Zh hq ?_
   refine Qb 4 (Qe (Qr ?_))
   obtain ⟨rfl,rfl⟩:=QU hm
   exact ⟨trivial,Qk⟩
  ·have hq:=Qcy _ _ hx
   dsimp only [JQ] at hq
   refine Zh hq ?_
   refine Qb 4 (Qe (Qr ?_))
   obtain ⟨rfl,rfl⟩:=QU hm
   exact ⟨trivial,Xl [(.agg [(.dat (.lst ((List.map Qa) []))),(.ms 7 1 0 v629.length v629.length),(.ms 8 1 0 v630.length v630.length),(.vec 3 ((List.map Qa) v618)),(Qc (-1)),(Qc 0),(.dat (.lst ((List.map Qa) [])))]),(Qc 0)] (by kernel_rfl) (po_tup (ps_cons (p1_agg (pc_cons (by kernel_rfl) (pc_cons (pc_ms (e:=3) Qa v629 rfl (fun _=>rfl) (by kernel_rfl)) (pc_cons (pc_ms (e:=3) Qa v630 rfl (fun _=>rfl) (by kernel_rfl)) (pc_cons (by kernel_rfl) (pc_cons (by kernel_rfl) (pc_cons (by kernel_rfl) (pc_cons (by kernel_rfl) pc_nil)))))))) (ps_cons (by kernel_rfl) ps_nil)))⟩
def JD (x:(Qn × Qi)):Option Qi :=
 match x with
 | (p0,p1) =>
 Qab (p1,p0.right)>>=fun (v1:Qi) =>
 some (⟨2,p0.shape,0,p0.starts,0,0,([]:(List Int)),([(⟨v1.kind,v1.shape,v1.buffer,v1.starts,v1.axis,v1.amount,v1.perm,v1.kids⟩:Qi)]:(List Qi))⟩:Qi)
def Qd6:(Qn × Qi)→Qi→Prop:=fun x r=>match x,r with
 | (p0,p1),r0=>∀ H,PC prog env 104 ([(Qn.toD p0),(Qi.ex p1)].map .dat) H (.dat (Qi.ex r0)) H
theorem Qep:∀ x r,JD x=some r→Qd6 x r:=by
 intro x r0 hm
 unfold JD at hm
 unfold Qd6
 obtain ⟨p0,p1⟩:=x
 intro H
 refine PC_sx (ds:=[(Qn.toD p0),(Qi.ex p1)]) (fn:=f104) rfl ?_
 refine Qd (R_G (Qb 3 (Qe (Qd ?_))))
 refine QaK ?_
 refine Qb 7 ?_
 obtain ⟨v1,hx,hm⟩:=Qg hm
 have hq:=QdO _ _ hx []
 refine Qp hq ?_
 refine Qb 3 ?_
 refine Qe ⟨by kernel_rfl,?_⟩
 refine Qr ?_
 obtain rfl:=Qu hm
 exact ⟨trivial,Qk⟩
def Qah (x:(Int × Int)):Option (Int × Int) :=
 match x with
 | (p0,p1) =>
 Xp p1>>=fun ((v1,v2):(Int × Int)) =>
 (if v2≠0 then
  some true
 else
 some (decide (v1 > p0))
 )>>=fun (v3:Bool) =>
 (if v3=true then
  some p0
 else
 some v1
 )>>=fun (v4:Int) =>
 if p1 < 0 then
  some ((W (p0 - v4)),0)
 else
 some ((W (p0 - v4)),v4)
def QdF:(Int × Int)→(Int × Int)→Prop:=fun x r=>match x,r with
 | (p0,p1),(r0,r1)=>∀ H,PC prog env 132 ([(Qa p0),(Qa p1)].map .dat) H (.tup [(Qc r0),(Qc r1)]) H
theorem Qfy:∀ x r,Qah x=some r→QdF x r:=by
 intro x r hm
 unfold Qah at hm
 unfold QdF
 obtain ⟨p0,p1⟩:=x
 obtain ⟨r0,r1⟩:=r
 intro H
 refine PC_sx (ds:=[(Qa p0),(Qa p1)]) (fn:=f132) rfl ?_
 refine Qd (R_G (Qb 2 (Qe (Qd (R_G (Qb 1 ?_))))))
 obtain ⟨⟨v1,v2⟩,hx,hm⟩:=Qg hm
 have hq:=QcY _ _ hx []
 refine Qp hq ?_
 refine Qb 5 (Qe (Qd (Qd ?_)))
 obtain ⟨v3,hs,hm⟩:=Qg hm
 refine Zy (fun d=>⟨sl d 30 [(0,(Qc p0)),(1,(Qc p1)),(6,(Qc v1)),(19,(Qs v3))],[]⟩) ?_ (fun d=>?_)
 ·replace hm:=hs
  clear hs
  refine R_G (Qb 3 ?_)
  refine QA 15 hm (ne_dec _ _) (fun hm=>?_) (fun hm=>?_)
  ·refine Qb 4 (Qe ?_)
   obtain rfl:=Qu hm
   exact Qm
  refine Qb 4 (Qe ?_)
  obtain rfl:=Qu hm
  exact Qm
 clear hs
 obtain ⟨v4,hs,hm⟩:=Qg hm
 refine Zy (fun d=>⟨sl d 30 [(0,(Qc p0)),(1,(Qc p1)),(6,(Qc v4))],[]⟩) ?_ (fun d=>?_)
 ·replace hm:=hs
  clear hs
  refine Qx hm (QH _) (fun hm=>?_) (fun hm=>?_)
  ·refine R_G (Qb 2 (Qe ?_))
   obtain rfl:=Qu hm
   exact Qm
  refine Qo ?_
  obtain rfl:=Qu hm
  exact Qm
 clear hs
 refine Qd (Qd (R_G (Qb 2 (Qe ?_))))
 refine Qx hm (rfl) (fun hm=>?_) (fun hm=>?_)
 ·refine Qd (R_G (Qb 5 (Qe (Qr ?_))))
  obtain ⟨rfl,rfl⟩:=QU hm
  exact ⟨trivial,Qk⟩
 refine Qo (Qd (R_G (Qb 6 (Qe (Qr ?_)))))
 obtain ⟨rfl,rfl⟩:=QU hm
 exact ⟨trivial,Qk⟩
def X2 (x:(Nat × (List Int) × Bool × (List Int) × (List Int))):Option (Unit) :=
 match x with
 | (q0,q1,q2,q3,q4) =>
 some ()
def QaJ:(Nat × (List Int) × Bool × (List Int) × (List Int))→Unit→Prop:=fun x r=>match x with
 | (q0,q1,q2,q3,q4)=>PC prog env 131 [(.arr 3 0 q0 q0)] [(.box [(.dat (.lst ((List.map Qa) q1))),(Qs q2)]),(.box [(.dat (.lst ((List.map Qa) []))),(.dat (.lst ((List.map Qa) []))),(.dat (.lst ((List.map Qa) []))),(.dat (.lst ((List.map Qa) []))),(Qc 0),(Qc 0),(.dat (.lst ((List.map Qa) [])))]),(.mt 3 1 (cellsOf Qa q3)),(.box (cellsOf Qa q4))] (match r with|_=>(.fn 148 [(.ptr 4 0)])) (match r with|_=>[(.box [(.dat (.lst ((List.map Qa) q1))),(Qs q2)]),(.box [(.dat (.lst ((List.map Qa) []))),(.dat (.lst ((List.map Qa) []))),(.dat (.lst ((List.map Qa) []))),(.dat (.lst ((List.map Qa) []))),(Qc 0),(Qc 0),(.dat (.lst ((List.map Qa) [])))]),(.mt 3 1 (cellsOf Qa q3)),(.box (cellsOf Qa q4)),(.box [(.arr 3 0 q0 q0)])])
theorem Qd2:∀ x r,X2 x=some r→QaJ x r:=by
 intro x r hm
 unfold X2 at hm
 unfold QaJ
 obtain ⟨q0,q1,q2,q3,q4⟩:=x
 refine PC_sxB (fn:=f131) rfl ?_
 refine Qd (R_G (Qb 2 (Qe (Qd (R_G (Qb 2 (Qe (Qr ?_))))))))
 obtain rfl:=Qu hm
 exact ⟨trivial,QY (by kernel_rfl) (by kernel_rfl)⟩
def XA (x:((List Int) × Bool × (List Int) × (List Int) × Nat × (List Int) × (List Int))):Option (Unit) :=
 match x with
 | (q0,q1,q2,q3,q4,q5,q6) =>
 some ()
def JJ:((List Int) × Bool × (List Int) × (List Int) × Nat × (List Int) × (List Int))→Unit→Prop:=fun x r=>match x with
 | (q0,q1,q2,q3,q4,q5,q6)=>PC prog env 148 [(.ptr 9 0),(.ptr 4 0)] [(.box [(.dat (.lst ((List.map Qa) q0))),(Qs q1)]),(.box [(.dat (.lst ((List.map Qa) []))),(.dat (.lst ((List.map Qa) []))),(.dat (.lst ((List.map Qa) []))),(.dat (.lst ((List.map Qa) []))),(Qc 0),(Qc 0),(.dat (.lst ((List.map Qa) [])))]),(.mt 3 1 (cellsOf Qa q2)),(.box (cellsOf Qa q3)),(.box [(.arr 3 0 q4 q4)]),(.box [(.fn 148 [(.ptr 4 0)])]),(.box [(.dat (.lst ((List.map Qa) []))),(.dat (.lst ((List.map Qa) []))),(.dat (.lst ((List.map Qa) []))),(.dat (.lst ((List.map Qa) []))),(Qc 0),(Qc 0),(.dat (.lst ((List.map Qa) [])))]),(.mt 3 1 (cellsOf Qa q5)),(.mt 3 1 (cellsOf Qa q6)),(.box [(.dat (.lst ((List.map Qa) []))),(.ms 7 1 0 q5.length q5.length),(.ms 8 1 0 q6.length q6.length),(.dat (.lst ((List.map Qa) []))),(Qc (-1)),(Qc 0),(.dat (.lst ((List.map Qa) [])))])] (match r with|_=>(.tup [])) (match r with|_=>[(.box [(.dat (.lst ((List.map Qa) q0))),(Qs q1)]),(.box [(.dat (.lst ((List.map Qa) []))),(.dat (.lst ((List.map Qa) []))),(.dat (.lst ((List.map Qa) []))),(.dat (.lst ((List.map Qa) []))),(Qc 0),(Qc 0),(.dat (.lst ((List.map Qa) [])))]),(.mt 3 1 (cellsOf Qa q2)),(.box (cellsOf Qa q3)),(.box [(.arr 3 0 q4 q4)]),(.box [(.fn 148 [(.ptr 4 0)])]),(.box [(.dat (.lst ((List.map Qa) []))),(.dat (.lst ((List.map Qa) []))),(.dat (.lst ((List.map Qa) []))),(.dat (.lst ((List.map Qa) []))),(Qc 0),(Qc 0),(.dat (.lst ((List.map Qa) [])))]),(.mt 3 1 (cellsOf Qa q5)),(.mt 3 1 (cellsOf Qa q6)),(.box [(.dat (.lst ((List.map Qa) []))),(.ms 7 1 0 q5.length q5.length),(.ms 8 1 0 q6.length q6.length),(.arr 3 0 q4 q4),(Qc (-1)),(Qc 0),(.dat (.lst ((List.map Qa) [])))])])
theorem Qdp:∀ x r,XA x=some r→JJ x r:=by
 intro x r hm
 unfold XA at hm
 unfold JJ
 obtain ⟨q0,q1,q2,q3,q4,q5,q6⟩:=x
 refine PC_sxB (fn:=f148) rfl ?_
 refine R_G (Qb 5 (Qe ?_))
 obtain rfl:=Qu hm
 exact ⟨trivial,QY (by kernel_rfl) (by kernel_rfl)⟩
def J0 (x:((List Int) × Nat × (List Int) × Bool × (List Int) × (List Int) × Nat)):Option (Int ⊕ ((List Int) × (List Int))) :=
 match x with
 | (q0,q1,q2,q3,q4,q5,q6) =>
 Xb (q4.length=q1)>>=fun (_:Unit) =>
 Zp q4>>=fun (v2:Int) =>
 if v2≠0 then
  some (Sum.inl v2)
 else
 Qz q0>>=fun v3 =>
 Xb (q4.length=q1)>>=fun (_:Unit) =>
 Qz q4>>=fun v5 =>
 XA (q2,q3,q4,q5,q6,v3,v5)>>=fun (_:Unit) =>
 some (Sum.inr (v3,v5))
def JT:((List Int) × Nat × (List Int) × Bool × (List Int) × (List Int) × Nat)→(Int ⊕ ((List Int) × (List Int)))→Prop:=fun x r=>match x with
 | (q0,q1,q2,q3,q4,q5,q6)=>PC prog env 97 [(.dat (.lst ((List.map Qa) q0))),(.ms 2 1 0 q1 q1),(.arr 5 0 1 1)] [(.box [(.dat (.lst ((List.map Qa) q2))),(Qs q3)]),(.box [(.dat (.lst ((List.map Qa) []))),(.dat (.lst ((List.map Qa) []))),(.dat (.lst ((List.map Qa) []))),(.dat (.lst ((List.map Qa) []))),(Qc 0),(Qc 0),(.dat (.lst ((List.map Qa) [])))]),(.mt 3 1 (cellsOf Qa q4)),(.box (cellsOf Qa q5)),(.box [(.arr 3 0 q6 q6)]),(.box [(.fn 148 [(.ptr 4 0)])])] (match r with|.inl v5001=>(.tup [(.dat (.agg [(.lst ((List.map Qa) [])),(.lst ((List.map Qa) [])),(.lst ((List.map Qa) [])),(.lst ((List.map Qa) [])),(Qa 0),(Qa 0),(.lst ((List.map Qa) []))])),(Qc v5001)])|.inr ((v5002,v5003))=>(.tup [(.agg [(.dat (.lst ((List.map Qa) []))),(.ms 7 1 0 v5002.length v5002.length),(.ms 8 1 0 v5003.length v5003.length),(.arr 3 0 q6 q6),(Qc (-1)),(Qc 0),(.dat (.lst ((List.map Qa) [])))]),(Qc 0)])) (match r with|.inl v5001=>[(.box [(.dat (.lst ((List.map Qa) q2))),(Qs q3)]),(.box [(.dat (.lst ((List.map Qa) []))),(.dat (.lst ((List.map Qa) []))),(.dat (.lst ((List.map Qa) []))),(.dat (.lst ((List.map Qa) []))),(Qc 0),(Qc 0),(.dat (.lst ((List.map Qa) [])))]),(.mt 3 1 (cellsOf Qa q4)),(.box (cellsOf Qa q5)),(.box [(.arr 3 0 q6 q6)]),(.box [(.fn 148 [(.ptr 4 0)])]),(.box [(.dat (.lst ((List.map Qa) []))),(.dat (.lst ((List.map Qa) []))),(.dat (.lst ((List.map Qa) []))),(.dat (.lst ((List.map Qa) []))),(Qc 0),(Qc 0),(.dat (.lst ((List.map Qa) [])))])]|.inr ((v5002,v5003))=>[(.box [(.dat (.lst ((List.map Qa) q2))),(Qs q3)]),(.box [(.dat (.lst ((List.map Qa) []))),(.dat (.lst ((List.map Qa) []))),(.dat (.lst ((List.map Qa) []))),(.dat (.lst ((List.map Qa) []))),(Qc 0),(Qc 0),(.dat (.lst ((List.map Qa) [])))]),(.mt 3 1 (cellsOf Qa q4)),(.box (cellsOf Qa q5)),(.box [(.arr 3 0 q6 q6)]),(.box [(.fn 148 [(.ptr 4 0)])]),(.box [(.dat (.lst ((List.map Qa) []))),(.ms 7 1 0 v5002.length v5002.length),(.ms 8 1 0 v5003.length v5003.length),(.arr 3 0 q6 q6),(Qc (-1)),(Qc 0),(.dat (.lst ((List.map Qa) [])))]),(.mt 3 1 (cellsOf Qa v5002)),(.mt 3 1 (cellsOf Qa v5003)),(.box [(.dat (.lst ((List.map Qa) []))),(.ms 7 1 0 v5002.length v5002.length),(.ms 8 1 0 v5003.length v5003.length),(.arr 3 0 q6 q6),(Qc (-1)),(Qc 0),(.dat (.lst ((List.map Qa) [])))])])
theorem QcB:∀ x r,J0 x=some r→JT x r:=by
 intro x r hm
 unfold J0 at hm
 unfold JT
 obtain ⟨q0,q1,q2,q3,q4,q5,q6⟩:=x
 refine PC_sxB (fn:=f97) rfl ?_
 refine Qd (R_G (Qb 2 (Qe (Qd (Qd (R_G (Qb 1 ?_)))))))
 obtain ⟨_,hl1,hm⟩:=Qg hm
 replace hl1:=Xm hl1
 obtain ⟨v2,hx,hm⟩:=Qg hm
 have hq:=ZY _ _ hx []
 refine Qgp (args:=[(.ms 2 1 0 q1 q1)]) hq (ps_cons (p1_ms (pc_ms (e:=3) Qa q4 hl1 (fun _=>rfl) (by kernel_rfl))) ps_nil) ?_
 refine Qb 1 (Qe (Qd (R_G (Qb 2 (Qe ?_)))))
 refine Qx hm (ne_dec _ _) (fun hm=>?_) (fun hm=>?_)
 ·refine Qd (R_G (Qb 4 (Qe (Qr ?_))))
  obtain rfl:=Qu hm
  exact ⟨trivial,QY (by kernel_rfl) (by kernel_rfl)⟩
 refine Qo (Qd (R_G (Qb 1 ?_)))
 obtain ⟨v3,hx,hm⟩:=Qg hm
 have hq:=QG _ _ hx
 dsimp only [QB] at hq
 have hl9:mtOf [Blk.mt 3 (cgm_slices_Clone_int_int v3) (cellsOf Qa v3)] 0=some (3,cgm_slices_Clone_int_int v3,cellsOf Qa v3):=ZS (by kernel_rfl)
 refine Yb (v:=.ms 7 1 0 v3.length v3.length) (fun H=>H++[.mt 3 1 (cellsOf Qa v3)]) rfl (by kernel_rfl) ?_ ?_
 ·intro K hk
  refine Zz 7 (first:=#[]) (cap:=#[]) (j:=(0,3)) (ow':=[]) (f0:=Qa) (l:=v3) rfl ?_ ?_ ?_ (ds:=[.lst ((List.map Qa) q0)]) ?_ hq hl9 ?_ ?_ ?_
  ·kernel_rfl
  ·kernel_rfl
  ·kernel_rfl
  ·kernel_rfl
  ·exact hk
  ·kernel_rfl
  ·decide
 refine Qb 1 ?_
 obtain ⟨_,hl4,hm⟩:=Qg hm
 replace hl4:=Xm hl4
 obtain ⟨v5,hx,hm⟩:=Qg hm
 have hq:=QG _ _ hx
 dsimp only [QB] at hq
 have hl9:mtOf [Blk.mt 3 (cgm_slices_Clone_int_int v5) (cellsOf Qa v5)] 0=some (3,cgm_slices_Clone_int_int v5,cellsOf Qa v5):=ZS (by kernel_rfl)
 refine Yb (v:=.ms 8 1 0 v5.length v5.length) (fun H=>H++[.mt 3 1 (cellsOf Qa v5)]) rfl (by kernel_rfl) ?_ ?_
 ·intro K hk
  refine Zz 8 (first:=#[]) (cap:=#[]) (j:=(0,3)) (ow':=[]) (f0:=Qa) (l:=v5) rfl ?_ ?_ ?_ (ds:=[.lst ((List.map Qa) q4)]) ?_ hq hl9 ?_ ?_ ?_
  ·kernel_rfl
  ·kernel_rfl
  ·exact plain_or (cellsOf_plain (fun _=>rfl) _)
  ·exact ps_one (v:=(.ms 2 1 0 q1 q1)) (by kernel_rfl) (p1_ms (pc_ms (e:=3) Qa q4 hl4 (fun _=>rfl) (by kernel_rfl)))
  ·exact hk
  ·kernel_rfl
  ·decide
 refine Qb 3 (Qe (Qd (Qd (R_G (Qb 1 (Qb 1 (Qb 1 (Qe (Qw ?_)))))))))
 refine Ze ?_
 refine RL_at (st':=⟨kp 33 [(6,(.ptr 6 0)),(9,(.ptr 9 0)),(23,(.arr 5 0 1 1)),(24,(Qc 1)),(25,(Qc 0))],[(.box [(.dat (.lst ((List.map Qa) q2))),(Qs q3)]),(.box [(.dat (.lst ((List.map Qa) []))),(.dat (.lst ((List.map Qa) []))),(.dat (.lst ((List.map Qa) []))),(.dat (.lst ((List.map Qa) []))),(Qc 0),(Qc 0),(.dat (.lst ((List.map Qa) [])))]),(.mt 3 1 (cellsOf Qa q4)),(.box (cellsOf Qa q5)),(.box [(.arr 3 0 q6 q6)]),(.box [(.fn 148 [(.ptr 4 0)])]),(.box [(.dat (.lst ((List.map Qa) []))),(.dat (.lst ((List.map Qa) []))),(.dat (.lst ((List.map Qa) []))),(.dat (.lst ((List.map Qa) []))),(Qc 0),(Qc 0),(.dat (.lst ((List.map Qa) [])))]),(.mt 3 1 (cellsOf Qa v3)),(.mt 3 1 (cellsOf Qa v5)),(.box [(.dat (.lst ((List.map Qa) []))),(.ms 7 1 0 v3.length v3.length),(.ms 8 1 0 v5.length v5.length),(.dat (.lst ((List.map Qa) []))),(Qc (-1)),(Qc 0),(.dat (.lst ((List.map Qa) [])))])]⟩) (prune_of2 [(.box [(.dat (.lst ((List.map Qa) q2))),(Qs q3)]),(.box [(.dat (.lst ((List.map Qa) []))),(.dat (.lst ((List.map Qa) []))),(.dat (.lst ((List.map Qa) []))),(.dat (.lst ((List.map Qa) []))),(Qc 0),(Qc 0),(.dat (.lst ((List.map Qa) [])))]),(.mt 3 1 (cellsOf Qa q4)),(.box (cellsOf Qa q5)),(.box [(.arr 3 0 q6 q6)]),(.box [(.fn 148 [(.ptr 4 0)])]),(.box [(.dat (.lst ((List.map Qa) []))),(.dat (.lst ((List.map Qa) []))),(.dat (.lst ((List.map Qa) []))),(.dat (.lst ((List.map Qa) []))),(Qc 0),(Qc 0),(.dat (.lst ((List.map Qa) [])))]),(.mt 3 1 (cellsOf Qa v3)),(.mt 3 1 (cellsOf Qa v5)),(.box [(.dat (.lst ((List.map Qa) []))),(.ms 7 1 0 v3.length v3.length),(.ms 8 1 0 v5.length v5.length),(.dat (.lst ((List.map Qa) []))),(Qc (-1)),(Qc 0),(.dat (.lst ((List.map Qa) [])))])] (fun _=>(pg_cons (by kernel_rfl) (pg_cons (by kernel_rfl) (pg_cons (purge_mt Qa _ _ _ _ _) (pg_cons (purge_box Qa _ _ _) (pg_cons (by kernel_rfl) (pg_cons (by kernel_rfl) (pg_cons (by kernel_rfl) (pg_cons (purge_mt Qa _ _ _ _ _) (pg_cons (purge_mt Qa _ _ _ _ _) (pg_cons (by kernel_rfl) pg_nil))))))))))) rfl) ?_
 refine Qd (R_G (Qb 1 (Qe (Qd ?_))))
 refine QaZ (by kernel_rfl) ?_
 refine Qo (Qd (Qw (Qd (R_G (Qb 1 (Qb 2 (Qe (R_G (Qb 1 ?_)))))))))
 obtain ⟨_,hx,hm⟩:=Qg hm
 have hq:=Qdp _ _ hx
 dsimp only [JJ] at hq
 refine Zh hq ?_
 refine Qe (R_G (Qb 2 (Qe ?_)))
 refine RL_at (st':=⟨kp 33 [(6,(.ptr 6 0)),(9,(.ptr 9 0)),(23,(.arr 5 0 1 1)),(24,(Qc 1)),(25,(Qc 1))],[(.box [(.dat (.lst ((List.map Qa) q2))),(Qs q3)]),(.box [(.dat (.lst ((List.map Qa) []))),(.dat (.lst ((List.map Qa) []))),(.dat (.lst ((List.map Qa) []))),(.dat (.lst ((List.map Qa) []))),(Qc 0),(Qc 0),(.dat (.lst ((List.map Qa) [])))]),(.mt 3 1 (cellsOf Qa q4)),(.box (cellsOf Qa q5)),(.box [(.arr 3 0 q6 q6)]),(.box [(.fn 148 [(.ptr 4 0)])]),(.box [(.dat (.lst ((List.map Qa) []))),(.dat (.lst ((List.map Qa) []))),(.dat (.lst ((List.map Qa) []))),(.dat (.lst ((List.map Qa) []))),(Qc 0),(Qc 0),(.dat (.lst ((List.map Qa) [])))]),(.mt 3 1 (cellsOf Qa v3)),(.mt 3 1 (cellsOf Qa v5)),(.box [(.dat (.lst ((List.map Qa) []))),(.ms 7 1 0 v3.length v3.length),(.ms 8 1 0 v5.length v5.length),(.arr 3 0 q6 q6),(Qc (-1)),(Qc 0),(.dat (.lst ((List.map Qa) [])))])]⟩) (prune_of2 [(.box [(.dat (.lst ((List.map Qa) q2))),(Qs q3)]),(.box [(.dat (.lst ((List.map Qa) []))),(.dat (.lst ((List.map Qa) []))),(.dat (.lst ((List.map Qa) []))),(.dat (.lst ((List.map Qa) []))),(Qc 0),(Qc 0),(.dat (.lst ((List.map Qa) [])))]),(.mt 3 1 (cellsOf Qa q4)),(.box (cellsOf Qa q5)),(.box [(.arr 3 0 q6 q6)]),(.box [(.fn 148 [(.ptr 4 0)])]),(.box [(.dat (.lst ((List.map Qa) []))),(.dat (.lst ((List.map Qa) []))),(.dat (.lst ((List.map Qa) []))),(.dat (.lst ((List.map Qa) []))),(Qc 0),(Qc 0),(.dat (.lst ((List.map Qa) [])))]),(.mt 3 1 (cellsOf Qa v3)),(.mt 3 1 (cellsOf Qa v5)),(.box [(.dat (.lst ((List.map Qa) []))),(.ms 7 1 0 v3.length v3.length),(.ms 8 1 0 v5.length v5.length),(.arr 3 0 q6 q6),(Qc (-1)),(Qc 0),(.dat (.lst ((List.map Qa) [])))])] (fun _=>(pg_cons (by kernel_rfl) (pg_cons (by kernel_rfl) (pg_cons (purge_mt Qa _ _ _ _ _) (pg_cons (purge_box Qa _ _ _) (pg_cons (by kernel_rfl) (pg_cons (by kernel_rfl) (pg_cons (by kernel_rfl) (pg_cons (purge_mt Qa _ _ _ _ _) (pg_cons (purge_mt Qa _ _ _ _ _) (pg_cons (by kernel_rfl) pg_nil))))))))))) rfl) ?_
 refine Qd (R_G (Qb 1 (Qe (Qd ?_))))
 refine Js (by kernel_rfl) ?_
 refine Q8 (Qd (R_G (Qb 3 (Qe (Qr ?_)))))
 obtain rfl:=Qu hm
 exact ⟨trivial,QY (by kernel_rfl) (by kernel_rfl)⟩
def YB (x:(QF × (List Int) × (List Int) × (List Int) × (List Int) × (List Int) × Int)):Option (((List Int) × (List Int))) :=
 match x with
 | (p0,v1,v7,v8,v209,v210,v211) =>
 if v211 < (p0.values.length:Int) then
  idx p0.values v211>>=fun v611 =>
  idx v1 v211>>=fun v612 =>
  Qah (v612,v611)>>=fun ((v613,v614):(Int × Int)) =>
  Xb (v209.length=v7.length)>>=fun (_:Unit) =>
  idx v209 v211>>=fun v615 =>
  setM v209 v211 v613>>=fun v617 =>
  Xb (v210.length=v8.length)>>=fun (_:Unit) =>
  idx v210 v211>>=fun v618 =>
  setM v210 v211 v614>>=fun v620 =>
  YB (p0,v1,v7,v8,v617,v620,(W (v211+1)))
 else
 some (v209,v210)
 partial_fixpoint
def QdA:(QF × (List Int) × (List Int) × (List Int) × (List Int) × (List Int) × Int)→((List Int) × (List Int))→Prop:=fun x r=>match x with
 | (p0,v1,v7,v8,v209,v210,v211)=>∀ st,prune 4 ((Qy (QN [1,1,1,1,1,0,1,0,0] (QP f105))).bind (env.hint 105).keepAt) st=⟨kp 72 [(4,(.ptr 1 0)),(6,(.dat (.lst ((List.map Qa) v1)))),(8,(.ms 2 1 0 v7.length v7.length)),(9,(.arr 3 0 v8.length v8.length)),(41,(.dat (.lst ((List.map Qa) p0.values)))),(42,(Qc (p0.values.length:Int))),(43,(Qc v211))],[(.box [(.dat (.lst ((List.map Qa) p0.values))),(Qs p0.scalar)]),(.box [(.dat (.lst ((List.map Qa) []))),(.dat (.lst ((List.map Qa) []))),(.dat (.lst ((List.map Qa) []))),(.dat (.lst ((List.map Qa) []))),(Qc 0),(Qc 0),(.dat (.lst ((List.map Qa) [])))]),(.mt 3 1 (cellsOf Qa v209)),(.box (cellsOf Qa v210))]⟩ →
  RL prog env (env.hint 105) true (QN [1,1,1,1,1,0,1,0,0] (QP f105)) 4 st (fun e s=>match r with|(v609,v610)=>e=.exit 0∧∃ d,s=⟨sl d 72 [(4,(.ptr 1 0)),(6,(.dat (.lst ((List.map Qa) v1)))),(8,(.ms 2 1 0 v7.length v7.length)),(9,(.arr 3 0 v8.length v8.length))],[(.box [(.dat (.lst ((List.map Qa) p0.values))),(Qs p0.scalar)]),(.box [(.dat (.lst ((List.map Qa) []))),(.dat (.lst ((List.map Qa) []))),(.dat (.lst ((List.map Qa) []))),(.dat (.lst ((List.map Qa) []))),(Qc 0),(Qc 0),(.dat (.lst ((List.map Qa) [])))]),(.mt 3 1 (cellsOf Qa v609)),(.box (cellsOf Qa v610))]⟩)
theorem Qcb:∀ x r,YB x=some r→QdA x r:=by
 refine YB.partial_correctness _ (fun YB Qcb x r hm=>?_)
 unfold QdA
 obtain ⟨p0,v1,v7,v8,v209,v210,v211⟩:=x
 intro st hst
 refine RL_at hst ?_
 clear hst
 refine Qd (R_G (Qb 1 (Qe (Qd ?_))))
 refine Qx hm (rfl) (fun hm=>?_) (fun hm=>?_)
 ·refine Qo (Qd (Qw (Qd (R_G (Qb 1 ?_)))))
  refine Q3 1 Qa hm rfl (fun _=>rfl) (fun v611 hm=>?_)
  refine Qb 3 (Qe (R_G (Qb 6 ?_)))
  refine Q3 1 Qa hm rfl (fun _=>rfl) (fun v612 hm=>?_)
  refine Qb 2 ?_
  obtain ⟨⟨v613,v614⟩,hx,hm⟩:=Qg hm
  have hq:=Qfy _ _ hx []
  refine Qp hq ?_
  refine Qb 3 ?_
  obtain ⟨_,hl616,hm⟩:=Qg hm
  replace hl616:=Xm hl616
  obtain ⟨v615,hx,hm⟩:=Qg hm
  refine ZD rfl (fun _=>QeZ (e:=3) (n:=v211) (j:=(v211).toNat) (tt:=2) (g:=1) (lo:=0) (len:=v7.length) (cap:=v7.length) (k:=.i64) (by kernel_rfl) (by kernel_rfl) rfl (by kernel_rfl) (by kernel_rfl) (idx_nat hx) (Nat.lt_of_lt_of_eq (idx_lt hx) hl616)) ?_
  obtain ⟨v617,hx,hm⟩:=Qg hm
  refine Yb (fun H=>H.set 2 (.mt 3 1 (cellsOf Qa v617))) rfl (by kernel_rfl) (fun _=>QgG Qa (l:=v209) (n:=v211) (y:=v613) hx (fun _=>rfl) (by kernel_rfl) rfl (by kernel_rfl) (by kernel_rfl) (by kernel_rfl) (by kernel_rfl)) ?_
  obtain ⟨_,hl619,hm⟩:=Qg hm
  replace hl619:=Xm hl619
  obtain ⟨v618,hx,hm⟩:=Qg hm
  refine ZD rfl (fun _=>QgJ (e:=3) (l:=v210) (n:=v211) (i:=3) (cap:=v8.length) (m:=v8.length) hx hl619 (by kernel_rfl) (by kernel_rfl) rfl (by kernel_rfl) (by kernel_rfl)) ?_
  obtain ⟨v620,hx,hm⟩:=Qg hm
  refine Yb (fun H=>H.set 3 (.box (cellsOf Qa v620))) rfl (by kernel_rfl) (fun _=>QgL Qa (l:=v210) (n:=v211) (y:=v614) hx (fun _=>rfl) (by kernel_rfl) rfl (by kernel_rfl) (by kernel_rfl) (by kernel_rfl) (by kernel_rfl)) ?_
  refine Qe (R_G (Qb 2 (Qe ?_)))
  exact Qcb _ _ hm _ (prune_of2 [(.box [(.dat (.lst ((List.map Qa) p0.values))),(Qs p0.scalar)]),(.box [(.dat (.lst ((List.map Qa) []))),(.dat (.lst ((List.map Qa) []))),(.dat (.lst ((List.map Qa) []))),(.dat (.lst ((List.map Qa) []))),(Qc 0),(Qc 0),(.dat (.lst ((List.map Qa) [])))]),(.mt 3 1 (cellsOf Qa v617)),(.box (cellsOf Qa v620))] (fun _=>(pg_cons (by kernel_rfl) (pg_cons (by kernel_rfl) (pg_cons (purge_mt Qa _ _ _ _ _) (pg_cons (purge_box Qa _ _ _) pg_nil))))) rfl)
 refine Q8 ?_
 obtain rfl:=Qu hm
 exact ⟨rfl,Qm⟩
def Qa4 (x:(QF × (List Int))):Option (Qn × Int) :=
 match x with
 | (p0,p1) =>
 Qai (p1,(p0.values.length:Int))>>=fun ((v1,v2):((List Int) × Int)) =>
 if v2≠0 then
  Zt v2>>=fun ((v3,v4):(Qn × Int)) =>
  some (v3,v4)
 else
 if (p0.values.length:Int) > (v1.length:Int) then
  Zt 5>>=fun ((v5,v6):(Qn × Int)) =>
  some (v5,v6)
 else
 Qz v1>>=fun v7 =>
 makeM 8 (v1.length:Int) 0>>=fun v8 =>
 YB (p0,v1,v7,v8,v7,v8,0)>>=fun ((v609,v610):((List Int) × (List Int))) =>
 X2 (v8.length,p0.values,p0.scalar,v609,v610)>>=fun (_:Unit) =>
 (
 J0 (v1,v7.length,p0.values,p0.scalar,v609,v610,v8.length)>>=fun (out:Int ⊕ ((List Int) × (List Int))) =>
 match out with
 | .inl v621 =>
  some ((⟨([]:(List Int)),([]:(List Int)),([]:(List Int)),([]:(List Int)),0,0,([]:(List Int))⟩:Qn),v621)
 | .inr ((v622,v623)) =>
  Xb (v610.length=v8.length)>>=fun (_:Unit) =>
  some ((⟨([]:(List Int)),v622,v623,v610,(-1),0,([]:(List Int))⟩:Qn),0)
 )
def Qfb:(QF × (List Int))→(Qn × Int)→Prop:=fun x r=>match x,r with
 | (p0,p1),(r0,r1)=>∀ H,PC prog env 105 ([(QF.toD p0),(.lst ((List.map Qa) p1))].map .dat) H (.tup [(.dat (Qn.toD r0)),(Qc r1)]) H
theorem Qga:∀ x r,Qa4 x=some r→Qfb x r:=by
 intro x r hm
 unfold Qa4 at hm
 unfold Qfb
 obtain ⟨p0,p1⟩:=x
 obtain ⟨r0,r1⟩:=r
 intro H
 refine PC_sx (ds:=[(QF.toD p0),(.lst ((List.map Qa) p1))]) (fn:=f105) rfl ?_
 refine Qd (R_G (Qb 3 (Qe (Qd (R_G (Qb 3 ?_))))))
 refine QO Qa p0.values (es:=(List.map Qa) p0.values) rfl ?_
 obtain ⟨⟨v1,v2⟩,hx,hm⟩:=Qg hm
 have hq:=Qfi _ _ hx []
 refine Qp hq ?_
 refine Qb 5 (Qe (Qd (Qd (R_G (Qb 2 (Qe ?_))))))
 refine Qx hm (ne_dec _ _) (fun hm=>?_) (fun hm=>?_)
 ·refine Qd (R_G (Qb 1 ?_))
  obtain ⟨⟨v3,v4⟩,hx,hm⟩:=Qg hm
  have hq:=ZX _ _ hx []
  refine Qp hq ?_
  refine Qb 4 (Qe (Qr ?_))
  obtain ⟨rfl,rfl⟩:=QU hm
  exact ⟨trivial,Qk⟩
 refine Qo (Qd (Qd (R_G (Qb 2 ?_))))
 refine QO Qa p0.values (es:=(List.map Qa) p0.values) rfl ?_
 refine Qb 1 ?_
 refine QO Qa v1 (es:=(List.map Qa) v1) rfl ?_
 refine Qb 1 (Qe ?_)
 refine Qx hm (rfl) (fun hm=>?_) (fun hm=>?_)
 ·refine Qd (R_G ?_)
  obtain ⟨⟨v5,v6⟩,hx,hm⟩:=Qg hm
  have hq:=ZX _ _ hx []
  refine Qp hq ?_
  refine Qb 4 (Qe (Qr ?_))
  obtain ⟨rfl,rfl⟩:=QU hm
  exact ⟨trivial,Qk⟩
 refine Qo (Qd ?_)
 refine QaK ?_
 refine Qb 1 ?_
 obtain ⟨v7,hx,hm⟩:=Qg hm
 have hq:=QG _ _ hx
 dsimp only [QB] at hq
 have hl9:mtOf [Blk.mt 3 (cgm_slices_Clone_int_int v7) (cellsOf Qa v7)] 0=some (3,cgm_slices_Clone_int_int v7,cellsOf Qa v7):=ZS (by kernel_rfl)
 refine Yb (v:=.ms 2 1 0 v7.length v7.length) (fun H=>H++[.mt 3 1 (cellsOf Qa v7)]) rfl (by kernel_rfl) ?_ ?_
 ·intro K hk
  refine Zz 2 (first:=#[]) (cap:=#[]) (j:=(0,3)) (ow':=[]) (f0:=Qa) (l:=v7) rfl ?_ ?_ ?_ (ds:=[.lst ((List.map Qa) v1)]) ?_ hq hl9 ?_ ?_ ?_
  ·kernel_rfl
  ·kernel_rfl
  ·kernel_rfl
  ·kernel_rfl
  ·exact hk
  ·kernel_rfl
  ·decide
 refine Qb 1 ?_
 refine QO Qa v1 (es:=(List.map Qa) v1) rfl ?_
 obtain ⟨v8,hx,hm⟩:=Qg hm
 refine Yb (v:=.arr 3 0 v8.length v8.length) (fun H=>H++[.box (cellsOf Qa v8)]) rfl (by kernel_rfl) ?_ ?_
 ·intro K hk
  exact Qf3 3 Qa (z:=0) (n:=(v1.length:Int)) (bytes:=8) hx (e:=3) (by kernel_rfl) (by kernel_rfl) (by kernel_rfl) (by kernel_rfl) rfl rfl (by kernel_rfl) (by kernel_rfl) hk
 refine Qb 2 ?_
 refine Qe ⟨by kernel_rfl,?_⟩
 refine Qd (Qd (R_G (Qb 2 ?_)))
 refine QO Qa p0.values (es:=(List.map Qa) p0.values) rfl ?_
 refine Qb 1 (Qe (Qw ?_))
 obtain ⟨⟨v609,v610⟩,hs,hm⟩:=Qg hm
 refine Ze ?_
 refine RL_use (Qcb _ _ hs) (prune_of2 [(.box [(.dat (.lst ((List.map Qa) p0.values))),(Qs p0.scalar)]),(.box [(.dat (.lst ((List.map Qa) []))),(.dat (.lst ((List.map Qa) []))),(.dat (.lst ((List.map Qa) []))),(.dat (.lst ((List.map Qa) []))),(Qc 0),(Qc 0),(.dat (.lst ((List.map Qa) [])))]),(.mt 3 1 (cellsOf Qa v7)),(.box (cellsOf Qa v8))] (fun _=>(pg_cons (by kernel_rfl) (pg_cons (by kernel_rfl) (pg_cons (purge_mt Qa _ _ _ _ _) (pg_cons (purge_box Qa _ _ _) pg_nil))))) rfl) ?_
 clear hs
 intro e s hp
 obtain ⟨rfl,d,rfl⟩:=hp
 refine Qd (R_G (Qb 3 ?_))
 obtain ⟨_,hx,hm⟩:=Qg hm
 have hq:=Qd2 _ _ hx
 dsimp only [QaJ] at hq
 refine Zh hq ?_
 refine Qb 1 ?_
 obtain ⟨out,hx,hm⟩:=Qg hm
 rcases out with v621|⟨v622,v623⟩
 ·have hq:=QcB _ _ hx
  dsimp only [JT] at hq
  refine Zh hq ?_
  refine Qb 4 (Qe (Qr ?_))
  obtain ⟨rfl,rfl⟩:=QU hm
  exact ⟨trivial,Qk⟩
 ·have hq:=QcB _ _ hx
  dsimp only [JT] at hq
  refine Zh hq ?_
  refine Qb 4 (Qe (Qr ?_))
  obtain ⟨_,hl624,hm⟩:=Qg hm
  replace hl624:=Xm hl624
  obtain ⟨rfl,rfl⟩:=QU hm
  exact ⟨trivial,Xl [(.agg [(.dat (.lst ((List.map Qa) []))),(.ms 7 1 0 v622.length v622.length),(.ms 8 1 0 v623.length v623.length),(.arr 3 0 v8.length v8.length),(Qc (-1)),(Qc 0),(.dat (.lst ((List.map Qa) [])))]),(Qc 0)] (by kernel_rfl) (po_tup (ps_cons (p1_agg (pc_cons (by kernel_rfl) (pc_cons (pc_ms (e:=3) Qa v622 rfl (fun _=>rfl) (by kernel_rfl)) (pc_cons (pc_ms (e:=3) Qa v623 rfl (fun _=>rfl) (by kernel_rfl)) (pc_cons (pc_arr Qa v610 hl624 (fun _=>rfl) (by kernel_rfl)) (pc_cons (by kernel_rfl) (pc_cons (by kernel_rfl) (pc_cons (by kernel_rfl) pc_nil)))))))) (ps_cons (by kernel_rfl) ps_nil)))⟩
def Jk (x:(QF × Int)):Option ((List Int) × Int) :=
 match x with
 | (p0,p1) =>
 if (p0.values.length:Int)≠p1 then
  some (([]:(List Int)),5)
 else
 Ye p0.values>>=fun v1 =>
 some (v1,0)
def QdM:(QF × Int)→((List Int) × Int)→Prop:=fun x r=>match x,r with
 | (p0,p1),(r0,r1)=>∀ H,PC prog env 149 ([(QF.toD p0),(Qa p1)].map .dat) H (.tup [(.dat (.lst ((List.map Qa) r0))),(Qc r1)]) H
theorem QdY:∀ x r,Jk x=some r→QdM x r:=by
 intro x r hm
 unfold Jk at hm
 unfold QdM
 obtain ⟨p0,p1⟩:=x
 obtain ⟨r0,r1⟩:=r
 intro H
 refine PC_sx (ds:=[(QF.toD p0),(Qa p1)]) (fn:=f149) rfl ?_
 refine Qd (R_G (Qb 3 (Qe (Qd (Qd (R_G (Qb 2 ?_)))))))
 refine QO Qa p0.values (es:=(List.map Qa) p0.values) rfl ?_
 refine Qb 2 (Qe ?_)
 refine Qx hm (ne_dec _ _) (fun hm=>?_) (fun hm=>?_)
 ·refine Qd (R_G (Qb 2 (Qe (Qr ?_))))
  obtain ⟨rfl,rfl⟩:=QU hm
  exact ⟨trivial,Qk⟩
 refine Qo (Qd (R_G (Qb 2 ?_)))
 obtain ⟨v1,hx,hm⟩:=Qg hm
 have hq:=Qal _ _ hx
 dsimp only [Yw] at hq
 have hl9:mtOf [Blk.mt 2 (cgm_slices_Clone_int64_int64 v1) (cellsOf Qa v1)] 0=some (2,cgm_slices_Clone_int64_int64 v1,cellsOf Qa v1):=ZS (by kernel_rfl)
 refine Yb (v:=.ms 1 1 0 v1.length v1.length) (fun H=>H++[.mt 2 1 (cellsOf Qa v1)]) rfl (by kernel_rfl) ?_ ?_
 ·intro K hk
  refine Zz 1 (first:=#[]) (cap:=#[]) (j:=(0,2)) (ow':=[]) (f0:=Qa) (l:=v1) rfl ?_ ?_ ?_ (ds:=[.lst ((List.map Qa) p0.values)]) ?_ hq hl9 ?_ ?_ ?_
  ·kernel_rfl
  ·kernel_rfl
  ·kernel_rfl
  ·kernel_rfl
  ·exact hk
  ·kernel_rfl
  ·decide
 refine Qb 2 (Qe (Qr ?_))
 obtain ⟨rfl,rfl⟩:=QU hm
 exact ⟨trivial,Xl [(.ms 1 1 0 v1.length v1.length),(Qc 0)] (by kernel_rfl) (po_tup (ps_cons (p1_ms (pc_ms (e:=2) Qa v1 rfl (fun _=>rfl) (by kernel_rfl))) (ps_cons (by kernel_rfl) ps_nil)))⟩
def Qc0 (x:QF):Option (Int × Int) :=
 match x with
 | p0 =>
 Jk (p0,1)>>=fun ((v1,v2):((List Int) × Int)) =>
 if v2≠0 then
  some (0,v2)
 else
 idx v1 0>>=fun v3 =>
 some (v3,0)
def Qfs:QF→(Int × Int)→Prop:=fun x r=>match x,r with
 | p0,(r0,r1)=>∀ H,PC prog env 133 ([(QF.toD p0)].map .dat) H (.tup [(Qc r0),(Qc r1)]) H
theorem Qgl:∀ x r,Qc0 x=some r→Qfs x r:=by
 intro p0 r hm
 unfold Qc0 at hm
 unfold Qfs
 obtain ⟨r0,r1⟩:=r
 intro H
 refine PC_sx (ds:=[(QF.toD p0)]) (fn:=f133) rfl ?_
 refine Qd (R_G (Qb 3 (Qe (Qd (R_G (Qb 1 ?_))))))
 obtain ⟨⟨v1,v2⟩,hx,hm⟩:=Qg hm
 have hq:=QdY _ _ hx []
 refine Qp hq ?_
 refine Qb 5 (Qe (Qd (Qd (R_G (Qb 2 (Qe ?_))))))
 refine Qx hm (ne_dec _ _) (fun hm=>?_) (fun hm=>?_)
 ·refine Qd (R_G (Qb 3 (Qe (Qr ?_))))
  obtain ⟨rfl,rfl⟩:=QU hm
  exact ⟨trivial,Qk⟩
 refine Qo (Qd (R_G (Qb 1 ?_)))
 refine Q3 1 Qa hm rfl (fun _=>rfl) (fun v3 hm=>?_)
 refine Qb 3 (Qe (Qr ?_))
 obtain ⟨rfl,rfl⟩:=QU hm
 exact ⟨trivial,Qk⟩
def Y1 (x:((List Int) × (List Int) × Bool)):Option (Int ⊕ ((List Int) × (List Int))) :=
 match x with
 | (q0,q1,q2) =>
 Zp q0>>=fun (v1:Int) =>
 if v1≠0 then
  some (Sum.inl v1)
 else
 Qz q0>>=fun v2 =>
 Qz q0>>=fun v3 =>
 some (Sum.inr (v2,v3))
def JS:((List Int) × (List Int) × Bool)→(Int ⊕ ((List Int) × (List Int)))→Prop:=fun x r=>match x with
 | (q0,q1,q2)=>PC prog env 97 [(.dat (.lst ((List.map Qa) q0))),(.dat (.lst ((List.map Qa) q0))),(.dat (.lst []))] [(.box [(.dat (.lst ((List.map Qa) q1))),(Qs q2)]),(.box [(.dat (.lst ((List.map Qa) []))),(.dat (.lst ((List.map Qa) []))),(.dat (.lst ((List.map Qa) []))),(.dat (.lst ((List.map Qa) []))),(Qc 0),(Qc 0),(.dat (.lst ((List.map Qa) [])))])] (match r with|.inl v5001=>(.tup [(.dat (.agg [(.lst ((List.map Qa) [])),(.lst ((List.map Qa) [])),(.lst ((List.map Qa) [])),(.lst ((List.map Qa) [])),(Qa 0),(Qa 0),(.lst ((List.map Qa) []))])),(Qc v5001)])|.inr ((v5002,v5003))=>(.tup [(.agg [(.dat (.lst ((List.map Qa) []))),(.ms 3 1 0 v5002.length v5002.length),(.ms 4 1 0 v5003.length v5003.length),(.dat (.lst ((List.map Qa) []))),(Qc (-1)),(Qc 0),(.dat (.lst ((List.map Qa) [])))]),(Qc 0)])) (match r with|.inl v5001=>[(.box [(.dat (.lst ((List.map Qa) q1))),(Qs q2)]),(.box [(.dat (.lst ((List.map Qa) []))),(.dat (.lst ((List.map Qa) []))),(.dat (.lst ((List.map Qa) []))),(.dat (.lst ((List.map Qa) []))),(Qc 0),(Qc 0),(.dat (.lst ((List.map Qa) [])))]),(.box [(.dat (.lst ((List.map Qa) []))),(.dat (.lst ((List.map Qa) []))),(.dat (.lst ((List.map Qa) []))),(.dat (.lst ((List.map Qa) []))),(Qc 0),(Qc 0),(.dat (.lst ((List.map Qa) [])))])]|.inr ((v5002,v5003))=>[(.box [(.dat (.lst ((List.map Qa) q1))),(Qs q2)]),(.box [(.dat (.lst ((List.map Qa) []))),(.dat (.lst ((List.map Qa) []))),(.dat (.lst ((List.map Qa) []))),(.dat (.lst ((List.map Qa) []))),(Qc 0),(Qc 0),(.dat (.lst ((List.map Qa) [])))]),(.box [(.dat (.lst ((List.map Qa) []))),(.ms 3 1 0 v5002.length v5002.length),(.ms 4 1 0 v5003.length v5003.length),(.dat (.lst ((List.map Qa) []))),(Qc (-1)),(Qc 0),(.dat (.lst ((List.map Qa) [])))]),(.mt 3 1 (cellsOf Qa v5002)),(.mt 3 1 (cellsOf Qa v5003)),(.box [(.dat (.lst ((List.map Qa) []))),(.ms 3 1 0 v5002.length v5002.length),(.ms 4 1 0 v5003.length v5003.length),(.dat (.lst ((List.map Qa) []))),(Qc (-1)),(Qc 0),(.dat (.lst ((List.map Qa) [])))])])
theorem QcA:∀ x r,Y1 x=some r→JS x r:=by
 intro x r hm
 unfold Y1 at hm
 unfold JS
 obtain ⟨q0,q1,q2⟩:=x
 refine PC_sxB (fn:=f97) rfl ?_
 refine Qd (R_G (Qb 2 (Qe (Qd (Qd (R_G (Qb 1 ?_)))))))
 obtain ⟨v1,hx,hm⟩:=Qg hm
 have hq:=ZY _ _ hx []
 refine Qp hq ?_
 refine Qb 1 (Qe (Qd (R_G (Qb 2 (Qe ?_)))))
 refine Qx hm (ne_dec _ _) (fun hm=>?_) (fun hm=>?_)
 ·refine Qd (R_G (Qb 4 (Qe (Qr ?_))))
  obtain rfl:=Qu hm
  exact ⟨trivial,QY (by kernel_rfl) (by kernel_rfl)⟩
 refine Qo (Qd (R_G (Qb 1 ?_)))
 obtain ⟨v2,hx,hm⟩:=Qg hm
 have hq:=QG _ _ hx
 dsimp only [QB] at hq
 have hl9:mtOf [Blk.mt 3 (cgm_slices_Clone_int_int v2) (cellsOf Qa v2)] 0=some (3,cgm_slices_Clone_int_int v2,cellsOf Qa v2):=ZS (by kernel_rfl)
 refine Yb (v:=.ms 3 1 0 v2.length v2.length) (fun H=>H++[.mt 3 1 (cellsOf Qa v2)]) rfl (by kernel_rfl) ?_ ?_
 ·intro K hk
  refine Zz 3 (first:=#[]) (cap:=#[]) (j:=(0,3)) (ow':=[]) (f0:=Qa) (l:=v2) rfl ?_ ?_ ?_ (ds:=[.lst ((List.map Qa) q0)]) ?_ hq hl9 ?_ ?_ ?_
  ·kernel_rfl
  ·kernel_rfl
  ·kernel_rfl
  ·kernel_rfl
  ·exact hk
  ·kernel_rfl
  ·decide
 refine Qb 1 ?_
 obtain ⟨v3,hx,hm⟩:=Qg hm
 have hq:=QG _ _ hx
 dsimp only [QB] at hq
 have hl9:mtOf [Blk.mt 3 (cgm_slices_Clone_int_int v3) (cellsOf Qa v3)] 0=some (3,cgm_slices_Clone_int_int v3,cellsOf Qa v3):=ZS (by kernel_rfl)
 refine Yb (v:=.ms 4 1 0 v3.length v3.length) (fun H=>H++[.mt 3 1 (cellsOf Qa v3)]) rfl (by kernel_rfl) ?_ ?_
 ·intro K hk
  refine Zz 4 (first:=#[]) (cap:=#[]) (j:=(0,3)) (ow':=[]) (f0:=Qa) (l:=v3) rfl ?_ ?_ ?_ (ds:=[.lst ((List.map Qa) q0)]) ?_ hq hl9 ?_ ?_ ?_
  ·kernel_rfl
  ·kernel_rfl
  ·kernel_rfl
  ·kernel_rfl
  ·exact hk
  ·kernel_rfl
  ·decide
 refine Qb 3 (Qe (Qd (Qd (R_G (Qb 1 (Qb 1 (Qb 1 (Qe (Qw ?_)))))))))
 refine Ze ?_
 refine RL_at (st':=⟨kp 33 [(6,(.ptr 2 0)),(9,(.ptr 5 0)),(23,(.dat (.lst []))),(24,(Qc 0)),(25,(Qc 0))],[(.box [(.dat (.lst ((List.map Qa) q1))),(Qs q2)]),(.box [(.dat (.lst ((List.map Qa) []))),(.dat (.lst ((List.map Qa) []))),(.dat (.lst ((List.map Qa) []))),(.dat (.lst ((List.map Qa) []))),(Qc 0),(Qc 0),(.dat (.lst ((List.map Qa) [])))]),(.box [(.dat (.lst ((List.map Qa) []))),(.dat (.lst ((List.map Qa) []))),(.dat (.lst ((List.map Qa) []))),(.dat (.lst ((List.map Qa) []))),(Qc 0),(Qc 0),(.dat (.lst ((List.map Qa) [])))]),(.mt 3 1 (cellsOf Qa v2)),(.mt 3 1 (cellsOf Qa v3)),(.box [(.dat (.lst ((List.map Qa) []))),(.ms 3 1 0 v2.length v2.length),(.ms 4 1 0 v3.length v3.length),(.dat (.lst ((List.map Qa) []))),(Qc (-1)),(Qc 0),(.dat (.lst ((List.map Qa) [])))])]⟩) (prune_of2 [(.box [(.dat (.lst ((List.map Qa) q1))),(Qs q2)]),(.box [(.dat (.lst ((List.map Qa) []))),(.dat (.lst ((List.map Qa) []))),(.dat (.lst ((List.map Qa) []))),(.dat (.lst ((List.map Qa) []))),(Qc 0),(Qc 0),(.dat (.lst ((List.map Qa) [])))]),(.box [(.dat (.lst ((List.map Qa) []))),(.dat (.lst ((List.map Qa) []))),(.dat (.lst ((List.map Qa) []))),(.dat (.lst ((List.map Qa) []))),(Qc 0),(Qc 0),(.dat (.lst ((List.map Qa) [])))]),(.mt 3 1 (cellsOf Qa v2)),(.mt 3 1 (cellsOf Qa v3)),(.box [(.dat (.lst ((List.map Qa) []))),(.ms 3 1 0 v2.length v2.length),(.ms 4 1 0 v3.length v3.length),(.dat (.lst ((List.map Qa) []))),(Qc (-1)),(Qc 0),(.dat (.lst ((List.map Qa) [])))])] (fun _=>(pg_cons (by kernel_rfl) (pg_cons (by kernel_rfl) (pg_cons (by kernel_rfl) (pg_cons (purge_mt Qa _ _ _ _ _) (pg_cons (purge_mt Qa _ _ _ _ _) (pg_cons (by kernel_rfl) pg_nil))))))) rfl) ?_
 refine Qd (R_G (Qb 1 (Qe (Qd ?_))))
 refine Js (by kernel_rfl) ?_
 refine Q8 (Qd (R_G (Qb 3 (Qe (Qr ?_)))))
 obtain rfl:=Qu hm
 exact ⟨trivial,QY (by kernel_rfl) (by kernel_rfl)⟩
def Qbo (x:(Int × Int)):Option Int :=
 match x with
 | (p0,p1) =>
 if p1≤0 then
  some 0
 else
 remM p0 p1>>=fun v1 =>
 if v1 < 0 then
  some (W (v1+p1))
 else
 some v1
def Qfp:(Int × Int)→Int→Prop:=fun x r=>match x,r with
 | (p0,p1),r0=>∀ H,PC prog env 134 ([(Qa p0),(Qa p1)].map .dat) H (Qc r0) H
theorem Qgi:∀ x r,Qbo x=some r→Qfp x r:=by
 intro x r0 hm
 unfold Qbo at hm
 unfold Qfp
 obtain ⟨p0,p1⟩:=x
 intro H
 refine PC_sx (ds:=[(Qa p0),(Qa p1)]) (fn:=f134) rfl ?_
 refine Qd (R_G (Qb 1 (Qe (Qd (Qd (R_G (Qb 2 (Qe ?_))))))))
 refine Qx hm (rfl) (fun hm=>?_) (fun hm=>?_)
 ·refine Qd (R_G (Qb 1 (Qe (Qr ?_))))
  obtain rfl:=Qu hm
  exact ⟨trivial,Qk⟩
 refine Qo (Qd (R_G (Qb 2 ?_)))
 obtain ⟨v1,hx,hm⟩:=Qg hm
 refine ZD rfl (fun _=>QgE (a:=p0) (b:=p1) hx rfl (by kernel_rfl) (by kernel_rfl)) ?_
 refine Qb 1 (Qe (Qd (Qd (R_G (Qb 2 (Qe ?_))))))
 refine Qx hm (rfl) (fun hm=>?_) (fun hm=>?_)
 ·refine R_G (Qb 4 (Qe (Qd (R_G (Qb 2 (Qe (Qr ?_)))))))
  obtain rfl:=Qu hm
  exact ⟨trivial,Qk⟩
 refine Qo (Qd (R_G (Qb 2 (Qe (Qr ?_)))))
 obtain rfl:=Qu hm
 exact ⟨trivial,Qk⟩
def Qaf (x:(Int × Int × (List Int) × Bool × (List Int) × (List Int))):Option (Unit) :=
 match x with
 | (q0,q1,q2,q3,q4,q5) =>
 some ()
def J7:(Int × Int × (List Int) × Bool × (List Int) × (List Int))→Unit→Prop:=fun x r=>match x with
 | (q0,q1,q2,q3,q4,q5)=>PC prog env 123 [(.ptr 6 0),(.iptr [(Qa q0)]),(.iptr [(Qa q1)])] [(.box [(.dat (.lst ((List.map Qa) q2))),(Qs q3)]),(.box [(.dat (.lst ((List.map Qa) []))),(.dat (.lst ((List.map Qa) []))),(.dat (.lst ((List.map Qa) []))),(.dat (.lst ((List.map Qa) []))),(Qc 0),(Qc 0),(.dat (.lst ((List.map Qa) [])))]),(.box [(.fn 123 [(.iptr [(Qa q0)]),(.iptr [(Qa q1)])])]),(.box [(.dat (.lst ((List.map Qa) []))),(.dat (.lst ((List.map Qa) []))),(.dat (.lst ((List.map Qa) []))),(.dat (.lst ((List.map Qa) []))),(Qc 0),(Qc 0),(.dat (.lst ((List.map Qa) [])))]),(.mt 3 1 (cellsOf Qa q4)),(.mt 3 1 (cellsOf Qa q5)),(.box [(.dat (.lst ((List.map Qa) []))),(.ms 4 1 0 q4.length q4.length),(.ms 5 1 0 q5.length q5.length),(.dat (.lst ((List.map Qa) []))),(Qc (-1)),(Qc 0),(.dat (.lst ((List.map Qa) [])))])] (match r with|_=>(.tup [])) (match r with|_=>[(.box [(.dat (.lst ((List.map Qa) q2))),(Qs q3)]),(.box [(.dat (.lst ((List.map Qa) []))),(.dat (.lst ((List.map Qa) []))),(.dat (.lst ((List.map Qa) []))),(.dat (.lst ((List.map Qa) []))),(Qc 0),(Qc 0),(.dat (.lst ((List.map Qa) [])))]),(.box [(.fn 123 [(.iptr [(Qa q0)]),(.iptr [(Qa q1)])])]),(.box [(.dat (.lst ((List.map Qa) []))),(.dat (.lst ((List.map Qa) []))),(.dat (.lst ((List.map Qa) []))),(.dat (.lst ((List.map Qa) []))),(Qc 0),(Qc 0),(.dat (.lst ((List.map Qa) [])))]),(.mt 3 1 (cellsOf Qa q4)),(.mt 3 1 (cellsOf Qa q5)),(.box [(.dat (.lst ((List.map Qa) []))),(.ms 4 1 0 q4.length q4.length),(.ms 5 1 0 q5.length q5.length),(.dat (.lst ((List.map Qa) []))),(Qc q0),(Qc q1),(.dat (.lst ((List.map Qa) [])))])])
theorem QdT:∀ x r,Qaf x=some r→J7 x r:=by
 intro x r hm
 unfold Qaf at hm
 unfold J7
 obtain ⟨q0,q1,q2,q3,q4,q5⟩:=x
 refine PC_sxB (fn:=f123) rfl ?_
 refine QaK ?_
 refine Qb 10 ?_
 refine Qe ⟨by kernel_rfl,?_⟩
 obtain rfl:=Qu hm
 exact ⟨trivial,QY (by kernel_rfl) (by kernel_rfl)⟩
def Y0 (x:((List Int) × (List Int) × Bool × Int × Int)):Option (Int ⊕ ((List Int) × (List Int))) :=
 match x with
 | (q0,q1,q2,q3,q4) =>
 Zp q0>>=fun (v1:Int) =>
 if v1≠0 then
  some (Sum.inl v1)
 else
 Qz q0>>=fun v2 =>
 Qz q0>>=fun v3 =>
 Qaf (q3,q4,q1,q2,v2,v3)>>=fun (_:Unit) =>
 some (Sum.inr (v2,v3))
def JO:((List Int) × (List Int) × Bool × Int × Int)→(Int ⊕ ((List Int) × (List Int)))→Prop:=fun x r=>match x with
 | (q0,q1,q2,q3,q4)=>PC prog env 97 [(.dat (.lst ((List.map Qa) q0))),(.dat (.lst ((List.map Qa) q0))),(.arr 2 0 1 1)] [(.box [(.dat (.lst ((List.map Qa) q1))),(Qs q2)]),(.box [(.dat (.lst ((List.map Qa) []))),(.dat (.lst ((List.map Qa) []))),(.dat (.lst ((List.map Qa) []))),(.dat (.lst ((List.map Qa) []))),(Qc 0),(Qc 0),(.dat (.lst ((List.map Qa) [])))]),(.box [(.fn 123 [(.iptr [(Qa q3)]),(.iptr [(Qa q4)])])])] (match r with|.inl v5001=>(.tup [(.dat (.agg [(.lst ((List.map Qa) [])),(.lst ((List.map Qa) [])),(.lst ((List.map Qa) [])),(.lst ((List.map Qa) [])),(Qa 0),(Qa 0),(.lst ((List.map Qa) []))])),(Qc v5001)])|.inr ((v5002,v5003))=>(.tup [(.agg [(.dat (.lst ((List.map Qa) []))),(.ms 4 1 0 v5002.length v5002.length),(.ms 5 1 0 v5003.length v5003.length),(.dat (.lst ((List.map Qa) []))),(Qc q3),(Qc q4),(.dat (.lst ((List.map Qa) [])))]),(Qc 0)])) (match r with|.inl v5001=>[(.box [(.dat (.lst ((List.map Qa) q1))),(Qs q2)]),(.box [(.dat (.lst ((List.map Qa) []))),(.dat (.lst ((List.map Qa) []))),(.dat (.lst ((List.map Qa) []))),(.dat (.lst ((List.map Qa) []))),(Qc 0),(Qc 0),(.dat (.lst ((List.map Qa) [])))]),(.box [(.fn 123 [(.iptr [(Qa q3)]),(.iptr [(Qa q4)])])]),(.box [(.dat (.lst ((List.map Qa) []))),(.dat (.lst ((List.map Qa) []))),(.dat (.lst ((List.map Qa) []))),(.dat (.lst ((List.map Qa) []))),(Qc 0),(Qc 0),(.dat (.lst ((List.map Qa) [])))])]|.inr ((v5002,v5003))=>[(.box [(.dat (.lst ((List.map Qa) q1))),(Qs q2)]),(.box [(.dat (.lst ((List.map Qa) []))),(.dat (.lst ((List.map Qa) []))),(.dat (.lst ((List.map Qa) []))),(.dat (.lst ((List.map Qa) []))),(Qc 0),(Qc 0),(.dat (.lst ((List.map Qa) [])))]),(.box [(.fn 123 [(.iptr [(Qa q3)]),(.iptr [(Qa q4)])])]),(.box [(.dat (.lst ((List.map Qa) []))),(.ms 4 1 0 v5002.length v5002.length),(.ms 5 1 0 v5003.length v5003.length),(.dat (.lst ((List.map Qa) []))),(Qc q3),(Qc q4),(.dat (.lst ((List.map Qa) [])))]),(.mt 3 1 (cellsOf Qa v5002)),(.mt 3 1 (cellsOf Qa v5003)),(.box [(.dat (.lst ((List.map Qa) []))),(.ms 4 1 0 v5002.length v5002.length),(.ms 5 1 0 v5003.length v5003.length),(.dat (.lst ((List.map Qa) []))),(Qc q3),(Qc q4),(.dat (.lst ((List.map Qa) [])))])])
theorem Qcw:∀ x r,Y0 x=some r→JO x r:=by
 intro x r hm
 unfold Y0 at hm
 unfold JO
 obtain ⟨q0,q1,q2,q3,q4⟩:=x
 refine PC_sxB (fn:=f97) rfl ?_
 refine Qd (R_G (Qb 2 (Qe (Qd (Qd (R_G (Qb 1 ?_)))))))
 obtain ⟨v1,hx,hm⟩:=Qg hm
 have hq:=ZY _ _ hx []
 refine Qp hq ?_
 refine Qb 1 (Qe (Qd (R_G (Qb 2 (Qe ?_)))))
 refine Qx hm (ne_dec _ _) (fun hm=>?_) (fun hm=>?_)
 ·refine Qd (R_G (Qb 4 (Qe (Qr ?_))))
  obtain rfl:=Qu hm
  exact ⟨trivial,QY (by kernel_rfl) (by kernel_rfl)⟩
 refine Qo (Qd (R_G (Qb 1 ?_)))
 obtain ⟨v2,hx,hm⟩:=Qg hm
 have hq:=QG _ _ hx
 dsimp only [QB] at hq
 have hl9:mtOf [Blk.mt 3 (cgm_slices_Clone_int_int v2) (cellsOf Qa v2)] 0=some (3,cgm_slices_Clone_int_int v2,cellsOf Qa v2):=ZS (by kernel_rfl)
 refine Yb (v:=.ms 4 1 0 v2.length v2.length) (fun H=>H++[.mt 3 1 (cellsOf Qa v2)]) rfl (by kernel_rfl) ?_ ?_
 ·intro K hk
  refine Zz 4 (first:=#[]) (cap:=#[]) (j:=(0,3)) (ow':=[]) (f0:=Qa) (l:=v2) rfl ?_ ?_ ?_ (ds:=[.lst ((List.map Qa) q0)]) ?_ hq hl9 ?_ ?_ ?_
  ·kernel_rfl
  ·kernel_rfl
  ·kernel_rfl
  ·kernel_rfl
  ·exact hk
  ·kernel_rfl
  ·decide
 refine Qb 1 ?_
 obtain ⟨v3,hx,hm⟩:=Qg hm
 have hq:=QG _ _ hx
 dsimp only [QB] at hq
 have hl9:mtOf [Blk.mt 3 (cgm_slices_Clone_int_int v3) (cellsOf Qa v3)] 0=some (3,cgm_slices_Clone_int_int v3,cellsOf Qa v3):=ZS (by kernel_rfl)
 refine Yb (v:=.ms 5 1 0 v3.length v3.length) (fun H=>H++[.mt 3 1 (cellsOf Qa v3)]) rfl (by kernel_rfl) ?_ ?_
 ·intro K hk
  refine Zz 5 (first:=#[]) (cap:=#[]) (j:=(0,3)) (ow':=[]) (f0:=Qa) (l:=v3) rfl ?_ ?_ ?_ (ds:=[.lst ((List.map Qa) q0)]) ?_ hq hl9 ?_ ?_ ?_
  ·kernel_rfl
  ·kernel_rfl
  ·kernel_rfl
  ·kernel_rfl
  ·exact hk
  ·kernel_rfl
  ·decide
 refine Qb 3 (Qe (Qd (Qd (R_G (Qb 1 (Qb 1 (Qb 1 (Qe (Qw ?_)))))))))
 refine Ze ?_
 refine RL_at (st':=⟨kp 33 [(6,(.ptr 3 0)),(9,(.ptr 6 0)),(23,(.arr 2 0 1 1)),(24,(Qc 1)),(25,(Qc 0))],[(.box [(.dat (.lst ((List.map Qa) q1))),(Qs q2)]),(.box [(.dat (.lst ((List.map Qa) []))),(.dat (.lst ((List.map Qa) []))),(.dat (.lst ((List.map Qa) []))),(.dat (.lst ((List.map Qa) []))),(Qc 0),(Qc 0),(.dat (.lst ((List.map Qa) [])))]),(.box [(.fn 123 [(.iptr [(Qa q3)]),(.iptr [(Qa q4)])])]),(.box [(.dat (.lst ((List.map Qa) []))),(.dat (.lst ((List.map Qa) []))),(.dat (.lst ((List.map Qa) []))),(.dat (.lst ((List.map Qa) []))),(Qc 0),(Qc 0),(.dat (.lst ((List.map Qa) [])))]),(.mt 3 1 (cellsOf Qa v2)),(.mt 3 1 (cellsOf Qa v3)),(.box [(.dat (.lst ((List.map Qa) []))),(.ms 4 1 0 v2.length v2.length),(.ms 5 1 0 v3.length v3.length),(.dat (.lst ((List.map Qa) []))),(Qc (-1)),(Qc 0),(.dat (.lst ((List.map Qa) [])))])]⟩) (prune_of2 [(.box [(.dat (.lst ((List.map Qa) q1))),(Qs q2)]),(.box [(.dat (.lst ((List.map Qa) []))),(.dat (.lst ((List.map Qa) []))),(.dat (.lst ((List.map Qa) []))),(.dat (.lst ((List.map Qa) []))),(Qc 0),(Qc 0),(.dat (.lst ((List.map Qa) [])))]),(.box [(.fn 123 [(.iptr [(Qa q3)]),(.iptr [(Qa q4)])])]),(.box [(.dat (.lst ((List.map Qa) []))),(.dat (.lst ((List.map Qa) []))),(.dat (.lst ((List.map Qa) []))),(.dat (.lst ((List.map Qa) []))),(Qc 0),(Qc 0),(.dat (.lst ((List.map Qa) [])))]),(.mt 3 1 (cellsOf Qa v2)),(.mt 3 1 (cellsOf Qa v3)),(.box [(.dat (.lst ((List.map Qa) []))),(.ms 4 1 0 v2.length v2.length),(.ms 5 1 0 v3.length v3.length),(.dat (.lst ((List.map Qa) []))),(Qc (-1)),(Qc 0),(.dat (.lst ((List.map Qa) [])))])] (fun _=>(pg_cons (by kernel_rfl) (pg_cons (by kernel_rfl) (pg_cons (by kernel_rfl) (pg_cons (by kernel_rfl) (pg_cons (purge_mt Qa _ _ _ _ _) (pg_cons (purge_mt Qa _ _ _ _ _) (pg_cons (by kernel_rfl) pg_nil)))))))) rfl) ?_
 refine Qd (R_G (Qb 1 (Qe (Qd ?_))))
 refine QaZ (by kernel_rfl) ?_
 refine Qo (Qd (Qw (Qd (R_G (Qb 1 (Qb 2 (Qe (R_G (Qb 1 ?_)))))))))
 obtain ⟨_,hx,hm⟩:=Qg hm
 have hq:=QdT _ _ hx
 dsimp only [J7] at hq
 refine Zh hq ?_
 refine Qe (R_G (Qb 2 (Qe ?_)))
 refine RL_at (st':=⟨kp 33 [(6,(.ptr 3 0)),(9,(.ptr 6 0)),(23,(.arr 2 0 1 1)),(24,(Qc 1)),(25,(Qc 1))],[(.box [(.dat (.lst ((List.map Qa) q1))),(Qs q2)]),(.box [(.dat (.lst ((List.map Qa) []))),(.dat (.lst ((List.map Qa) []))),(.dat (.lst ((List.map Qa) []))),(.dat (.lst ((List.map Qa) []))),(Qc 0),(Qc 0),(.dat (.lst ((List.map Qa) [])))]),(.box [(.fn 123 [(.iptr [(Qa q3)]),(.iptr [(Qa q4)])])]),(.box [(.dat (.lst ((List.map Qa) []))),(.dat (.lst ((List.map Qa) []))),(.dat (.lst ((List.map Qa) []))),(.dat (.lst ((List.map Qa) []))),(Qc 0),(Qc 0),(.dat (.lst ((List.map Qa) [])))]),(.mt 3 1 (cellsOf Qa v2)),(.mt 3 1 (cellsOf Qa v3)),(.box [(.dat (.lst ((List.map Qa) []))),(.ms 4 1 0 v2.length v2.length),(.ms 5 1 0 v3.length v3.length),(.dat (.lst ((List.map Qa) []))),(Qc q3),(Qc q4),(.dat (.lst ((List.map Qa) [])))])]⟩) (prune_of2 [(.box [(.dat (.lst ((List.map Qa) q1))),(Qs q2)]),(.box [(.dat (.lst ((List.map Qa) []))),(.dat (.lst ((List.map Qa) []))),(.dat (.lst ((List.map Qa) []))),(.dat (.lst ((List.map Qa) []))),(Qc 0),(Qc 0),(.dat (.lst ((List.map Qa) [])))]),(.box [(.fn 123 [(.iptr [(Qa q3)]),(.iptr [(Qa q4)])])]),(.box [(.dat (.lst ((List.map Qa) []))),(.dat (.lst ((List.map Qa) []))),(.dat (.lst ((List.map Qa) []))),(.dat (.lst ((List.map Qa) []))),(Qc 0),(Qc 0),(.dat (.lst ((List.map Qa) [])))]),(.mt 3 1 (cellsOf Qa v2)),(.mt 3 1 (cellsOf Qa v3)),(.box [(.dat (.lst ((List.map Qa) []))),(.ms 4 1 0 v2.length v2.length),(.ms 5 1 0 v3.length v3.length),(.dat (.lst ((List.map Qa) []))),(Qc q3),(Qc q4),(.dat (.lst ((List.map Qa) [])))])] (fun _=>(pg_cons (by kernel_rfl) (pg_cons (by kernel_rfl) (pg_cons (by kernel_rfl) (pg_cons (by kernel_rfl) (pg_cons (purge_mt Qa _ _ _ _ _) (pg_cons (purge_mt Qa _ _ _ _ _) (pg_cons (by kernel_rfl) pg_nil)))))))) rfl) ?_
 refine Qd (R_G (Qb 1 (Qe (Qd ?_))))
 refine Js (by kernel_rfl) ?_
 refine Q8 (Qd (R_G (Qb 3 (Qe (Qr ?_)))))
 obtain rfl:=Qu hm
 exact ⟨trivial,QY (by kernel_rfl) (by kernel_rfl)⟩
def QaQ (x:(QF × Int × (List Int))):Option (Qn × Int) :=
 match x with
 | (p0,p1,p2) =>
 Qc0 p0>>=fun ((v1,v2):(Int × Int)) =>
 if v2≠0 then
  Zt v2>>=fun ((v3,v4):(Qn × Int)) =>
  some (v3,v4)
 else
 JF (p1,p2)>>=fun ((v5,v6):(Int × Int)) =>
 if v6≠0 then
  Zt v6>>=fun ((v7,v8):(Qn × Int)) =>
  some (v7,v8)
 else
 if v5 < 0 then
  (
  Y1 (p2,p0.values,p0.scalar)>>=fun (out:Int ⊕ ((List Int) × (List Int))) =>
  match out with
  | .inl v9 =>
   some ((⟨([]:(List Int)),([]:(List Int)),([]:(List Int)),([]:(List Int)),0,0,([]:(List Int))⟩:Qn),v9)
  | .inr ((v10,v11)) =>
   some ((⟨([]:(List Int)),v10,v11,([]:(List Int)),(-1),0,([]:(List Int))⟩:Qn),0)
  )
 else
 idx p2 v5>>=fun v12 =>
 Qbo (v1,v12)>>=fun (v13:Int) =>
 YO (v5,v13)>>=fun ((v14,v15):(Int × Int)) =>
 (
 Y0 (p2,p0.values,p0.scalar,v14,v15)>>=fun (out:Int ⊕ ((List Int) × (List Int))) =>
 match out with
 | .inl v16 =>
  some ((⟨([]:(List Int)),([]:(List Int)),([]:(List Int)),([]:(List Int)),0,0,([]:(List Int))⟩:Qn),v16)
 | .inr ((v17,v18)) =>
  some ((⟨([]:(List Int)),v17,v18,([]:(List Int)),v14,v15,([]:(List Int))⟩:Qn),0)
 )
def Qeg:(QF × Int × (List Int))→(Qn × Int)→Prop:=fun x r=>match x,r with
 | (p0,p1,p2),(r0,r1)=>∀ H,PC prog env 106 ([(QF.toD p0),(Qa p1),(.lst ((List.map Qa) p2))].map .dat) H (.tup [(.dat (Qn.toD r0)),(Qc r1)]) H
theorem QfM:∀ x r,QaQ x=some r→Qeg x r:=by
 intro x r hm
 unfold QaQ at hm
 unfold Qeg
 obtain ⟨p0,p1,p2⟩:=x
 obtain ⟨r0,r1⟩:=r
 intro H
 refine PC_sx (ds:=[(QF.toD p0),(Qa p1),(.lst ((List.map Qa) p2))]) (fn:=f106) rfl ?_
 refine Qd (R_G (Qb 3 (Qe (Qd (R_G (Qb 1 ?_))))))
 obtain ⟨⟨v1,v2⟩,hx,hm⟩:=Qg hm
 have hq:=Qgl _ _ hx []
 refine Qp hq ?_
 refine Qb 5 (Qe (Qd (Qd (R_G (Qb 2 (Qe ?_))))))
 refine Qx hm (ne_dec _ _) (fun hm=>?_) (fun hm=>?_)
 ·refine Qd (R_G (Qb 1 ?_))
  obtain ⟨⟨v3,v4⟩,hx,hm⟩:=Qg hm
  have hq:=ZX _ _ hx []
  refine Qp hq ?_
  refine Qb 4 (Qe (Qr ?_))
  obtain ⟨rfl,rfl⟩:=QU hm
  exact ⟨trivial,Qk⟩
 refine Qo (Qd (R_G (Qb 2 ?_)))
 obtain ⟨⟨v5,v6⟩,hx,hm⟩:=Qg hm
 have hq:=Qes _ _ hx []
 refine Qp hq ?_
 refine Qb 5 (Qe (Qd (Qd (R_G (Qb 2 (Qe ?_))))))
 refine Qx hm (ne_dec _ _) (fun hm=>?_) (fun hm=>?_)
 ·refine Qd (R_G (Qb 1 ?_))
  obtain ⟨⟨v7,v8⟩,hx,hm⟩:=Qg hm
  have hq:=ZX _ _ hx []
  refine Qp hq ?_
  refine Qb 4 (Qe (Qr ?_))
  obtain ⟨rfl,rfl⟩:=QU hm
  exact ⟨trivial,Qk⟩
 refine Qo (Qd (Qd (R_G (Qb 2 (Qe ?_)))))
 refine Qx hm (rfl) (fun hm=>?_) (fun hm=>?_)
 ·refine Qd (R_G (Qb 2 ?_))
  obtain ⟨out,hx,hm⟩:=Qg hm
  rcases out with v9|⟨v10,v11⟩
  ·have hq:=QcA _ _ hx
   dsimp only [JS] at hq
   refine Zh hq ?_
   refine Qb 4 (Qe (Qr ?_))
   obtain ⟨rfl,rfl⟩:=QU hm
   exact ⟨trivial,Qk⟩
  ·have hq:=QcA _ _ hx
   dsimp only [JS] at hq
   refine Zh hq ?_
   refine Qb 4 (Qe (Qr ?_))
   obtain ⟨rfl,rfl⟩:=QU hm
   exact ⟨trivial,Xl [(.agg [(.dat (.lst ((List.map Qa) []))),(.ms 3 1 0 v10.length v10.length),(.ms 4 1 0 v11.length v11.length),(.dat (.lst ((List.map Qa) []))),(Qc (-1)),(Qc 0),(.dat (.lst ((List.map Qa) [])))]),(Qc 0)] (by kernel_rfl) (po_tup (ps_cons (p1_agg (pc_cons (by kernel_rfl) (pc_cons (pc_ms (e:=3) Qa v10 rfl (fun _=>rfl) (by kernel_rfl)) (pc_cons (pc_ms (e:=3) Qa v11 rfl (fun _=>rfl) (by kernel_rfl)) (pc_cons (by kernel_rfl) (pc_cons (by kernel_rfl) (pc_cons (by kernel_rfl) (pc_cons (by kernel_rfl) pc_nil)))))))) (ps_cons (by kernel_rfl) ps_nil)))⟩
 refine Qo (Qd (R_G (Qb 6 ?_)))
 refine Q3 1 Qa hm rfl (fun _=>rfl) (fun v12 hm=>?_)
 refine Qb 1 ?_
 obtain ⟨v13,hx,hm⟩:=Qg hm
 have hq:=Qgi _ _ hx []
 refine Qp hq ?_
 obtain ⟨⟨v14,v15⟩,hx,hm⟩:=Qg hm
 have hq:=Qc2 _ _ hx []
 refine Qp hq ?_
 refine Qb 1 ?_
 obtain ⟨out,hx,hm⟩:=Qg hm
 rcases out with v16|⟨v17,v18⟩
 ·have hq:=Qcw _ _ hx
  dsimp only [JO] at hq
  refine Zh hq ?_
  refine Qb 4 (Qe (Qr ?_))
  obtain ⟨rfl,rfl⟩:=QU hm
  exact ⟨trivial,Qk⟩
 ·have hq:=Qcw _ _ hx
  dsimp only [JO] at hq
  refine Zh hq ?_
  refine Qb 4 (Qe (Qr ?_))
  obtain ⟨rfl,rfl⟩:=QU hm
  exact ⟨trivial,Xl [(.agg [(.dat (.lst ((List.map Qa) []))),(.ms 4 1 0 v17.length v17.length),(.ms 5 1 0 v18.length v18.length),(.dat (.lst ((List.map Qa) []))),(Qc v14),(Qc v15),(.dat (.lst ((List.map Qa) [])))]),(Qc 0)] (by kernel_rfl) (po_tup (ps_cons (p1_agg (pc_cons (by kernel_rfl) (pc_cons (pc_ms (e:=3) Qa v17 rfl (fun _=>rfl) (by kernel_rfl)) (pc_cons (pc_ms (e:=3) Qa v18 rfl (fun _=>rfl) (by kernel_rfl)) (pc_cons (by kernel_rfl) (pc_cons (by kernel_rfl) (pc_cons (by kernel_rfl) (pc_cons (by kernel_rfl) pc_nil)))))))) (ps_cons (by kernel_rfl) ps_nil)))⟩
def YE (x:(Int × (List Int) × Bool × Int × (List Int) × Nat)):Option (((List Int) × Int × Int)) :=
 match x with
 | (q0,q1,q2,q3,q4,q5) =>
 (if q0 < 0 then
  some true
 else
 some (decide (q0≥q3))
 )>>=fun (v1:Bool) =>
 if v1=true then
  some (q4,0,6)
 else
 some ((insK q4 q0),q0,0)
def Xr:(Int × (List Int) × Bool × Int × (List Int) × Nat)→((List Int) × Int × Int)→Prop:=fun x r=>match x with
 | (q0,q1,q2,q3,q4,q5)=>PC prog env 151 [(Qc q0),(.ptr 1 0),(.ptr 3 0)] [(.box [(.dat (.lst ((List.map Qa) q1))),(Qs q2)]),(.box [(Qc q3)]),(.map (setE .i64 (QaH true) q4)),(.box [(.mapv 2)]),(.tok 3 q5)] (match r with|(v5001,v5002,v5003)=>(.tup [(Qc v5002),(Qc v5003)])) (match r with|(v5001,v5002,v5003)=>[(.box [(.dat (.lst ((List.map Qa) q1))),(Qs q2)]),(.box [(Qc q3)]),(.map (setE .i64 (QaH true) v5001)),(.box [(.mapv 2)]),(.tok 3 q5)])
theorem Qcf:∀ x r,YE x=some r→Xr x r:=by
 intro x r hm
 unfold YE at hm
 unfold Xr
 obtain ⟨q0,q1,q2,q3,q4,q5⟩:=x
 refine PC_sxB (fn:=f151) rfl ?_
 refine Qd (R_G (Qb 2 (Qe (Qd (Qd ?_)))))
 obtain ⟨v1,hs,hm⟩:=Qg hm
 refine Zy (fun d=>⟨sl d 16 [(0,(Qc q0)),(2,(.ptr 3 0)),(12,(Qs v1))],[(.box [(.dat (.lst ((List.map Qa) q1))),(Qs q2)]),(.box [(Qc q3)]),(.map (setE .i64 (QaH true) q4)),(.box [(.mapv 2)]),(.tok 3 q5)]⟩) ?_ (fun d=>?_)
 ·replace hm:=hs
  clear hs
  refine R_G (Qb 3 ?_)
  refine QA 8 hm (rfl) (fun hm=>?_) (fun hm=>?_)
  ·refine Qb 4 (Qe ?_)
   obtain rfl:=Qu hm
   exact Qm
  refine Qb 4 (Qe ?_)
  obtain rfl:=Qu hm
  exact Qm
 clear hs
 refine Qx hm (QH _) (fun hm=>?_) (fun hm=>?_)
 ·refine Qd (R_G (Qb 2 (Qe (Qr ?_))))
  obtain rfl:=Qu hm
  exact ⟨trivial,QY (by kernel_rfl) (by kernel_rfl)⟩
 refine Qo (Qd (R_G (Qb 2 ?_)))
 refine Yb (fun H=>H.set 2 (.map (setE .i64 (QaH true) (insK q4 q0)))) rfl (by kernel_rfl) (fun _=>QgF (i:=2) (kt:=3) (e:=4) (ik:=.i64) (l:=q4) (n:=q0) (v:=(QaH true)) (by kernel_rfl) (by kernel_rfl) rfl (by kernel_rfl) (by kernel_rfl) (by kernel_rfl) (by kernel_rfl)) ?_
 refine Qe (Qd (R_G (Qb 3 (Qe (Qr ?_)))))
 obtain rfl:=Qu hm
 exact ⟨trivial,QY (by kernel_rfl) (by kernel_rfl)⟩
def QT (x:((List Int) × (List Int) × Bool × Int × (List Int) × (List Int) × Int)):Option (((List Int) × Int × Nat) ⊕ ((List Int) × (List Int))) :=
 match x with
 | (q0,q1,q2,q3,v201,v202,v203) =>
 if v203 < (q0.length:Int) then
  idx q0 v203>>=fun v606 =>
  YE (v606,q1,q2,q3,v201,v202.length)>>=fun ((v607,v608,v609):((List Int) × Int × Int)) =>
  if v609≠0 then
   some (Sum.inl (v607,v609,v202.length))
  else
  app 8 v202 ([v608]:List Int)>>=fun v610 =>
  QT (q0,q1,q2,q3,v607,v610,(W (v203+1)))
 else
 some (Sum.inr (v201,v202))
 partial_fixpoint
def Xh:((List Int) × (List Int) × Bool × Int × (List Int) × (List Int) × Int)→(((List Int) × Int × Nat) ⊕ ((List Int) × (List Int)))→Prop:=fun x r=>match x with
 | (q0,q1,q2,q3,v201,v202,v203)=>∀ st,prune 5 ((Qy (QN [1,1,0,1,0,0] (QP f150))).bind (env.hint 150).keepAt) st=⟨kp 35 [(1,(.fn 151 [(.ptr 1 0),(.ptr 3 0)])),(6,(.vec 4 ((List.map Qa) v202))),(14,(.dat (.lst ((List.map Qa) q0)))),(15,(Qc (q0.length:Int))),(16,(Qc v203))],[(.box [(.dat (.lst ((List.map Qa) q1))),(Qs q2)]),(.box [(Qc q3)]),(.map (setE .i64 (QaH true) v201)),(.box [(.mapv 2)]),(.tok 3 v202.length)]⟩ →
  RL prog env (env.hint 150) true (QN [1,1,0,1,0,0] (QP f150)) 5 st (fun e s=>match r with|.inl (v601,v602,v603)=>e=.ret∧∃ d,s=⟨sl d 35 [(4,(.dat (.lst ((List.map Qa) [])))),(5,(Qc v602))],[(.box [(.dat (.lst ((List.map Qa) q1))),(Qs q2)]),(.box [(Qc q3)]),(.map (setE .i64 (QaH true) v601)),(.box [(.mapv 2)]),(.tok 3 v603)]⟩|.inr ((v604,v605))=>e=.exit 0∧∃ d,s=⟨sl d 35 [(6,(.vec 4 ((List.map Qa) v605)))],[(.box [(.dat (.lst ((List.map Qa) q1))),(Qs q2)]),(.box [(Qc q3)]),(.map (setE .i64 (QaH true) v604)),(.box [(.mapv 2)]),(.tok 3 v605.length)]⟩)
theorem ZM:∀ x r,QT x=some r→Xh x r:=by
 refine QT.partial_correctness _ (fun QT ZM x r hm=>?_)
 unfold Xh
 obtain ⟨q0,q1,q2,q3,v201,v202,v203⟩:=x
 intro st hst
 refine RL_at hst ?_
 clear hst
 refine Qd (R_G (Qb 1 (Qe (Qd ?_))))
 refine Qx hm (rfl) (fun hm=>?_) (fun hm=>?_)
 ·refine Qo (Qd (Qw (Qd (R_G ?_))))
  refine Q3 1 Qa hm rfl (fun _=>rfl) (fun v606 hm=>?_)
  refine Qb 2 (Qe (Qd (R_G (Qb 2 ?_))))
  obtain ⟨⟨v607,v608,v609⟩,hx,hm⟩:=Qg hm
  have hq:=Qcf _ _ hx
  dsimp only [Xr] at hq
  refine Zh hq ?_
  refine Qb 5 (Qe (Qd (Qd (R_G (Qb 2 (Qe ?_))))))
  refine Qx hm (ne_dec _ _) (fun hm=>?_) (fun hm=>?_)
  ·refine Qd (R_G (Qb 3 (Qe (Qr ?_))))
   obtain rfl:=Qu hm
   exact ⟨rfl,Qm⟩
  refine Qo (R_G (Qb 3 ?_))
  obtain ⟨v610,hx,hm⟩:=Qg hm
  refine X8 3 1 8 4 Qa v202 ([v608]:List Int) v610 (xs:=(List.map Qa) v202) (es:=(List.map Qa) ([v608]:List Int)) (L:=(List.map Qa)) (fun _=>rfl) rfl rfl (fun _=>rfl) hx ?_
  refine Qb 1 (Qe (R_G (Qb 2 (Qe ?_))))
  exact ZM _ _ hm _ (prune_of2 [(.box [(.dat (.lst ((List.map Qa) q1))),(Qs q2)]),(.box [(Qc q3)]),(.map (setE .i64 (QaH true) v607)),(.box [(.mapv 2)]),(.tok 3 v610.length)] (fun _=>(pg_cons (by kernel_rfl) (pg_cons (by kernel_rfl) (pg_cons (purge_set _ _ _ _ _) (pg_cons (by kernel_rfl) (pg_cons (by kernel_rfl) pg_nil)))))) rfl)
 refine Q8 ?_
 obtain rfl:=Qu hm
 exact ⟨rfl,Qm⟩
def Z5 (x:((List Int) × (List Int) × Bool × Int)):Option (((List Int) × Int × Nat) ⊕ ((List Int) × (List Int))) :=
 match x with
 | (q0,q1,q2,q3) =>
 Xb (0≤(q0.length:Int)∧(q0.length:Int) * (8:Int)≤(room:Int)∧(q0.length:Int)≤9223372036854775807)>>=fun (_:Unit) =>
 (
 QT (q0,q1,q2,q3,([]:List Int),([]:List Int),0)>>=fun (out:((List Int) × Int × Nat) ⊕ ((List Int) × (List Int))) =>
 match out with
 | .inl (v601,v602,v603) =>
  some (Sum.inl (v601,v602,v603))
 | .inr ((v604,v605)) =>
  some (Sum.inr (v604,v605))
 )
def Z2:((List Int) × (List Int) × Bool × Int)→(((List Int) × Int × Nat) ⊕ ((List Int) × (List Int)))→Prop:=fun x r=>match x with
 | (q0,q1,q2,q3)=>PC prog env 150 [(.dat (.lst ((List.map Qa) q0))),(.fn 151 [(.ptr 1 0),(.ptr 3 0)])] [(.box [(.dat (.lst ((List.map Qa) q1))),(Qs q2)]),(.box [(Qc q3)]),(.map (setE .i64 (QaH true) ([]:List Int))),(.box [(.mapv 2)])] (match r with|.inl (v5001,v5002,v5003)=>(.tup [(.dat (.lst ((List.map Qa) []))),(Qc v5002)])|.inr ((v5004,v5005))=>(.tup [(.vec 4 ((List.map Qa) v5005)),(Qc 0)])) (match r with|.inl (v5001,v5002,v5003)=>[(.box [(.dat (.lst ((List.map Qa) q1))),(Qs q2)]),(.box [(Qc q3)]),(.map (setE .i64 (QaH true) v5001)),(.box [(.mapv 2)]),(.tok 3 v5003)]|.inr ((v5004,v5005))=>[(.box [(.dat (.lst ((List.map Qa) q1))),(Qs q2)]),(.box [(Qc q3)]),(.map (setE .i64 (QaH true) v5004)),(.box [(.mapv 2)]),(.tok 3 v5005.length)])
theorem XQ:∀ x r,Z5 x=some r→Z2 x r:=by
 intro x r hm
 unfold Z5 at hm
 unfold Z2
 obtain ⟨q0,q1,q2,q3⟩:=x
 refine PC_sxB (fn:=f150) rfl ?_
 refine Qd (R_G (Qb 2 (Qe (Qd (R_G (Qb 1 ?_))))))
 refine QO Qa q0 (es:=(List.map Qa) q0) rfl ?_
 obtain ⟨_,hx,hm⟩:=Qg hm
 replace hx:=Xm hx
 refine Yb (v:=.vec 4 []) (fun H=>H++[.tok 3 0]) rfl (by kernel_rfl) ?_ ?_
 ·intro K hk
  exact Qf4 4 (n:=(q0.length:Int)) (j:=0) (os:=[]) (bytes:=8) (z:=(Qa 0)) hx (by kernel_rfl) (by kernel_rfl) (by kernel_rfl) (by kernel_rfl) (by kernel_rfl) (by kernel_rfl) rfl (by kernel_rfl) (by kernel_rfl) hk
 refine Qb 1 (Qe (Qd (Qd (R_G (Qb 1 ?_)))))
 refine QO Qa q0 (es:=(List.map Qa) q0) rfl ?_
 refine Qb 1 (Qe (Qw ?_))
 obtain ⟨out,hs,hm⟩:=Qg hm
 refine Ze ?_
 rcases out with ⟨v601,v602,v603⟩|⟨v604,v605⟩
 ·refine RL_use (ZM _ _ hs) (prune_of2 [(.box [(.dat (.lst ((List.map Qa) q1))),(Qs q2)]),(.box [(Qc q3)]),(.map (setE .i64 (QaH true) ([]:List Int))),(.box [(.mapv 2)]),(.tok 3 (([]:List Int).length))] (fun _=>(pg_cons (by kernel_rfl) (pg_cons (by kernel_rfl) (pg_cons (purge_set _ _ _ _ _) (pg_cons (by kernel_rfl) (pg_cons (by kernel_rfl) pg_nil)))))) rfl) ?_
  clear hs
  intro e s hp
  obtain ⟨rfl,d,rfl⟩:=hp
  obtain rfl:=Qu hm
  exact ⟨trivial,QY (by kernel_rfl) (by kernel_rfl)⟩
 ·refine RL_use (ZM _ _ hs) (prune_of2 [(.box [(.dat (.lst ((List.map Qa) q1))),(Qs q2)]),(.box [(Qc q3)]),(.map (setE .i64 (QaH true) ([]:List Int))),(.box [(.mapv 2)]),(.tok 3 (([]:List Int).length))] (fun _=>(pg_cons (by kernel_rfl) (pg_cons (by kernel_rfl) (pg_cons (purge_set _ _ _ _ _) (pg_cons (by kernel_rfl) (pg_cons (by kernel_rfl) pg_nil)))))) rfl) ?_
  clear hs
  intro e s hp
  obtain ⟨rfl,d,rfl⟩:=hp
  refine Qd (R_G (Qb 3 (Qe (Qr ?_))))
  obtain rfl:=Qu hm
  exact ⟨trivial,QY (by kernel_rfl) (by kernel_rfl)⟩
def Zj (x:((List Int) × Int × Int)):Option (Int) :=
 match x with
 | (p0,v202,v203) =>
 if v203 < (p0.length:Int) then
  idx p0 v203>>=fun v603 =>
  Zj (p0,(if v202 < v603 then v603 else v202),(W (v203+1)))
 else
 some v202
 partial_fixpoint
def Qa2:((List Int) × Int × Int)→Int→Prop:=fun x r=>match x with
 | (p0,v202,v203)=>∀ st,prune 0 ((Qy (QN [1,1,1,0,1,0,0] (QP f152))).bind (env.hint 152).keepAt) st=⟨kp 25 [(0,(.dat (.lst ((List.map Qa) p0)))),(3,(Qc v202)),(4,(Qc v203))],[]⟩ →
  RL prog env (env.hint 152) true (QN [1,1,1,0,1,0,0] (QP f152)) 0 st (fun e s=>match r with|v602=>e=.exit 0∧∃ d,s=⟨sl d 25 [(3,(Qc v602))],[]⟩)
theorem Jn:∀ x r,Zj x=some r→Qa2 x r:=by
 refine Zj.partial_correctness _ (fun Zj Jn x r hm=>?_)
 unfold Qa2
 obtain ⟨p0,v202,v203⟩:=x
 intro st hst
 refine RL_at hst ?_
 clear hst
 refine Qd (Qd (R_G (Qb 2 ?_)))
 refine QO Qa p0 (es:=(List.map Qa) p0) rfl ?_
 refine Qb 1 (Qe ?_)
 refine Qx hm (rfl) (fun hm=>?_) (fun hm=>?_)
 ·refine Qo (Qd (Qw (R_G (Qb 3 ?_))))
  refine Q3 1 Qa hm rfl (fun _=>rfl) (fun v603 hm=>?_)
  refine Qb 1 ?_
  refine ZD rfl (fun _=>Qf2 (k:=.i64) (m:=v202) (n:=v603) rfl (by kernel_rfl) (by kernel_rfl)) ?_
  refine Qb 1 (Qe (R_G (Qb 3 (Qe ?_))))
  exact Jn _ _ hm _ (by kernel_rfl)
 refine Q8 ?_
 obtain rfl:=Qu hm
 exact ⟨rfl,Qm⟩
def Yu (x:(List Int)):Option Int :=
 match x with
 | p0 =>
 if (p0.length:Int) < 1 then
  none
 else
 idx p0 0>>=fun v1 =>
 Zj (p0,v1,1)>>=fun (v602:Int) =>
 some v602
def QbC:(List Int)→Int→Prop:=fun x r=>match x,r with
 | p0,r0=>∀ H,PC prog env 152 ([(.lst ((List.map Qa) p0))].map .dat) H (Qc r0) H
theorem QbG:∀ x r,Yu x=some r→QbC x r:=by
 intro p0 r0 hm
 unfold Yu at hm
 unfold QbC
 intro H
 refine PC_sx (ds:=[(.lst ((List.map Qa) p0))]) (fn:=f152) rfl ?_
 refine Qd (R_G (Qb 1 (Qe (Qd (Qd (R_G (Qb 1 ?_)))))))
 refine QO Qa p0 (es:=(List.map Qa) p0) rfl ?_
 refine Qb 1 (Qe ?_)
 refine Qx hm (rfl) (fun hm=>?_) (fun hm=>?_)
 ·refine R_G ?_
  exact (QgH hm).elim
 refine Qo (Qd (R_G (Qb 1 ?_)))
 refine Q3 1 Qa hm rfl (fun _=>rfl) (fun v1 hm=>?_)
 refine Qb 2 (Qe (Qd (Qd (R_G (Qb 1 (Qe (Qw ?_)))))))
 obtain ⟨v602,hs,hm⟩:=Qg hm
 refine Ze ?_
 refine RL_use (Jn _ _ hs) (by kernel_rfl) ?_
 clear hs
 intro e s hp
 obtain ⟨rfl,d,rfl⟩:=hp
 refine Qd (R_G (Qb 2 (Qe (Qr ?_))))
 obtain rfl:=Qu hm
 exact ⟨trivial,Qk⟩
def Xw (x:(QF × Int)):Option ((List Int) × Int) :=
 match x with
 | (p0,p1) =>
 Jk (p0,p1)>>=fun ((v1,v2):((List Int) × Int)) =>
 if v2≠0 then
  some (([]:(List Int)),v2)
 else
 (
 Z5 (v1,p0.values,p0.scalar,p1)>>=fun (out:((List Int) × Int × Nat) ⊕ ((List Int) × (List Int))) =>
 match out with
 | .inl (v3,v4,v5) =>
  ((if v4=0 then
   some (decide (p1 > 0))
  else
  some false
  )>>=fun (v9:Bool) =>
  if v9=true then
   Yu ([]:(List Int))>>=fun (v10:Int) =>
   some ((v3.length:Int) != (W (v10+1)))
  else
  some false
  )>>=fun (v8:Bool) =>
  if v8=true then
   some (([]:(List Int)),6)
  else
  some (([]:(List Int)),v4)
 | .inr ((v6,v7)) =>
  (if p1 > 0 then
   Yu v7>>=fun (v12:Int) =>
   some ((v6.length:Int) != (W (v12+1)))
  else
  some false
  )>>=fun (v11:Bool) =>
  if v11=true then
   some (([]:(List Int)),6)
  else
  some (v7,0)
 )
def Qb5:(QF × Int)→((List Int) × Int)→Prop:=fun x r=>match x,r with
 | (p0,p1),(r0,r1)=>∀ H,PC prog env 135 ([(QF.toD p0),(Qa p1)].map .dat) H (.tup [(.dat (.lst ((List.map Qa) r0))),(Qc r1)]) H
theorem Qez:∀ x r,Xw x=some r→Qb5 x r:=by
 intro x r hm
 unfold Xw at hm
 unfold Qb5
 obtain ⟨p0,p1⟩:=x
 obtain ⟨r0,r1⟩:=r
 intro H
 refine PC_sx (ds:=[(QF.toD p0),(Qa p1)]) (fn:=f135) rfl ?_
 refine Qd (R_G (Qb 4 (Qe (Qd (R_G (Qb 2 ?_))))))
 obtain ⟨⟨v1,v2⟩,hx,hm⟩:=Qg hm
 have hq:=QdY _ _ hx []
 refine Qp hq ?_
 refine Qb 5 (Qe (Qd (Qd (R_G (Qb 2 (Qe ?_))))))
 refine Qx hm (ne_dec _ _) (fun hm=>?_) (fun hm=>?_)
 ·refine Qd (R_G (Qb 3 (Qe (Qr ?_))))
  obtain ⟨rfl,rfl⟩:=QU hm
  exact ⟨trivial,Qk⟩
 refine Qo (Qd (R_G (Qb 1 (Qb 2 (Qe (Qd (R_G (Qb 2 ?_))))))))
 obtain ⟨out,hx,hm⟩:=Qg hm
 rcases out with ⟨v3,v4,v5⟩|⟨v6,v7⟩
 ·have hq:=XQ _ _ hx
  dsimp only [Z2] at hq
  refine Zh hq ?_
  refine Qb 5 (Qe (Qd (Qd ?_)))
  obtain ⟨v8,hs,hm⟩:=Qg hm
  refine Zy (fun d=>⟨sl d 42 [(7,(Qc v4)),(9,(.dat (.lst ((List.map Qa) [])))),(39,(Qs v8))],[(.box [(.dat (.lst ((List.map Qa) p0.values))),(Qs p0.scalar)]),(.box [(Qc p1)]),(.map (setE .i64 (QaH true) v3)),(.box [(.mapv 2)]),(.tok 3 v5)]⟩) ?_ (fun d=>?_)
  ·replace hm:=hs
   clear hs
   refine QdZ ?_
   refine Qb 3 ?_
   obtain ⟨v9,hs,hm⟩:=Qg hm
   refine XX (j:=6) (fun d=>⟨sl d 42 [(7,(Qc v4)),(8,(.ptr 3 0)),(9,(.dat (.lst ((List.map Qa) [])))),(31,(Qs v9))],[(.box [(.dat (.lst ((List.map Qa) p0.values))),(Qs p0.scalar)]),(.box [(Qc p1)]),(.map (setE .i64 (QaH true) v3)),(.box [(.mapv 2)]),(.tok 3 v5)]⟩) (fun d=>?_) (fun hJ=>?_)
   ·clear hs
    refine Qb 1 ?_
    refine QA 32 hm (QH _) (fun hm=>?_) (fun hm=>?_)
    ·refine Qb 1 ?_
     refine ZD rfl (fun _=>Qf5 (kt:=3) (e:=4) (i:=2) (kk:=.i64) (v:=(QaH true)) (l:=v3) (by kernel_rfl) rfl (by kernel_rfl) (by kernel_rfl)) ?_
     refine Qb 1 ?_
     obtain ⟨v10,hx,hm⟩:=Qg hm
     have hq:=QbG _ _ hx []
     refine Qp hq ?_
     refine Qb 3 ?_
     refine Qe ⟨by kernel_rfl,?_⟩
     obtain rfl:=Qu hm
     exact Qm
    refine Qb 7 ?_
    refine Qe ⟨by kernel_rfl,?_⟩
    obtain rfl:=Qu hm
    exact Qm
   clear hm
   refine QA 28 hs (Q1 _ _) (fun hm=>?_) (fun hm=>?_)
   ·refine Qb 3 ?_
    obtain rfl:=Qu hm
    exact hJ _ _
   refine Qb 3 ?_
   obtain rfl:=Qu hm
   exact hJ _ _
  clear hs
  refine Qx hm (QH _) (fun hm=>?_) (fun hm=>?_)
  ·refine Qd (R_G (Qb 2 (Qe (Qr ?_))))
   obtain ⟨rfl,rfl⟩:=QU hm
   exact ⟨trivial,Qk⟩
  refine Qo (Qd (R_G (Qb 4 (Qe (Qr ?_)))))
  obtain ⟨rfl,rfl⟩:=QU hm
  exact ⟨trivial,Qk⟩
 ·have hq:=XQ _ _ hx
  dsimp only [Z2] at hq
  refine Zh hq ?_
  refine Qb 5 (Qe (Qd (Qd ?_)))
  obtain ⟨v11,hs,hm⟩:=Qg hm
  refine Zy (fun d=>⟨sl d 42 [(7,(Qc 0)),(9,(.vec 4 ((List.map Qa) v7))),(39,(Qs v11))],[(.box [(.dat (.lst ((List.map Qa) p0.values))),(Qs p0.scalar)]),(.box [(Qc p1)]),(.map (setE .i64 (QaH true) v6)),(.box [(.mapv 2)]),(.tok 3 v7.length)]⟩) ?_ (fun d=>?_)
  ·replace hm:=hs
   clear hs
   refine QdZ ?_
   refine Qb 7 ?_
   refine QA 32 hm (rfl) (fun hm=>?_) (fun hm=>?_)
   ·refine Qb 1 ?_
    refine ZD rfl (fun _=>Qf5 (kt:=3) (e:=4) (i:=2) (kk:=.i64) (v:=(QaH true)) (l:=v6) (by kernel_rfl) rfl (by kernel_rfl) (by kernel_rfl)) ?_
    refine Qb 1 ?_
    obtain ⟨v12,hx,hm⟩:=Qg hm
    have hq:=QbG _ _ hx []
    refine Qp hq ?_
    refine Qb 3 ?_
    refine Qe ⟨by kernel_rfl,?_⟩
    obtain rfl:=Qu hm
    exact Qm
   refine Qb 7 ?_
   refine Qe ⟨by kernel_rfl,?_⟩
   obtain rfl:=Qu hm
   exact Qm
  clear hs
  refine Qx hm (QH _) (fun hm=>?_) (fun hm=>?_)
  ·refine Qd (R_G (Qb 2 (Qe (Qr ?_))))
   obtain ⟨rfl,rfl⟩:=QU hm
   exact ⟨trivial,Qk⟩
  refine Qo (Qd (R_G (Qb 4 (Qe (Qr ?_)))))
  obtain ⟨rfl,rfl⟩:=QU hm
  exact ⟨trivial,Qk⟩
def Ji (x:(QF × (List Int))):Option (Qn × Int) :=
 match x with
 | (p0,p1) =>
 Xw ((⟨p0.values,p0.scalar⟩:QF),(p1.length:Int))>>=fun ((v1,v2):((List Int) × Int)) =>
 if v2≠0 then
  Zt v2>>=fun ((v3,v4):(Qn × Int)) =>
  some (v3,v4)
 else
 XI (v1,p1)>>=fun ((v5,v6):(Qn × Int)) =>
 some (v5,v6)
def QcN:(QF × (List Int))→(Qn × Int)→Prop:=fun x r=>match x,r with
 | (p0,p1),(r0,r1)=>∀ H,PC prog env 107 ([(QF.toD p0),(.lst ((List.map Qa) p1))].map .dat) H (.tup [(.dat (Qn.toD r0)),(Qc r1)]) H
theorem Qe1:∀ x r,Ji x=some r→QcN x r:=by
 intro x r hm
 unfold Ji at hm
 unfold QcN
 obtain ⟨p0,p1⟩:=x
 obtain ⟨r0,r1⟩:=r
 intro H
 refine PC_sx (ds:=[(QF.toD p0),(.lst ((List.map Qa) p1))]) (fn:=f107) rfl ?_
 refine Qd (R_G (Qb 3 (Qe (Qd (R_G (Qb 2 ?_))))))
 refine QO Qa p1 (es:=(List.map Qa) p1) rfl ?_
 obtain ⟨⟨v1,v2⟩,hx,hm⟩:=Qg hm
 have hq:=Qez _ _ hx []
 refine Qp hq ?_
 refine Qb 5 (Qe (Qd (Qd (R_G (Qb 2 (Qe ?_))))))
 refine Qx hm (ne_dec _ _) (fun hm=>?_) (fun hm=>?_)
 ·refine Qd (R_G (Qb 1 ?_))
  obtain ⟨⟨v3,v4⟩,hx,hm⟩:=Qg hm
  have hq:=ZX _ _ hx []
  refine Qp hq ?_
  refine Qb 4 (Qe (Qr ?_))
  obtain ⟨rfl,rfl⟩:=QU hm
  exact ⟨trivial,Qk⟩
 refine Qo (Qd (R_G (Qb 2 ?_)))
 obtain ⟨⟨v5,v6⟩,hx,hm⟩:=Qg hm
 have hq:=Qdl _ _ hx []
 refine Qp hq ?_
 refine Qb 4 (Qe (Qr ?_))
 obtain ⟨rfl,rfl⟩:=QU hm
 exact ⟨trivial,Qk⟩
def X3 (x:Int):Option Bool :=
 match x with
 | p0 =>
 some (decide (p0 < 0))
def QbR:Int→Bool→Prop:=fun x r=>match x,r with
 | p0,r0=>∀ H,PC prog env 154 ([(Qa p0)].map .dat) H (Qs r0) H
theorem Qd3:∀ x r,X3 x=some r→QbR x r:=by
 intro p0 r0 hm
 unfold X3 at hm
 unfold QbR
 intro H
 refine PC_sx (ds:=[(Qa p0)]) (fn:=f154) rfl ?_
 refine Qd (R_G (Qb 1 (Qe (Qd (R_G (Qb 3 (Qe (Qr ?_))))))))
 obtain rfl:=Qu hm
 exact ⟨trivial,Qk⟩
def QC (x:((List Int) × Int)):Option (Int ⊕ Unit) :=
 match x with
 | (p0,v201) =>
 if v201 < (p0.length:Int) then
  idx p0 v201>>=fun v602 =>
  X3 v602>>=fun (v603:Bool) =>
  if v603=true then
   some (Sum.inl v201)
  else
  QC (p0,(W (v201+1)))
 else
 some (Sum.inr ())
 partial_fixpoint
def Z8:((List Int) × Int)→(Int ⊕ Unit)→Prop:=fun x r=>match x with
 | (p0,v201)=>∀ st,prune 0 ((Qy (QN [1,0,1,0,0] (QP f166))).bind (env.hint 166).keepAt) st=⟨kp 19 [(0,(.dat (.lst ((List.map Qa) p0)))),(1,(.dat (.raw (.func (.func 154) #[] #[])))),(7,(Qc (p0.length:Int))),(8,(Qc v201))],[]⟩ →
  RL prog env (env.hint 166) true (QN [1,0,1,0,0] (QP f166)) 0 st (fun e s=>match r with|.inl v601=>e=.ret∧∃ d,s=⟨sl d 19 [(4,(Qc v601))],[]⟩|.inr (_)=>e=.exit 0∧∃ d,s=⟨sl d 19 [],[]⟩)
theorem Q5:∀ x r,QC x=some r→Z8 x r:=by
 refine QC.partial_correctness _ (fun QC Q5 x r hm=>?_)
 unfold Z8
 obtain ⟨p0,v201⟩:=x
 intro st hst
 refine RL_at hst ?_
 clear hst
 refine Qd (R_G (Qb 1 (Qe (Qd ?_))))
 refine Qx hm (rfl) (fun hm=>?_) (fun hm=>?_)
 ·refine Qo (Qd (Qw (Qd (R_G (Qb 2 (Qe (Qd (R_G (Qb 3 ?_)))))))))
  refine Q3 1 Qa hm rfl (fun _=>rfl) (fun v602 hm=>?_)
  refine Qb 1 ?_
  obtain ⟨v603,hx,hm⟩:=Qg hm
  have hq:=Qd3 _ _ hx []
  refine Qp hq ?_
  refine Qe ?_
  refine Qx hm (QH _) (fun hm=>?_) (fun hm=>?_)
  ·refine Qd (R_G (Qb 2 (Qe (Qr ?_))))
   obtain rfl:=Qu hm
   exact ⟨rfl,Qm⟩
  refine Qo (R_G (Qb 2 (Qe ?_)))
  exact Q5 _ _ hm _ (by kernel_rfl)
 refine Q8 ?_
 obtain rfl:=Qu hm
 exact ⟨rfl,Qm⟩
def Zc (x:(List Int)):Option Int :=
 match x with
 | p0 =>
 (
 QC (p0,0)>>=fun (out:Int ⊕ Unit) =>
 match out with
 | .inl v601 =>
  some v601
 | .inr (_) =>
  some (-1)
 )
def Ym:(List Int)→Int→Prop:=fun x r=>match x,r with
 | p0,r0=>∀ H,PC prog env 166 ([(.lst ((List.map Qa) p0)),(.raw (.func (.func 154) #[] #[]))].map .dat) H (Qc r0) H
theorem XF:∀ x r,Zc x=some r→Ym x r:=by
 intro p0 r0 hm
 unfold Zc at hm
 unfold Ym
 intro H
 refine PC_sx (ds:=[(.lst ((List.map Qa) p0)),(.raw (.func (.func 154) #[] #[]))]) (fn:=f166) rfl ?_
 refine Qd (R_G (Qb 1 (Qe (Qd (Qd (R_G (Qb 1 ?_)))))))
 refine QO Qa p0 (es:=(List.map Qa) p0) rfl ?_
 refine Qb 1 (Qe (Qw ?_))
 obtain ⟨out,hs,hm⟩:=Qg hm
 refine Ze ?_
 rcases out with v601|_
 ·refine RL_use (Q5 _ _ hs) (by kernel_rfl) ?_
  clear hs
  intro e s hp
  obtain ⟨rfl,d,rfl⟩:=hp
  obtain rfl:=Qu hm
  exact ⟨trivial,Qk⟩
 ·refine RL_use (Q5 _ _ hs) (by kernel_rfl) ?_
  clear hs
  intro e s hp
  obtain ⟨rfl,d,rfl⟩:=hp
  refine Qd (R_G (Qb 1 (Qe (Qr ?_))))
  obtain rfl:=Qu hm
  exact ⟨trivial,Qk⟩
def QX (x:(List Int)):Option Bool :=
 match x with
 | p0 =>
 Zc p0>>=fun (v1:Int) =>
 some (decide (v1≥0))
def Z6:(List Int)→Bool→Prop:=fun x r=>match x,r with
 | p0,r0=>∀ H,PC prog env 153 ([(.lst ((List.map Qa) p0)),(.raw (.func (.func 154) #[] #[]))].map .dat) H (Qs r0) H
theorem Xq:∀ x r,QX x=some r→Z6 x r:=by
 intro p0 r0 hm
 unfold QX at hm
 unfold Z6
 intro H
 refine PC_sx (ds:=[(.lst ((List.map Qa) p0)),(.raw (.func (.func 154) #[] #[]))]) (fn:=f153) rfl ?_
 refine Qd (R_G (Qb 1 (Qe (Qd (R_G (Qb 2 ?_))))))
 obtain ⟨v1,hx,hm⟩:=Qg hm
 have hq:=XF _ _ hx []
 refine Qp hq ?_
 refine Qb 2 (Qe (Qr ?_))
 obtain rfl:=Qu hm
 exact ⟨trivial,Qk⟩
def Qax (x:Int):Option (Int × Int) :=
 match x with
 | p0 =>
 if p0 < 0 then
  some (0,6)
 else
 if p0 > 65536 then
  some (0,7)
 else
 some (p0,0)
def QcP:Int→(Int × Int)→Prop:=fun x r=>match x,r with
 | p0,(r0,r1)=>∀ H,PC prog env 155 ([(Qa p0)].map .dat) H (.tup [(Qc r0),(Qc r1)]) H
theorem Qe3:∀ x r,Qax x=some r→QcP x r:=by
 intro p0 r hm
 unfold Qax at hm
 unfold QcP
 obtain ⟨r0,r1⟩:=r
 intro H
 refine PC_sx (ds:=[(Qa p0)]) (fn:=f155) rfl ?_
 refine Qd (R_G (Qb 2 (Qe (Qd (Qw (Qd (R_G (Qb 3 (Qe ?_)))))))))
 refine Qx hm (rfl) (fun hm=>?_) (fun hm=>?_)
 ·refine Qd (R_G (Qb 2 (Qe (Qr ?_))))
  obtain ⟨rfl,rfl⟩:=QU hm
  exact ⟨trivial,Qk⟩
 refine Qd (R_G (Qb 3 (Qe ?_)))
 refine Qx hm (rfl) (fun hm=>?_) (fun hm=>?_)
 ·refine Qd (R_G (Qb 2 (Qe (Qr ?_))))
  obtain ⟨rfl,rfl⟩:=QU hm
  exact ⟨trivial,Qk⟩
 refine Qo (Qd (R_G (Qb 3 (Qe (Qr ?_)))))
 obtain ⟨rfl,rfl⟩:=QU hm
 exact ⟨trivial,Qk⟩
def QS (x:((List Int) × Bool × (List Int) × Int)):Option ((Int × Nat) ⊕ (List Int)) :=
 match x with
 | (q0,q1,v201,v202) =>
 if v202 < (q0.length:Int) then
  idx q0 v202>>=fun v604 =>
  Qax v604>>=fun ((v605,v606):(Int × Int)) =>
  if v606≠0 then
   some (Sum.inl (v606,v201.length))
  else
  app 8 v201 ([v605]:List Int)>>=fun v607 =>
  QS (q0,q1,v607,(W (v202+1)))
 else
 some (Sum.inr v201)
 partial_fixpoint
def Xg:((List Int) × Bool × (List Int) × Int)→((Int × Nat) ⊕ (List Int))→Prop:=fun x r=>match x with
 | (q0,q1,v201,v202)=>∀ st,prune 2 ((Qy (QN [1,1,0,1,0,0] (QP f150))).bind (env.hint 150).keepAt) st=⟨kp 35 [(1,(.dat (.raw (.func (.func 155) #[] #[])))),(6,(.vec 1 ((List.map Qa) v201))),(14,(.dat (.lst ((List.map Qa) q0)))),(15,(Qc (q0.length:Int))),(16,(Qc v202))],[(.box [(.dat (.lst ((List.map Qa) q0))),(Qs q1)]),(.tok 3 v201.length)]⟩ →
  RL prog env (env.hint 150) true (QN [1,1,0,1,0,0] (QP f150)) 2 st (fun e s=>match r with|.inl (v601,v602)=>e=.ret∧∃ d,s=⟨sl d 35 [(4,(.dat (.lst ((List.map Qa) [])))),(5,(Qc v601))],[(.box [(.dat (.lst ((List.map Qa) q0))),(Qs q1)]),(.tok 3 v602)]⟩|.inr (v603)=>e=.exit 0∧∃ d,s=⟨sl d 35 [(6,(.vec 1 ((List.map Qa) v603)))],[(.box [(.dat (.lst ((List.map Qa) q0))),(Qs q1)]),(.tok 3 v603.length)]⟩)
theorem ZL:∀ x r,QS x=some r→Xg x r:=by
 refine QS.partial_correctness _ (fun QS ZL x r hm=>?_)
 unfold Xg
 obtain ⟨q0,q1,v201,v202⟩:=x
 intro st hst
 refine RL_at hst ?_
 clear hst
 refine Qd (R_G (Qb 1 (Qe (Qd ?_))))
 refine Qx hm (rfl) (fun hm=>?_) (fun hm=>?_)
 ·refine Qo (Qd (Qw (Qd (R_G ?_))))
  refine Q3 1 Qa hm rfl (fun _=>rfl) (fun v604 hm=>?_)
  refine Qb 2 (Qe (Qd (R_G (Qb 2 ?_))))
  obtain ⟨⟨v605,v606⟩,hx,hm⟩:=Qg hm
  have hq:=Qe3 _ _ hx []
  refine Qp hq ?_
  refine Qb 5 (Qe (Qd (Qd (R_G (Qb 2 (Qe ?_))))))
  refine Qx hm (ne_dec _ _) (fun hm=>?_) (fun hm=>?_)
  ·refine Qd (R_G (Qb 3 (Qe (Qr ?_))))
   obtain rfl:=Qu hm
   exact ⟨rfl,Qm⟩
  refine Qo (R_G (Qb 3 ?_))
  obtain ⟨v607,hx,hm⟩:=Qg hm
  refine X8 3 1 8 1 Qa v201 ([v605]:List Int) v607 (xs:=(List.map Qa) v201) (es:=(List.map Qa) ([v605]:List Int)) (L:=(List.map Qa)) (fun _=>rfl) rfl rfl (fun _=>rfl) hx ?_
  refine Qb 1 (Qe (R_G (Qb 2 (Qe ?_))))
  exact ZL _ _ hm _ (by kernel_rfl)
 refine Q8 ?_
 obtain rfl:=Qu hm
 exact ⟨rfl,Qm⟩
def Z4 (x:((List Int) × Bool)):Option ((Int × Nat) ⊕ (List Int)) :=
 match x with
 | (q0,q1) =>
 Xb (0≤(q0.length:Int)∧(q0.length:Int) * (8:Int)≤(room:Int)∧(q0.length:Int)≤9223372036854775807)>>=fun (_:Unit) =>
 (
 QS (q0,q1,([]:List Int),0)>>=fun (out:(Int × Nat) ⊕ (List Int)) =>
 match out with
 | .inl (v601,v602) =>
  some (Sum.inl (v601,v602))
 | .inr (v603) =>
  some (Sum.inr v603)
 )
def Z1:((List Int) × Bool)→((Int × Nat) ⊕ (List Int))→Prop:=fun x r=>match x with
 | (q0,q1)=>PC prog env 150 [(.dat (.lst ((List.map Qa) q0))),(.dat (.raw (.func (.func 155) #[] #[])))] [(.box [(.dat (.lst ((List.map Qa) q0))),(Qs q1)])] (match r with|.inl (v5001,v5002)=>(.tup [(.dat (.lst ((List.map Qa) []))),(Qc v5001)])|.inr (v5003)=>(.tup [(.vec 1 ((List.map Qa) v5003)),(Qc 0)])) (match r with|.inl (v5001,v5002)=>[(.box [(.dat (.lst ((List.map Qa) q0))),(Qs q1)]),(.tok 3 v5002)]|.inr (v5003)=>[(.box [(.dat (.lst ((List.map Qa) q0))),(Qs q1)]),(.tok 3 v5003.length)])
theorem XP:∀ x r,Z4 x=some r→Z1 x r:=by
 intro x r hm
 unfold Z4 at hm
 unfold Z1
 obtain ⟨q0,q1⟩:=x
 refine PC_sxB (fn:=f150) rfl ?_
 refine Qd (R_G (Qb 2 (Qe (Qd (R_G (Qb 1 ?_))))))
 refine QO Qa q0 (es:=(List.map Qa) q0) rfl ?_
 obtain ⟨_,hx,hm⟩:=Qg hm
 replace hx:=Xm hx
 refine Yb (v:=.vec 1 []) (fun H=>H++[.tok 3 0]) rfl (by kernel_rfl) ?_ ?_
 ·intro K hk
  exact Qf4 1 (n:=(q0.length:Int)) (j:=0) (os:=[]) (bytes:=8) (z:=(Qa 0)) hx (by kernel_rfl) (by kernel_rfl) (by kernel_rfl) (by kernel_rfl) (by kernel_rfl) (by kernel_rfl) rfl (by kernel_rfl) (by kernel_rfl) hk
 refine Qb 1 (Qe (Qd (Qd (R_G (Qb 1 ?_)))))
 refine QO Qa q0 (es:=(List.map Qa) q0) rfl ?_
 refine Qb 1 (Qe (Qw ?_))
 obtain ⟨out,hs,hm⟩:=Qg hm
 refine Ze ?_
 rcases out with ⟨v601,v602⟩|v603
 ·refine RL_use (ZL _ _ hs) (by kernel_rfl) ?_
  clear hs
  intro e s hp
  obtain ⟨rfl,d,rfl⟩:=hp
  obtain rfl:=Qu hm
  exact ⟨trivial,QY (by kernel_rfl) (by kernel_rfl)⟩
 ·refine RL_use (ZL _ _ hs) (by kernel_rfl) ?_
  clear hs
  intro e s hp
  obtain ⟨rfl,d,rfl⟩:=hp
  refine Qd (R_G (Qb 3 (Qe (Qr ?_))))
  obtain rfl:=Qu hm
  exact ⟨trivial,QY (by kernel_rfl) (by kernel_rfl)⟩
def XM (x:QF):Option ((List Int) × Int) :=
 match x with
 | p0 =>
 QX p0.values>>=fun (v1:Bool) =>
 if v1=true then
  some (([]:(List Int)),6)
 else
 (
 Z4 (p0.values,p0.scalar)>>=fun (out:(Int × Nat) ⊕ (List Int)) =>
 match out with
 | .inl (v2,v3) =>
  (if v2=0 then
   Zp ([]:(List Int))>>=fun (v6:Int) =>
   some v6
  else
  some v2
  )>>=fun (v5:Int) =>
  if v5≠0 then
   some (([]:(List Int)),v5)
  else
  some (([]:(List Int)),0)
 | .inr (v4) =>
  Zp v4>>=fun (v7:Int) =>
  if v7≠0 then
   some (([]:(List Int)),v7)
  else
  some (v4,0)
 )
def Qco:QF→((List Int) × Int)→Prop:=fun x r=>match x,r with
 | p0,(r0,r1)=>∀ H,PC prog env 136 ([(QF.toD p0)].map .dat) H (.tup [(.dat (.lst ((List.map Qa) r0))),(Qc r1)]) H
theorem QeX:∀ x r,XM x=some r→Qco x r:=by
 intro p0 r hm
 unfold XM at hm
 unfold Qco
 obtain ⟨r0,r1⟩:=r
 intro H
 refine PC_sx (ds:=[(QF.toD p0)]) (fn:=f136) rfl ?_
 refine Qd (R_G (Qb 3 (Qe (Qd (Qd (R_G (Qb 2 ?_)))))))
 obtain ⟨v1,hx,hm⟩:=Qg hm
 have hq:=Xq _ _ hx []
 refine Qp hq ?_
 refine Qe ?_
 refine Qx hm (QH _) (fun hm=>?_) (fun hm=>?_)
 ·refine Qd (R_G (Qb 2 (Qe (Qr ?_))))
  obtain ⟨rfl,rfl⟩:=QU hm
  exact ⟨trivial,Qk⟩
 refine Qo (Qd (R_G (Qb 2 ?_)))
 obtain ⟨out,hx,hm⟩:=Qg hm
 rcases out with ⟨v2,v3⟩|v4
 ·have hq:=XP _ _ hx
  dsimp only [Z1] at hq
  refine Zh hq ?_
  refine Qb 5 (Qe (Qd (Qd (R_G (Qb 2 (Qe ?_))))))
  obtain ⟨v5,hs,hm⟩:=Qg hm
  refine Zy (fun d=>⟨sl d 23 [(4,(.dat (.lst ((List.map Qa) [])))),(5,(Qc v5))],[(.box [(.dat (.lst ((List.map Qa) p0.values))),(Qs p0.scalar)]),(.tok 3 v3)]⟩) ?_ (fun d=>?_)
  ·replace hm:=hs
   clear hs
   refine Qx hm (Q1 _ _) (fun hm=>?_) (fun hm=>?_)
   ·refine R_G (Qb 1 ?_)
    obtain ⟨v6,hx,hm⟩:=Qg hm
    have hq:=ZY _ _ hx []
    refine Qp hq ?_
    refine Qb 1 (Qe ?_)
    obtain rfl:=Qu hm
    exact Qm
   refine Qo ?_
   obtain rfl:=Qu hm
   exact Qm
  clear hs
  refine Qd (Qd (R_G (Qb 2 (Qe ?_))))
  refine Qx hm (ne_dec _ _) (fun hm=>?_) (fun hm=>?_)
  ·refine Qd (R_G (Qb 3 (Qe (Qr ?_))))
   obtain ⟨rfl,rfl⟩:=QU hm
   exact ⟨trivial,Qk⟩
  refine Qo (Qd (R_G (Qb 3 (Qe (Qr ?_)))))
  obtain ⟨rfl,rfl⟩:=QU hm
  exact ⟨trivial,Qk⟩
 ·have hq:=XP _ _ hx
  dsimp only [Z1] at hq
  refine Zh hq ?_
  refine Qb 5 (Qe (Qd (Qd (R_G (Qb 2 (Qe ?_))))))
  refine QaZ (by kernel_rfl) ?_
  refine R_G (Qb 1 ?_)
  obtain ⟨v7,hx,hm⟩:=Qg hm
  have hq:=ZY _ _ hx []
  refine Qp hq ?_
  refine Qb 1 (Qe (Qd (Qd (R_G (Qb 2 (Qe ?_))))))
  refine Qx hm (ne_dec _ _) (fun hm=>?_) (fun hm=>?_)
  ·refine Qd (R_G (Qb 3 (Qe (Qr ?_))))
   obtain ⟨rfl,rfl⟩:=QU hm
   exact ⟨trivial,Qk⟩
  refine Qo (Qd (R_G (Qb 3 (Qe (Qr ?_)))))
  obtain ⟨rfl,rfl⟩:=QU hm
  exact ⟨trivial,Qk⟩
def JZ (x:((List Int) × (List Int) × (List Int) × Bool)):Option (Int ⊕ ((List Int) × (List Int))) :=
 match x with
 | (q0,q1,q2,q3) =>
 Zp q1>>=fun (v1:Int) =>
 if v1≠0 then
  some (Sum.inl v1)
 else
 Qz q0>>=fun v2 =>
 Qz q1>>=fun v3 =>
 some (Sum.inr (v2,v3))
def JR:((List Int) × (List Int) × (List Int) × Bool)→(Int ⊕ ((List Int) × (List Int)))→Prop:=fun x r=>match x with
 | (q0,q1,q2,q3)=>PC prog env 97 [(.dat (.lst ((List.map Qa) q0))),(.dat (.lst ((List.map Qa) q1))),(.dat (.lst []))] [(.box [(.dat (.lst ((List.map Qa) q2))),(Qs q3)]),(.box [(.dat (.lst ((List.map Qa) []))),(.dat (.lst ((List.map Qa) []))),(.dat (.lst ((List.map Qa) []))),(.dat (.lst ((List.map Qa) []))),(Qc 0),(Qc 0),(.dat (.lst ((List.map Qa) [])))])] (match r with|.inl v5001=>(.tup [(.dat (.agg [(.lst ((List.map Qa) [])),(.lst ((List.map Qa) [])),(.lst ((List.map Qa) [])),(.lst ((List.map Qa) [])),(Qa 0),(Qa 0),(.lst ((List.map Qa) []))])),(Qc v5001)])|.inr ((v5002,v5003))=>(.tup [(.agg [(.dat (.lst ((List.map Qa) []))),(.ms 3 1 0 v5002.length v5002.length),(.ms 4 1 0 v5003.length v5003.length),(.dat (.lst ((List.map Qa) []))),(Qc (-1)),(Qc 0),(.dat (.lst ((List.map Qa) [])))]),(Qc 0)])) (match r with|.inl v5001=>[(.box [(.dat (.lst ((List.map Qa) q2))),(Qs q3)]),(.box [(.dat (.lst ((List.map Qa) []))),(.dat (.lst ((List.map Qa) []))),(.dat (.lst ((List.map Qa) []))),(.dat (.lst ((List.map Qa) []))),(Qc 0),(Qc 0),(.dat (.lst ((List.map Qa) [])))]),(.box [(.dat (.lst ((List.map Qa) []))),(.dat (.lst ((List.map Qa) []))),(.dat (.lst ((List.map Qa) []))),(.dat (.lst ((List.map Qa) []))),(Qc 0),(Qc 0),(.dat (.lst ((List.map Qa) [])))])]|.inr ((v5002,v5003))=>[(.box [(.dat (.lst ((List.map Qa) q2))),(Qs q3)]),(.box [(.dat (.lst ((List.map Qa) []))),(.dat (.lst ((List.map Qa) []))),(.dat (.lst ((List.map Qa) []))),(.dat (.lst ((List.map Qa) []))),(Qc 0),(Qc 0),(.dat (.lst ((List.map Qa) [])))]),(.box [(.dat (.lst ((List.map Qa) []))),(.ms 3 1 0 v5002.length v5002.length),(.ms 4 1 0 v5003.length v5003.length),(.dat (.lst ((List.map Qa) []))),(Qc (-1)),(Qc 0),(.dat (.lst ((List.map Qa) [])))]),(.mt 3 1 (cellsOf Qa v5002)),(.mt 3 1 (cellsOf Qa v5003)),(.box [(.dat (.lst ((List.map Qa) []))),(.ms 3 1 0 v5002.length v5002.length),(.ms 4 1 0 v5003.length v5003.length),(.dat (.lst ((List.map Qa) []))),(Qc (-1)),(Qc 0),(.dat (.lst ((List.map Qa) [])))])])
theorem Qcz:∀ x r,JZ x=some r→JR x r:=by
 intro x r hm
 unfold JZ at hm
 unfold JR
 obtain ⟨q0,q1,q2,q3⟩:=x
 refine PC_sxB (fn:=f97) rfl ?_
 refine Qd (R_G (Qb 2 (Qe (Qd (Qd (R_G (Qb 1 ?_)))))))
 obtain ⟨v1,hx,hm⟩:=Qg hm
 have hq:=ZY _ _ hx []
 refine Qp hq ?_
 refine Qb 1 (Qe (Qd (R_G (Qb 2 (Qe ?_)))))
 refine Qx hm (ne_dec _ _) (fun hm=>?_) (fun hm=>?_)
 ·refine Qd (R_G (Qb 4 (Qe (Qr ?_))))
  obtain rfl:=Qu hm
  exact ⟨trivial,QY (by kernel_rfl) (by kernel_rfl)⟩
 refine Qo (Qd (R_G (Qb 1 ?_)))
 obtain ⟨v2,hx,hm⟩:=Qg hm
 have hq:=QG _ _ hx
 dsimp only [QB] at hq
 have hl9:mtOf [Blk.mt 3 (cgm_slices_Clone_int_int v2) (cellsOf Qa v2)] 0=some (3,cgm_slices_Clone_int_int v2,cellsOf Qa v2):=ZS (by kernel_rfl)
 refine Yb (v:=.ms 3 1 0 v2.length v2.length) (fun H=>H++[.mt 3 1 (cellsOf Qa v2)]) rfl (by kernel_rfl) ?_ ?_
 ·intro K hk
  refine Zz 3 (first:=#[]) (cap:=#[]) (j:=(0,3)) (ow':=[]) (f0:=Qa) (l:=v2) rfl ?_ ?_ ?_ (ds:=[.lst ((List.map Qa) q0)]) ?_ hq hl9 ?_ ?_ ?_
  ·kernel_rfl
  ·kernel_rfl
  ·kernel_rfl
  ·kernel_rfl
  ·exact hk
  ·kernel_rfl
  ·decide
 refine Qb 1 ?_
 obtain ⟨v3,hx,hm⟩:=Qg hm
 have hq:=QG _ _ hx
 dsimp only [QB] at hq
 have hl9:mtOf [Blk.mt 3 (cgm_slices_Clone_int_int v3) (cellsOf Qa v3)] 0=some (3,cgm_slices_Clone_int_int v3,cellsOf Qa v3):=ZS (by kernel_rfl)
 refine Yb (v:=.ms 4 1 0 v3.length v3.length) (fun H=>H++[.mt 3 1 (cellsOf Qa v3)]) rfl (by kernel_rfl) ?_ ?_
 ·intro K hk
  refine Zz 4 (first:=#[]) (cap:=#[]) (j:=(0,3)) (ow':=[]) (f0:=Qa) (l:=v3) rfl ?_ ?_ ?_ (ds:=[.lst ((List.map Qa) q1)]) ?_ hq hl9 ?_ ?_ ?_
  ·kernel_rfl
  ·kernel_rfl
  ·kernel_rfl
  ·kernel_rfl
  ·exact hk
  ·kernel_rfl
  ·decide
 refine Qb 3 (Qe (Qd (Qd (R_G (Qb 1 (Qb 1 (Qb 1 (Qe (Qw ?_)))))))))
 refine Ze ?_
 refine RL_at (st':=⟨kp 33 [(6,(.ptr 2 0)),(9,(.ptr 5 0)),(23,(.dat (.lst []))),(24,(Qc 0)),(25,(Qc 0))],[(.box [(.dat (.lst ((List.map Qa) q2))),(Qs q3)]),(.box [(.dat (.lst ((List.map Qa) []))),(.dat (.lst ((List.map Qa) []))),(.dat (.lst ((List.map Qa) []))),(.dat (.lst ((List.map Qa) []))),(Qc 0),(Qc 0),(.dat (.lst ((List.map Qa) [])))]),(.box [(.dat (.lst ((List.map Qa) []))),(.dat (.lst ((List.map Qa) []))),(.dat (.lst ((List.map Qa) []))),(.dat (.lst ((List.map Qa) []))),(Qc 0),(Qc 0),(.dat (.lst ((List.map Qa) [])))]),(.mt 3 1 (cellsOf Qa v2)),(.mt 3 1 (cellsOf Qa v3)),(.box [(.dat (.lst ((List.map Qa) []))),(.ms 3 1 0 v2.length v2.length),(.ms 4 1 0 v3.length v3.length),(.dat (.lst ((List.map Qa) []))),(Qc (-1)),(Qc 0),(.dat (.lst ((List.map Qa) [])))])]⟩) (prune_of2 [(.box [(.dat (.lst ((List.map Qa) q2))),(Qs q3)]),(.box [(.dat (.lst ((List.map Qa) []))),(.dat (.lst ((List.map Qa) []))),(.dat (.lst ((List.map Qa) []))),(.dat (.lst ((List.map Qa) []))),(Qc 0),(Qc 0),(.dat (.lst ((List.map Qa) [])))]),(.box [(.dat (.lst ((List.map Qa) []))),(.dat (.lst ((List.map Qa) []))),(.dat (.lst ((List.map Qa) []))),(.dat (.lst ((List.map Qa) []))),(Qc 0),(Qc 0),(.dat (.lst ((List.map Qa) [])))]),(.mt 3 1 (cellsOf Qa v2)),(.mt 3 1 (cellsOf Qa v3)),(.box [(.dat (.lst ((List.map Qa) []))),(.ms 3 1 0 v2.length v2.length),(.ms 4 1 0 v3.length v3.length),(.dat (.lst ((List.map Qa) []))),(Qc (-1)),(Qc 0),(.dat (.lst ((List.map Qa) [])))])] (fun _=>(pg_cons (by kernel_rfl) (pg_cons (by kernel_rfl) (pg_cons (by kernel_rfl) (pg_cons (purge_mt Qa _ _ _ _ _) (pg_cons (purge_mt Qa _ _ _ _ _) (pg_cons (by kernel_rfl) pg_nil))))))) rfl) ?_
 refine Qd (R_G (Qb 1 (Qe (Qd ?_))))
 refine Js (by kernel_rfl) ?_
 refine Q8 (Qd (R_G (Qb 3 (Qe (Qr ?_)))))
 obtain rfl:=Qu hm
 exact ⟨trivial,QY (by kernel_rfl) (by kernel_rfl)⟩
def Qad (x:(QF × (List Int))):Option (Qn × Int) :=
 match x with
 | (p0,p1) =>
 XM (⟨p0.values,p0.scalar⟩:QF)>>=fun ((v1,v2):((List Int) × Int)) =>
 if v2≠0 then
  Zt v2>>=fun ((v3,v4):(Qn × Int)) =>
  some (v3,v4)
 else
 (
 JZ (p1,v1,p0.values,p0.scalar)>>=fun (out:Int ⊕ ((List Int) × (List Int))) =>
 match out with
 | .inl v5 =>
  some ((⟨([]:(List Int)),([]:(List Int)),([]:(List Int)),([]:(List Int)),0,0,([]:(List Int))⟩:Qn),v5)
 | .inr ((v6,v7)) =>
  some ((⟨([]:(List Int)),v6,v7,([]:(List Int)),(-1),0,([]:(List Int))⟩:Qn),0)
 )
def QdC:(QF × (List Int))→(Qn × Int)→Prop:=fun x r=>match x,r with
 | (p0,p1),(r0,r1)=>∀ H,PC prog env 108 ([(QF.toD p0),(.lst ((List.map Qa) p1))].map .dat) H (.tup [(.dat (Qn.toD r0)),(Qc r1)]) H
theorem Qfw:∀ x r,Qad x=some r→QdC x r:=by
 intro x r hm
 unfold Qad at hm
 unfold QdC
 obtain ⟨p0,p1⟩:=x
 obtain ⟨r0,r1⟩:=r
 intro H
 refine PC_sx (ds:=[(QF.toD p0),(.lst ((List.map Qa) p1))]) (fn:=f108) rfl ?_
 refine Qd (R_G (Qb 3 (Qe (Qd (R_G (Qb 1 ?_))))))
 obtain ⟨⟨v1,v2⟩,hx,hm⟩:=Qg hm
 have hq:=QeX _ _ hx []
 refine Qp hq ?_
 refine Qb 5 (Qe (Qd (Qd (R_G (Qb 2 (Qe ?_))))))
 refine Qx hm (ne_dec _ _) (fun hm=>?_) (fun hm=>?_)
 ·refine Qd (R_G (Qb 1 ?_))
  obtain ⟨⟨v3,v4⟩,hx,hm⟩:=Qg hm
  have hq:=ZX _ _ hx []
  refine Qp hq ?_
  refine Qb 4 (Qe (Qr ?_))
  obtain ⟨rfl,rfl⟩:=QU hm
  exact ⟨trivial,Qk⟩
 refine Qo (Qd (R_G (Qb 2 ?_)))
 obtain ⟨out,hx,hm⟩:=Qg hm
 rcases out with v5|⟨v6,v7⟩
 ·have hq:=Qcz _ _ hx
  dsimp only [JR] at hq
  refine Zh hq ?_
  refine Qb 4 (Qe (Qr ?_))
  obtain ⟨rfl,rfl⟩:=QU hm
  exact ⟨trivial,Qk⟩
 ·have hq:=Qcz _ _ hx
  dsimp only [JR] at hq
  refine Zh hq ?_
  refine Qb 4 (Qe (Qr ?_))
  obtain ⟨rfl,rfl⟩:=QU hm
  exact ⟨trivial,Xl [(.agg [(.dat (.lst ((List.map Qa) []))),(.ms 3 1 0 v6.length v6.length),(.ms 4 1 0 v7.length v7.length),(.dat (.lst ((List.map Qa) []))),(Qc (-1)),(Qc 0),(.dat (.lst ((List.map Qa) [])))]),(Qc 0)] (by kernel_rfl) (po_tup (ps_cons (p1_agg (pc_cons (by kernel_rfl) (pc_cons (pc_ms (e:=3) Qa v6 rfl (fun _=>rfl) (by kernel_rfl)) (pc_cons (pc_ms (e:=3) Qa v7 rfl (fun _=>rfl) (by kernel_rfl)) (pc_cons (by kernel_rfl) (pc_cons (by kernel_rfl) (pc_cons (by kernel_rfl) (pc_cons (by kernel_rfl) pc_nil)))))))) (ps_cons (by kernel_rfl) ps_nil)))⟩
def ZC (x:(Int × Int × Int × ByteArray × (List Int) × (List Qf) × Int × (List Int) × Int × (List Int) × Int × Int × (List Int) × (List Qi) × (List Ql))):Option ((Int × (List Int) × Int × (List Int) × Int × Int × (List Int) × (List Qi) × Int)) :=
 match x with
 | (q0,q1,q2,q3,q4,q5,q6,q7,q8,q9,q10,q11,q12,q13,q14) =>
 idx q5 0>>=fun v1 =>
 XN (v1.kind,v1.fn,v1.axis,v1.name,v1.nums,v1.kids)>>=fun ((v2,v3,v4):((List Int) × Bool × Int)) =>
 if v4≠0 then
  some (0,([]:List Int),0,([]:List Int),0,0,([]:List Int),([]:List Qi),v4)
 else
 if q1=1 then
  QbF ((⟨v2,v3⟩:QF),q7)>>=fun ((v5,v6):(Qn × Int)) =>
  JD (v5,(⟨q6,q7,q8,q9,q10,q11,q12,q13⟩:Qi))>>=fun (v7:Qi) =>
  some (v7.kind,v7.shape,v7.buffer,v7.starts,v7.axis,v7.amount,v7.perm,v7.kids,v6)
 else
 if q1=2 then
  Qa4 ((⟨v2,v3⟩:QF),q7)>>=fun ((v8,v9):(Qn × Int)) =>
  JD (v8,(⟨q6,q7,q8,q9,q10,q11,q12,q13⟩:Qi))>>=fun (v10:Qi) =>
  some (v10.kind,v10.shape,v10.buffer,v10.starts,v10.axis,v10.amount,v10.perm,v10.kids,v9)
 else
 if q1=3 then
  QaQ ((⟨v2,v3⟩:QF),q2,q7)>>=fun ((v11,v12):(Qn × Int)) =>
  JC (4,v11,(⟨q6,q7,q8,q9,q10,q11,q12,q13⟩:Qi))>>=fun (v13:Qi) =>
  some (v13.kind,v13.shape,v13.buffer,v13.starts,v13.axis,v13.amount,v13.perm,v13.kids,v12)
 else
 if q1=4 then
  Ji ((⟨v2,v3⟩:QF),q7)>>=fun ((v14,v15):(Qn × Int)) =>
  YX (v14,(⟨q6,q7,q8,q9,q10,q11,q12,q13⟩:Qi))>>=fun (v16:Qi) =>
  some (v16.kind,v16.shape,v16.buffer,v16.starts,v16.axis,v16.amount,v16.perm,v16.kids,v15)
 else
 Qad ((⟨v2,v3⟩:QF),q7)>>=fun ((v17,v18):(Qn × Int)) =>
 Y4 ((⟨q6,q7,q8,q9,q10,q11,q12,q13⟩:Qi),v17.shape)>>=fun (v19:Qi) =>
 some (v19.kind,v19.shape,v19.buffer,v19.starts,v19.axis,v19.amount,v19.perm,v19.kids,v18)
def Xa:(Int × Int × Int × ByteArray × (List Int) × (List Qf) × Int × (List Int) × Int × (List Int) × Int × Int × (List Int) × (List Qi) × (List Ql))→(Int × (List Int) × Int × (List Int) × Int × Int × (List Int) × (List Qi) × Int)→Prop:=fun x r=>match x with
 | (q0,q1,q2,q3,q4,q5,q6,q7,q8,q9,q10,q11,q12,q13,q14)=>PCX prog env 65 [(.ptr 2 0),(.dat (.agg [(Qa q0),(Qa q1),(Qa q2),(strD q3),(.lst ((List.map Qa) q4)),(.lst (Qf.toDs q5))])),(.dat (.agg [(Qa q6),(.lst ((List.map Qa) q7)),(Qa q8),(.lst ((List.map Qa) q9)),(Qa q10),(Qa q11),(.lst ((List.map Qa) q12)),(.lst (Qi.toDs q13))]))] [(.box [(Qc 0),(.dat (.lst ((List.map Qa) []))),(Qc 0),(.dat (.lst ((List.map Qa) []))),(Qc 0),(Qc 0),(.dat (.lst ((List.map Qa) []))),(.dat (.lst (Qi.toDs []))),(.dat (.lst ((List.map Ql.toD) [])))]),(.tok 59 q14.length),(.box [(.dat (.raw (.pointer none))),(.vec 1 ((List.map Ql.toD) q14))])] (match r with|(v5001,v5002,v5003,v5004,v5005,v5006,v5007,v5008,v5009)=>(.tup [(.dat (.agg [(Qa v5001),(.lst ((List.map Qa) v5002)),(Qa v5003),(.lst ((List.map Qa) v5004)),(Qa v5005),(Qa v5006),(.lst ((List.map Qa) v5007)),(.lst (Qi.toDs v5008))])),(Qc v5009)])) (match r with|(v5001,v5002,v5003,v5004,v5005,v5006,v5007,v5008,v5009)=>[(.box [(Qc 0),(.dat (.lst ((List.map Qa) []))),(Qc 0),(.dat (.lst ((List.map Qa) []))),(Qc 0),(Qc 0),(.dat (.lst ((List.map Qa) []))),(.dat (.lst (Qi.toDs []))),(.dat (.lst ((List.map Ql.toD) [])))]),(.tok 59 q14.length),(.box [(.dat (.raw (.pointer none))),(.vec 1 ((List.map Ql.toD) q14))])])
theorem QbX:∀ x r,ZC x=some r→Xa x r:=by
 intro x r hm
 unfold ZC at hm
 unfold Xa
 obtain ⟨q0,q1,q2,q3,q4,q5,q6,q7,q8,q9,q10,q11,q12,q13,q14⟩:=x
 refine PCX_sxB (fn:=f65) rfl ?_
 refine Qd (R_G (Qb 4 (Qe (Qd ?_))))
 refine QaK ?_
 refine Qb 6 ?_
 obtain ⟨v1,hx,hm⟩:=Qg hm
 refine QbA 6 Qf.toD q5 0 v1 (es:=Qf.toDs q5) (d:=(Qf.ex v1)) (Qf.toDs_eq _) hx (Qf.toD_eq v1) rfl ?_
 refine Qb 1 ?_
 obtain ⟨⟨v2,v3,v4⟩,hx,hm⟩:=Qg hm
 have hq:=QeY _ _ hx
 dsimp only [Qbc] at hq
 refine Qgq (n:=0) hq ?_
 refine Qb 6 ?_
 refine Qe ⟨by kernel_rfl,?_⟩
 refine Qd (Qd (R_G (Qb 2 (Qe ?_))))
 refine Qx hm (ne_dec _ _) (fun hm=>?_) (fun hm=>?_)
 ·refine Qd (R_G (Qb 4 (Qe (Qr ?_))))
  obtain rfl:=Qu hm
  exact ⟨trivial,fin_bodyX 3 (by kernel_rfl) (by kernel_rfl)⟩
 refine Qo (Qd (R_G (Qb 1 (Qe (Qd (Qd (R_G (Qb 2 (Qe (Qw (Qd ?_)))))))))))
 refine R_G (Qb 2 (Qe ?_))
 refine Qx hm (Q1 _ _) (fun hm=>?_) (fun hm=>?_)
 ·refine Qd (R_G (Qb 3 ?_))
  obtain ⟨⟨v5,v6⟩,hx,hm⟩:=Qg hm
  have hq:=Qgc _ _ hx []
  refine Qp hq ?_
  refine Qb 5 (Qe (Qd (R_G (Qb 2 ?_))))
  obtain ⟨v7,hx,hm⟩:=Qg hm
  have hq:=Qep _ _ hx []
  refine Qp hq ?_
  refine Qb 3 (Qe (Qr ?_))
  obtain rfl:=Qu hm
  exact ⟨trivial,fin_bodyX 3 (by kernel_rfl) (by kernel_rfl)⟩
 refine Qd (R_G (Qb 2 (Qe ?_)))
 refine Qx hm (Q1 _ _) (fun hm=>?_) (fun hm=>?_)
 ·refine Qd (R_G (Qb 3 ?_))
  obtain ⟨⟨v8,v9⟩,hx,hm⟩:=Qg hm
  have hq:=Qga _ _ hx []
  refine Qp hq ?_
  refine Qb 5 (Qe (Qd (R_G (Qb 2 ?_))))
  obtain ⟨v10,hx,hm⟩:=Qg hm
  have hq:=Qep _ _ hx []
  refine Qp hq ?_
  refine Qb 3 (Qe (Qr ?_))
  obtain rfl:=Qu hm
  exact ⟨trivial,fin_bodyX 3 (by kernel_rfl) (by kernel_rfl)⟩
 refine Qd (R_G (Qb 2 (Qe ?_)))
 refine Qx hm (Q1 _ _) (fun hm=>?_) (fun hm=>?_)
 ·refine Qd (R_G (Qb 5 ?_))
  obtain ⟨⟨v11,v12⟩,hx,hm⟩:=Qg hm
  have hq:=QfM _ _ hx []
  refine Qp hq ?_
  refine Qb 5 (Qe (Qd (R_G (Qb 2 ?_))))
  obtain ⟨v13,hx,hm⟩:=Qg hm
  have hq:=Qeo _ _ hx []
  refine Qp hq ?_
  refine Qb 3 (Qe (Qr ?_))
  obtain rfl:=Qu hm
  exact ⟨trivial,fin_bodyX 3 (by kernel_rfl) (by kernel_rfl)⟩
 refine Qd (R_G (Qb 2 (Qe ?_)))
 refine Qx hm (Q1 _ _) (fun hm=>?_) (fun hm=>?_)
 ·refine Qd (R_G (Qb 3 ?_))
  obtain ⟨⟨v14,v15⟩,hx,hm⟩:=Qg hm
  have hq:=Qe1 _ _ hx []
  refine Qp hq ?_
  refine Qb 5 (Qe (Qd (R_G (Qb 2 ?_))))
  obtain ⟨v16,hx,hm⟩:=Qg hm
  have hq:=Qcr _ _ hx []
  refine Qp hq ?_
  refine Qb 3 (Qe (Qr ?_))
  obtain rfl:=Qu hm
  exact ⟨trivial,fin_bodyX 3 (by kernel_rfl) (by kernel_rfl)⟩
 refine Qo (Qd (R_G (Qb 3 ?_)))
 obtain ⟨⟨v17,v18⟩,hx,hm⟩:=Qg hm
 have hq:=Qfw _ _ hx []
 refine Qp hq ?_
 refine Qb 5 (Qe (Qd (R_G (Qb 3 ?_))))
 obtain ⟨v19,hx,hm⟩:=Qg hm
 have hq:=QbH _ _ hx []
 refine Qp hq ?_
 refine Qb 3 (Qe (Qr ?_))
 obtain rfl:=Qu hm
 exact ⟨trivial,fin_bodyX 3 (by kernel_rfl) (by kernel_rfl)⟩
mutual
def Zk (x:(Int × Int × Int × ByteArray × (List Int) × (List Qf) × Int × (List Int) × Int × (List Int) × Int × Int × (List Int) × (List Qi) × (List Ql))):Option (((List Ql) × Int × (List Int) × Int × (List Qi) × Int)) :=
 match x with
 | (q0,q1,q2,q3,q4,q5,q6,q7,q8,q9,q10,q11,q12,q13,q14) =>
 idx q5 0>>=fun v1 =>
 QL (v1.kind,v1.fn,v1.axis,v1.name,v1.nums,v1.kids,q14)>>=fun ((v2,v3,v4,v5,v6,v7,v8,v9,v10,v11):((List Ql) × Int × (List Int) × Int × (List Int) × Int × Int × (List Int) × (List Qi) × Int)) =>
 if v11≠0 then
  some (v2,0,([]:List Int),0,([]:List Qi),v11)
 else
 YI (q2,v4,q7)>>=fun ((v12,v13):(Qn × Int)) =>
 Qab ((⟨v3,v4,v5,v6,v7,v8,v9,v10⟩:Qi),v12.left)>>=fun (v14:Qi) =>
 Qab ((⟨q6,q7,q8,q9,q10,q11,q12,q13⟩:Qi),v12.right)>>=fun (v15:Qi) =>
 some (v2,7,v12.shape,v12.axis,([(⟨v14.kind,v14.shape,v14.buffer,v14.starts,v14.axis,v14.amount,v14.perm,v14.kids⟩:Qi),(⟨v15.kind,v15.shape,v15.buffer,v15.starts,v15.axis,v15.amount,v15.perm,v15.kids⟩:Qi)]:List Qi),v13)
 partial_fixpoint
def QL (x:(Int × Int × Int × ByteArray × (List Int) × (List Qf) × (List Ql))):Option (((List Ql) × Int × (List Int) × Int × (List Int) × Int × Int × (List Int) × (List Qi) × Int)) :=
 match x with
 | (q0,q1,q2,q3,q4,q5,q6) =>
 if (q5.length:Int)=0 then
  ZJ (q0,q1,q2,q3,q4,q5,q6)>>=fun ((v1,v2,v3,v4,v5):((List Ql) × Int × (List Int) × Int × Int)) =>
  some (v1,v2,v3,v4,([]:List Int),0,0,([]:List Int),([]:List Qi),v5)
 else
 idx q5 (W ((q5.length:Int) - 1))>>=fun v6 =>
 QL (v6.kind,v6.fn,v6.axis,v6.name,v6.nums,v6.kids,q6)>>=fun ((v7,v8,v9,v10,v11,v12,v13,v14,v15,v16):((List Ql) × Int × (List Int) × Int × (List Int) × Int × Int × (List Int) × (List Qi) × Int)) =>
 if v16≠0 then
  some (v7,0,([]:List Int),0,([]:List Int),0,0,([]:List Int),([]:List Qi),v16)
 else
 if q0=3 then
  Qbf ((⟨q0,q1,q2,q3,q4,q5⟩:Qf),(⟨v8,v9,v10,v11,v12,v13,v14,v15⟩:Qi))>>=fun ((v17,v18):(Qi × Int)) =>
  some (v7,v17.kind,v17.shape,v17.buffer,v17.starts,v17.axis,v17.amount,v17.perm,v17.kids,v18)
 else
 Xs ()>>=fun (_:Unit) =>
 if q1=6 then
  Zk (q0,q1,q2,q3,q4,q5,v8,v9,v10,v11,v12,v13,v14,v15,v7)>>=fun ((v19,v20,v21,v22,v23,v24):((List Ql) × Int × (List Int) × Int × (List Qi) × Int)) =>
  some (v19,v20,v21,0,([]:List Int),v22,0,([]:List Int),v23,v24)
 else
 ZC (q0,q1,q2,q3,q4,q5,v8,v9,v10,v11,v12,v13,v14,v15,v7)>>=fun ((v25,v26,v27,v28,v29,v30,v31,v32,v33):(Int × (List Int) × Int × (List Int) × Int × Int × (List Int) × (List Qi) × Int)) =>
 some (v7,v25,v26,v27,v28,v29,v30,v31,v32,v33)
 partial_fixpoint
end
def Z0:(Int × Int × Int × ByteArray × (List Int) × (List Qf) × Int × (List Int) × Int × (List Int) × Int × Int × (List Int) × (List Qi) × (List Ql))→((List Ql) × Int × (List Int) × Int × (List Qi) × Int)→Prop:=fun x r=>match x with
 | (q0,q1,q2,q3,q4,q5,q6,q7,q8,q9,q10,q11,q12,q13,q14)=>PCX prog env 64 [(.ptr 2 0),(.dat (.agg [(Qa q0),(Qa q1),(Qa q2),(strD q3),(.lst ((List.map Qa) q4)),(.lst (Qf.toDs q5))])),(.dat (.agg [(Qa q6),(.lst ((List.map Qa) q7)),(Qa q8),(.lst ((List.map Qa) q9)),(Qa q10),(Qa q11),(.lst ((List.map Qa) q12)),(.lst (Qi.toDs q13))]))] [(.box [(Qc 0),(.dat (.lst ((List.map Qa) []))),(Qc 0),(.dat (.lst ((List.map Qa) []))),(Qc 0),(Qc 0),(.dat (.lst ((List.map Qa) []))),(.dat (.lst (Qi.toDs []))),(.dat (.lst ((List.map Ql.toD) [])))]),(.tok 59 q14.length),(.box [(.dat (.raw (.pointer none))),(.vec 1 ((List.map Ql.toD) q14))])] (match r with|(v5001,v5002,v5003,v5004,v5005,v5006)=>(.tup [(.dat (.agg [(Qa v5002),(.lst ((List.map Qa) v5003)),(Qa 0),(.lst ((List.map Qa) [])),(Qa v5004),(Qa 0),(.lst ((List.map Qa) [])),(.lst (Qi.toDs v5005))])),(Qc v5006)])) (match r with|(v5001,v5002,v5003,v5004,v5005,v5006)=>[(.box [(Qc 0),(.dat (.lst ((List.map Qa) []))),(Qc 0),(.dat (.lst ((List.map Qa) []))),(Qc 0),(Qc 0),(.dat (.lst ((List.map Qa) []))),(.dat (.lst (Qi.toDs []))),(.dat (.lst ((List.map Ql.toD) [])))]),(.tok 59 v5001.length),(.box [(.dat (.raw (.pointer none))),(.vec 1 ((List.map Ql.toD) v5001))])])
def ZI:(Int × Int × Int × ByteArray × (List Int) × (List Qf) × (List Ql))→((List Ql) × Int × (List Int) × Int × (List Int) × Int × Int × (List Int) × (List Qi) × Int)→Prop:=fun x r=>match x with
 | (q0,q1,q2,q3,q4,q5,q6)=>PCX prog env 15 [(.ptr 2 0),(.dat (.agg [(Qa q0),(Qa q1),(Qa q2),(strD q3),(.lst ((List.map Qa) q4)),(.lst (Qf.toDs q5))]))] [(.box [(Qc 0),(.dat (.lst ((List.map Qa) []))),(Qc 0),(.dat (.lst ((List.map Qa) []))),(Qc 0),(Qc 0),(.dat (.lst ((List.map Qa) []))),(.dat (.lst (Qi.toDs []))),(.dat (.lst ((List.map Ql.toD) [])))]),(.tok 59 q6.length),(.box [(.dat (.raw (.pointer none))),(.vec 1 ((List.map Ql.toD) q6))])] (match r with|(v5001,v5002,v5003,v5004,v5005,v5006,v5007,v5008,v5009,v5010)=>(.tup [(.dat (.agg [(Qa v5002),(.lst ((List.map Qa) v5003)),(Qa v5004),(.lst ((List.map Qa) v5005)),(Qa v5006),(Qa v5007),(.lst ((List.map Qa) v5008)),(.lst (Qi.toDs v5009))])),(Qc v5010)])) (match r with|(v5001,v5002,v5003,v5004,v5005,v5006,v5007,v5008,v5009,v5010)=>[(.box [(Qc 0),(.dat (.lst ((List.map Qa) []))),(Qc 0),(.dat (.lst ((List.map Qa) []))),(Qc 0),(Qc 0),(.dat (.lst ((List.map Qa) []))),(.dat (.lst (Qi.toDs []))),(.dat (.lst ((List.map Ql.toD) [])))]),(.tok 59 v5001.length),(.box [(.dat (.raw (.pointer none))),(.vec 1 ((List.map Ql.toD) v5001))])])
theorem g_elab_maker_catenate_fceee:(∀ x r,Zk x=some r→Z0 x r)∧(∀ x r,QL x=some r→ZI x r):=by
 refine Zk.mutual_partial_correctness Z0 ZI ?_ ?_
 ·intro QL Yv x r hm
  unfold Z0
  obtain ⟨q0,q1,q2,q3,q4,q5,q6,q7,q8,q9,q10,q11,q12,q13,q14⟩:=x
  refine PCX_sxB (fn:=f64) rfl ?_
  refine Qd (R_G (Qb 4 (Qe (Qd (R_G (Qb 3 ?_))))))
  obtain ⟨v1,hx,hm⟩:=Qg hm
  refine QbA 6 Qf.toD q5 0 v1 (es:=Qf.toDs q5) (d:=(Qf.ex v1)) (Qf.toDs_eq _) hx (Qf.toD_eq v1) rfl ?_
  refine Qb 1 ?_
  obtain ⟨⟨v2,v3,v4,v5,v6,v7,v8,v9,v10,v11⟩,hx,hm⟩:=Qg hm
  have hq:=Yv _ _ hx
  dsimp only [ZI] at hq
  refine Qbr (n:=3) hq ?_
  refine Qb 6 (Qe (Qd (Qd (R_G (Qb 2 (Qe ?_))))))
  refine Qx hm (ne_dec _ _) (fun hm=>?_) (fun hm=>?_)
  ·refine Qd (R_G (Qb 4 (Qe (Qr ?_))))
   obtain rfl:=Qu hm
   exact ⟨trivial,fin_bodyX 3 (by kernel_rfl) (by kernel_rfl)⟩
  refine Qo (Qd (R_G (Qb 6 ?_)))
  obtain ⟨⟨v12,v13⟩,hx,hm⟩:=Qg hm
  have hq:=Qfk _ _ hx []
  refine Qp hq ?_
  refine Qb 6 (Qe (Qd ?_))
  refine QaK ?_
  refine Qb 7 ?_
  obtain ⟨v14,hx,hm⟩:=Qg hm
  have hq:=QdO _ _ hx []
  refine Qp hq ?_
  refine Qb 3 ?_
  obtain ⟨v15,hx,hm⟩:=Qg hm
  have hq:=QdO _ _ hx []
  refine Qp hq ?_
  refine Qb 5 ?_
  refine Qe ⟨by kernel_rfl,?_⟩
  refine Qr ?_
  obtain rfl:=Qu hm
  exact ⟨trivial,fin_bodyX 3 (by kernel_rfl) (by kernel_rfl)⟩
 ·intro Zk QL J1 Yv x r hm
  unfold ZI
  obtain ⟨q0,q1,q2,q3,q4,q5,q6⟩:=x
  refine PCX_sxB (fn:=f15) rfl ?_
  refine Qd (R_G (Qb 3 (Qe (Qd (Qd (R_G (Qb 2 ?_)))))))
  refine QO Qf.toD q5 (es:=Qf.toDs q5) (Qf.toDs_eq _) ?_
  refine Qb 1 (Qe ?_)
  refine Qx hm (Q1 _ _) (fun hm=>?_) (fun hm=>?_)
  ·refine Qd (R_G (Qb 2 ?_))
   obtain ⟨⟨v1,v2,v3,v4,v5⟩,hx,hm⟩:=Qg hm
   have hq:=QcT _ _ hx
   dsimp only [X9] at hq
   refine Qbr (n:=3) hq ?_
   refine Qb 4 (Qe (Qr ?_))
   obtain rfl:=Qu hm
   exact ⟨trivial,fin_bodyX 3 (by kernel_rfl) (by kernel_rfl)⟩
  refine Qo (Qd (R_G (Qb 5 ?_)))
  refine QO Qf.toD q5 (es:=Qf.toDs q5) (Qf.toDs_eq _) ?_
  refine Qb 1 ?_
  obtain ⟨v6,hx,hm⟩:=Qg hm
  refine QbA 6 Qf.toD q5 (W ((q5.length:Int) - 1)) v6 (es:=Qf.toDs q5) (d:=(Qf.ex v6)) (Qf.toDs_eq _) hx (Qf.toD_eq v6) rfl ?_
  refine Qb 1 ?_
  obtain ⟨⟨v7,v8,v9,v10,v11,v12,v13,v14,v15,v16⟩,hx,hm⟩:=Qg hm
  have hq:=Yv _ _ hx
  dsimp only [ZI] at hq
  refine Qbr (n:=3) hq ?_
  refine Qb 6 (Qe (Qd (Qd (R_G (Qb 2 (Qe ?_))))))
  refine Qx hm (ne_dec _ _) (fun hm=>?_) (fun hm=>?_)
  ·refine Qd (R_G (Qb 4 (Qe (Qr ?_))))
   obtain rfl:=Qu hm
   exact ⟨trivial,fin_bodyX 3 (by kernel_rfl) (by kernel_rfl)⟩
  refine Qo (Qd (Qd (R_G (Qb 3 (Qe ?_)))))
  refine Qx hm (Q1 _ _) (fun hm=>?_) (fun hm=>?_)
  ·refine Qd (R_G (Qb 2 ?_))
   obtain ⟨⟨v17,v18⟩,hx,hm⟩:=Qg hm
   have hq:=QfQ _ _ hx []
   refine Qp hq ?_
   refine Qb 4 (Qe (Qr ?_))
   obtain rfl:=Qu hm
   exact ⟨trivial,fin_bodyX 3 (by kernel_rfl) (by kernel_rfl)⟩
  refine Qo (Qd ?_)
  refine QaK ?_
  obtain ⟨_,hx,hm⟩:=Qg hm
  have hq:=Qex _ _ hx
  dsimp only [QaY] at hq
  refine Yb (v:=.mapv 5) (fun H=>H++[(.map [(.bool true,(.dat (.raw (.func (.func 64) #[] #[])))),(.bool false,(.dat (.raw (.func (.func 65) #[] #[]))))])]) rfl (by kernel_rfl) ?_ ?_
  ·intro K hK
   refine Qgt 5 (f:=35) (first:=#[]) (cap:=#[]) (j:=(0,3)) (ow':=[]) rfl ?_ ?_ ?_ hq ?_ ?_ ?_
   ·kernel_rfl
   ·kernel_rfl
   ·kernel_rfl
   ·kernel_rfl
   ·exact hK
   ·kernel_rfl
  refine Qb 3 ?_
  refine QA 45 hm (Q1 _ _) (fun hm=>?_) (fun hm=>?_)
  ·refine Qb 1 (Qb 3 ?_)
   obtain ⟨⟨v19,v20,v21,v22,v23,v24⟩,hx,hm⟩:=Qg hm
   have hq:=J1 _ _ hx
   dsimp only [Z0] at hq
   refine Qbr (n:=3) hq ?_
   refine Qb 4 ?_
   refine Qe ⟨by kernel_rfl,?_⟩
   refine Qr ?_
   obtain rfl:=Qu hm
   exact ⟨trivial,fin_bodyX 3 (by kernel_rfl) (by kernel_rfl)⟩
  refine Qb 1 (Qb 3 ?_)
  obtain ⟨⟨v25,v26,v27,v28,v29,v30,v31,v32,v33⟩,hx,hm⟩:=Qg hm
  have hq:=QbX _ _ hx
  dsimp only [Xa] at hq
  refine Qbr (n:=3) hq ?_
  refine Qb 4 ?_
  refine Qe ⟨by kernel_rfl,?_⟩
  refine Qr ?_
  obtain rfl:=Qu hm
  exact ⟨trivial,fin_bodyX 3 (by kernel_rfl) (by kernel_rfl)⟩
theorem J1:∀ x r,Zk x=some r→Z0 x r:=g_elab_maker_catenate_fceee.1
theorem Yv:∀ x r,QL x=some r→ZI x r:=g_elab_maker_catenate_fceee.2
def JU (x:(Int × Int × Int × ByteArray × (List Int) × (List Qf))):Option ((Int × (List Int) × Int × (List Int) × Int × Int × (List Int) × (List Qi) × (List Ql) × Int)) :=
 match x with
 | (q0,q1,q2,q3,q4,q5) =>
 QL (q0,q1,q2,q3,q4,q5,([]:List Ql))>>=fun ((v1,v2,v3,v4,v5,v6,v7,v8,v9,v10):((List Ql) × Int × (List Int) × Int × (List Int) × Int × Int × (List Int) × (List Qi) × Int)) =>
 if v10≠0 then
  some (0,([]:List Int),0,([]:List Int),0,0,([]:List Int),([]:List Qi),([]:List Ql),v10)
 else
 some (v2,v3,v4,v5,v6,v7,v8,v9,v1,0)
def Qa6:(Int × Int × Int × ByteArray × (List Int) × (List Qf))→(Int × (List Int) × Int × (List Int) × Int × Int × (List Int) × (List Qi) × (List Ql) × Int)→Prop:=fun x r=>match x with
 | (q0,q1,q2,q3,q4,q5)=>PCX prog env 6 [(.dat (.raw (.pointer none))),(.dat (.agg [(Qa q0),(Qa q1),(Qa q2),(strD q3),(.lst ((List.map Qa) q4)),(.lst (Qf.toDs q5))]))] [] (match r with|(v5001,v5002,v5003,v5004,v5005,v5006,v5007,v5008,v5009,v5010)=>(.tup [(.dat (.agg [(Qa v5001),(.lst ((List.map Qa) v5002)),(Qa v5003),(.lst ((List.map Qa) v5004)),(Qa v5005),(Qa v5006),(.lst ((List.map Qa) v5007)),(.lst (Qi.toDs v5008)),(.lst ((List.map Ql.toD) v5009))])),(Qc v5010)])) (match r with|(v5001,v5002,v5003,v5004,v5005,v5006,v5007,v5008,v5009,v5010)=>[])
theorem QeQ:∀ x r,JU x=some r→Qa6 x r:=by
 intro x r hm
 unfold JU at hm
 unfold Qa6
 obtain ⟨q0,q1,q2,q3,q4,q5⟩:=x
 refine PCX_sxB (fn:=f6) rfl ?_
 refine Qd (R_G (Qb 3 (Qe (Qd (R_G (Qb 4 (Qe (Qd (R_G (Qb 2 ?_))))))))))
 obtain ⟨⟨v1,v2,v3,v4,v5,v6,v7,v8,v9,v10⟩,hx,hm⟩:=Qg hm
 have hq:=Yv _ _ hx
 dsimp only [ZI] at hq
 refine Qbr (n:=3) hq ?_
 refine Qb 6 (Qe (Qd (Qd (R_G (Qb 2 (Qe ?_))))))
 refine Qx hm (ne_dec _ _) (fun hm=>?_) (fun hm=>?_)
 ·refine Qd (R_G (Qb 4 (Qe (Qr ?_))))
  obtain rfl:=Qu hm
  exact ⟨trivial,fin_bodyX 0 (by kernel_rfl) (by kernel_rfl)⟩
 refine Qo (Qd ?_)
 refine QaK ?_
 refine Qb 8 ?_
 refine Qe ⟨by kernel_rfl,?_⟩
 refine Qr ?_
 obtain rfl:=Qu hm
 exact ⟨trivial,fin_bodyX 0 (by kernel_rfl) (by kernel_rfl)⟩
def Xu (x:((List QD) × ByteArray × Int)):Option (((List Int) × (List Int)) ⊕ Unit) :=
 match x with
 | (p0,p1,v201) =>
 if v201 < (p0.length:Int) then
  idx p0 v201>>=fun v603 =>
  if v603.name=p1 then
   idx p0 v201>>=fun v604 =>
   some (Sum.inl (v604.value.shape,v604.value.data))
  else
  Xu (p0,p1,(W (v201+1)))
 else
 some (Sum.inr ())
 partial_fixpoint
def Qdx:((List QD) × ByteArray × Int)→(((List Int) × (List Int)) ⊕ Unit)→Prop:=fun x r=>match x with
 | (p0,p1,v201)=>∀ st,prune 1 ((Qy (QN [1,0,1,0,0] (QP f66))).bind (env.hint 66).keepAt) st=⟨kp 26 [(0,(.dat (.lst ((List.map QD.toD) p0)))),(1,(.dat (strD p1))),(4,(.ptr 0 0)),(6,(Qc v201))],[(.box [(.dat (.lst ((List.map Qa) []))),(.dat (.lst ((List.map Qa) [])))])]⟩ →
  RL prog env (env.hint 66) true (QN [1,0,1,0,0] (QP f66)) 1 st (fun e s=>match r with|.inl (v601,v602)=>e=.ret∧∃ d,s=⟨sl d 26 [(4,(.ptr 0 0)),(5,(Qs true))],[(.box [(.dat (.lst ((List.map Qa) v601))),(.dat (.lst ((List.map Qa) v602)))])]⟩|.inr (_)=>e=.exit 0∧∃ d,s=⟨sl d 26 [(4,(.ptr 0 0))],[(.box [(.dat (.lst ((List.map Qa) []))),(.dat (.lst ((List.map Qa) [])))])]⟩)
theorem Qbl:∀ x r,Xu x=some r→Qdx x r:=by
 refine Xu.partial_correctness _ (fun Xu Qbl x r hm=>?_)
 unfold Qdx
 obtain ⟨p0,p1,v201⟩:=x
 intro st hst
 refine RL_at hst ?_
 clear hst
 refine Qd (Qd (R_G (Qb 2 ?_)))
 refine QO QD.toD p0 (es:=(List.map QD.toD) p0) rfl ?_
 refine Qb 1 (Qe ?_)
 refine Qx hm (rfl) (fun hm=>?_) (fun hm=>?_)
 ·refine Qo (Qd (Qw (Qd (R_G (Qb 2 ?_)))))
  refine Q3 3 QD.toD hm rfl (fun _=>rfl) (fun v603 hm=>?_)
  refine Qb 3 ?_
  refine ZD rfl (fun _=>QcH (a:=v603.name) (b:=p1) rfl (by kernel_rfl) (by kernel_rfl)) ?_
  refine Qe ?_
  refine Qx hm (rfl) (fun hm=>?_) (fun hm=>?_)
  ·refine Qd (R_G (Qb 2 ?_))
   refine Q3 3 QD.toD hm rfl (fun _=>rfl) (fun v604 hm=>?_)
   refine Qb 4 (Qe (Qr ?_))
   obtain rfl:=Qu hm
   exact ⟨rfl,Qm⟩
  refine Qo (R_G (Qb 3 (Qe ?_)))
  exact Qbl _ _ hm _ (by kernel_rfl)
 refine Q8 ?_
 obtain rfl:=Qu hm
 exact ⟨rfl,Qm⟩
def Qa3 (x:((List QD) × ByteArray)):Option (QM × Bool) :=
 match x with
 | (p0,p1) =>
 (
 Xu (p0,p1,0)>>=fun (out:((List Int) × (List Int)) ⊕ Unit) =>
 match out with
 | .inl (v601,v602) =>
  some ((⟨v601,v602⟩:QM),true)
 | .inr (_) =>
  some ((⟨([]:(List Int)),([]:(List Int))⟩:QM),false)
 )
def Qe8:((List QD) × ByteArray)→(QM × Bool)→Prop:=fun x r=>match x,r with
 | (p0,p1),(r0,r1)=>∀ H,PC prog env 66 ([(.lst ((List.map QD.toD) p0)),(strD p1)].map .dat) H (.tup [(.dat (QM.toD r0)),(Qs r1)]) H
theorem Qfh:∀ x r,Qa3 x=some r→Qe8 x r:=by
 intro x r hm
 unfold Qa3 at hm
 unfold Qe8
 obtain ⟨p0,p1⟩:=x
 obtain ⟨r0,r1⟩:=r
 intro H
 refine PC_sx (ds:=[(.lst ((List.map QD.toD) p0)),(strD p1)]) (fn:=f66) rfl ?_
 refine Qd (R_G (Qb 2 (Qe (Qd (Qd (R_G (Qb 1 (Qe (Qw ?_)))))))))
 obtain ⟨out,hs,hm⟩:=Qg hm
 refine Ze ?_
 rcases out with ⟨v601,v602⟩|_
 ·refine RL_use (Qbl _ _ hs) (by kernel_rfl) ?_
  clear hs
  intro e s hp
  obtain ⟨rfl,d,rfl⟩:=hp
  obtain ⟨rfl,rfl⟩:=QU hm
  exact ⟨trivial,Qk⟩
 ·refine RL_use (Qbl _ _ hs) (by kernel_rfl) ?_
  clear hs
  intro e s hp
  obtain ⟨rfl,d,rfl⟩:=hp
  refine Qd (R_G (Qb 3 (Qe (Qr ?_))))
  obtain ⟨rfl,rfl⟩:=QU hm
  exact ⟨trivial,Qk⟩
def Yt (x:((List Qq) × Qq × Int × Int)):Option (Int) :=
 match x with
 | (p0,p1,v201,v202) =>
 if v202 < (p0.length:Int) then
  (if p1.name≠ByteArray.empty then
   idx p0 v202>>=fun v603 =>
   some (decide (v603.name=p1.name))
  else
  some false
  )>>=fun (v602:Bool) =>
  if v602=true then
   Yt (p0,p1,v202,(W (v202+1)))
  else
  Yt (p0,p1,v201,(W (v202+1)))
 else
 some v201
 partial_fixpoint
def Qdf:((List Qq) × Qq × Int × Int)→Int→Prop:=fun x r=>match x with
 | (p0,p1,v201,v202)=>∀ st,prune 2 ((Qy (QN [1,1,0,1,0,0] (QP f67))).bind (env.hint 67).keepAt) st=⟨kp 46 [(0,(.dat (.lst ((List.map Qq.toD) p0)))),(3,(.ptr 0 0)),(4,(.ptr 1 0)),(6,(Qc v201)),(7,(Qc v202))],[(.box [(.dat (strD p1.name)),(.dat (.lst ((List.map Qa) p1.value.shape))),(.dat (.lst ((List.map Qa) p1.value.data)))]),(.box [(Qc 0),(.dat (.lst ((List.map Qa) []))),(Qc 0),(.dat (.lst ((List.map Qa) []))),(Qc 0),(Qc 0),(.dat (.lst ((List.map Qa) []))),(.dat (.lst (Qh.toDs [])))])]⟩ →
  RL prog env (env.hint 67) true (QN [1,1,0,1,0,0] (QP f67)) 2 st (fun e s=>match r with|v601=>e=.exit 0∧∃ d,s=⟨sl d 46 [(0,(.dat (.lst ((List.map Qq.toD) p0)))),(3,(.ptr 0 0)),(4,(.ptr 1 0)),(6,(Qc v601))],[(.box [(.dat (strD p1.name)),(.dat (.lst ((List.map Qa) p1.value.shape))),(.dat (.lst ((List.map Qa) p1.value.data)))]),(.box [(Qc 0),(.dat (.lst ((List.map Qa) []))),(Qc 0),(.dat (.lst ((List.map Qa) []))),(Qc 0),(Qc 0),(.dat (.lst ((List.map Qa) []))),(.dat (.lst (Qh.toDs [])))])]⟩)
theorem QaX:∀ x r,Yt x=some r→Qdf x r:=by
 refine Yt.partial_correctness _ (fun Yt QaX x r hm=>?_)
 unfold Qdf
 obtain ⟨p0,p1,v201,v202⟩:=x
 intro st hst
 refine RL_at hst ?_
 clear hst
 refine Qd (Qd (R_G (Qb 2 ?_)))
 refine QO Qq.toD p0 (es:=(List.map Qq.toD) p0) rfl ?_
 refine Qb 1 (Qe ?_)
 refine Qx hm (rfl) (fun hm=>?_) (fun hm=>?_)
 ·refine Qo (Qd (Qw (Qd ?_)))
  obtain ⟨v602,hs,hm⟩:=Qg hm
  refine Zy (fun d=>⟨sl d 46 [(0,(.dat (.lst ((List.map Qq.toD) p0)))),(3,(.ptr 0 0)),(4,(.ptr 1 0)),(6,(Qc v201)),(7,(Qc v202)),(28,(Qs v602))],[(.box [(.dat (strD p1.name)),(.dat (.lst ((List.map Qa) p1.value.shape))),(.dat (.lst ((List.map Qa) p1.value.data)))]),(.box [(Qc 0),(.dat (.lst ((List.map Qa) []))),(Qc 0),(.dat (.lst ((List.map Qa) []))),(Qc 0),(Qc 0),(.dat (.lst ((List.map Qa) []))),(.dat (.lst (Qh.toDs [])))])]⟩) ?_ (fun d=>?_)
  ·replace hm:=hs
   clear hs
   refine QaK ?_
   refine Qb 2 ?_
   refine ZD rfl (fun _=>Qfn (a:=p1.name) (b:=ByteArray.empty) rfl (by kernel_rfl) (by kernel_rfl)) ?_
   refine Qb 1 ?_
   refine QA 19 hm (rfl) (fun hm=>?_) (fun hm=>?_)
   ·refine Qb 2 ?_
    refine Q3 3 Qq.toD hm rfl (fun _=>rfl) (fun v603 hm=>?_)
    refine Qb 4 ?_
    refine ZD rfl (fun _=>QcH (a:=v603.name) (b:=p1.name) rfl (by kernel_rfl) (by kernel_rfl)) ?_
    refine Qb 1 ?_
    refine Qe ⟨by kernel_rfl,?_⟩
    obtain rfl:=Qu hm
    exact Qm
   refine Qb 9 ?_
   refine Qe ⟨by kernel_rfl,?_⟩
   obtain rfl:=Qu hm
   exact Qm
  clear hs
  refine Qx hm (QH _) (fun hm=>?_) (fun hm=>?_)
  ·refine R_G (Qb 2 (Qe (R_G (Qb 3 (Qe ?_)))))
   exact QaX _ _ hm _ (by kernel_rfl)
  refine Qo (R_G (Qb 3 (Qe ?_)))
  exact QaX _ _ hm _ (by kernel_rfl)
 refine Q8 ?_
 obtain rfl:=Qu hm
 exact ⟨rfl,Qm⟩
def Qav (x:((List Qq) × Qq)):Option (Qh × (List Qq)) :=
 match x with
 | (p0,p1) =>
 Yt (p0,p1,(p0.length:Int),0)>>=fun (v601:Int) =>
 if v601=(p0.length:Int) then
  app 64 ([]:List Qq) p0>>=fun v604 =>
  app 64 v604 ([p1]:List Qq)>>=fun v605 =>
  some ((⟨1,p1.value.shape,v601,([]:(List Int)),0,0,([]:(List Int)),([]:(List Qh))⟩:Qh),v605)
 else
 some ((⟨1,p1.value.shape,v601,([]:(List Int)),0,0,([]:(List Int)),([]:(List Qh))⟩:Qh),p0)
def QeK:((List Qq) × Qq)→(Qh × (List Qq))→Prop:=fun x r=>match x,r with
 | (p0,p1),(r0,r1)=>∀ H,PC prog env 67 ([(.lst ((List.map Qq.toD) p0)),(Qq.toD p1)].map .dat) H (.tup [(.dat (Qh.ex r0)),(.dat (.lst ((List.map Qq.toD) r1)))]) H
theorem QeW:∀ x r,Qav x=some r→QeK x r:=by
 intro x r hm
 unfold Qav at hm
 unfold QeK
 obtain ⟨p0,p1⟩:=x
 obtain ⟨r0,r1⟩:=r
 intro H
 refine PC_sx (ds:=[(.lst ((List.map Qq.toD) p0)),(Qq.toD p1)]) (fn:=f67) rfl ?_
 refine Qd (R_G (Qb 3 (Qe (Qd (R_G (Qb 1 ?_))))))
 refine QO Qq.toD p0 (es:=(List.map Qq.toD) p0) rfl ?_
 refine Qb 1 (Qe (Qd (Qd (R_G (Qb 1 (Qe (Qw ?_)))))))
 obtain ⟨v601,hs,hm⟩:=Qg hm
 refine Ze ?_
 refine RL_use (QaX _ _ hs) (by kernel_rfl) ?_
 clear hs
 intro e s hp
 obtain ⟨rfl,d,rfl⟩:=hp
 refine Qd (Qd (R_G (Qb 2 ?_)))
 refine QO Qq.toD p0 (es:=(List.map Qq.toD) p0) rfl ?_
 refine Qb 1 (Qe ?_)
 refine Qx hm (Q1 _ _) (fun hm=>?_) (fun hm=>?_)
 ·refine QaK ?_
  refine Qb 2 ?_
  obtain ⟨v604,hx,hm⟩:=Qg hm
  refine X8 131 3 64 2 Qq.toD ([]:List Qq) p0 v604 (xs:=(List.map Qq.toD) ([]:List Qq)) (es:=(List.map Qq.toD) p0) (L:=(List.map Qq.toD)) (fun _=>rfl) rfl rfl Qq.fit hx ?_
  refine Qb 2 ?_
  obtain ⟨v605,hx,hm⟩:=Qg hm
  refine X8 131 3 64 2 Qq.toD v604 ([p1]:List Qq) v605 (xs:=(List.map Qq.toD) v604) (es:=(List.map Qq.toD) ([p1]:List Qq)) (L:=(List.map Qq.toD)) (fun _=>rfl) rfl rfl Qq.fit hx ?_
  refine Qb 1 ?_
  refine Qe ⟨by kernel_rfl,?_⟩
  refine Qd (R_G (Qb 8 (Qe (Qr ?_))))
  obtain ⟨rfl,rfl⟩:=QU hm
  exact ⟨trivial,Qk⟩
 refine Qo (Qd (R_G (Qb 8 (Qe (Qr ?_)))))
 obtain ⟨rfl,rfl⟩:=QU hm
 exact ⟨trivial,Qk⟩
def Qau (x:((List QD) × (List Qq) × Qf)):Option (Qh × (List Qq) × Int) :=
 match x with
 | (p0,p1,p2) =>
 if p2.kind=2 then
  Qa3 (p0,p2.name)>>=fun ((v1,v2):(QM × Bool)) =>
  if v2=false then
   some ((⟨0,([]:(List Int)),0,([]:(List Int)),0,0,([]:(List Int)),([]:(List Qh))⟩:Qh),([]:(List Qq)),2)
  else
  Qav (p1,(⟨p2.name,(⟨v1.shape,v1.data⟩:QM)⟩:Qq))>>=fun ((v3,v4):(Qh × (List Qq))) =>
  some (v3,v4,0)
 else
 (if (p2.nums.length:Int)≠1 then
  some ([(p2.nums.length:Int)]:List Int)
 else
 some ([]:List Int)
 )>>=fun (v5:(List Int)) =>
 if (p2.nums.length:Int) > 65536 then
  some ((⟨0,([]:(List Int)),0,([]:(List Int)),0,0,([]:(List Int)),([]:(List Qh))⟩:Qh),([]:(List Qq)),7)
 else
 Qav (p1,(⟨p2.name,(⟨v5,p2.nums⟩:QM)⟩:Qq))>>=fun ((v6,v7):(Qh × (List Qq))) =>
 some (v6,v7,0)
def QeJ:((List QD) × (List Qq) × Qf)→(Qh × (List Qq) × Int)→Prop:=fun x r=>match x,r with
 | (p0,p1,p2),(r0,r1,r2)=>∀ H,PC prog env 36 ([(.lst ((List.map QD.toD) p0)),(.lst ((List.map Qq.toD) p1)),(Qf.ex p2)].map .dat) H (.tup [(.dat (Qh.ex r0)),(.dat (.lst ((List.map Qq.toD) r1))),(Qc r2)]) H
theorem QfV:∀ x r,Qau x=some r→QeJ x r:=by
 intro x r hm
 unfold Qau at hm
 unfold QeJ
 obtain ⟨p0,p1,p2⟩:=x
 obtain ⟨r0,r1,r2⟩:=r
 intro H
 refine PC_sx (ds:=[(.lst ((List.map QD.toD) p0)),(.lst ((List.map Qq.toD) p1)),(Qf.ex p2)]) (fn:=f36) rfl ?_
 refine Qd (R_G (Qb 4 (Qe (Qd (R_G (Qb 5 (Qe (Qd (Qd (R_G (Qb 3 ?_)))))))))))
 refine Qe ?_
 refine Qx hm (Q1 _ _) (fun hm=>?_) (fun hm=>?_)
 ·refine Qd (R_G (Qb 3 ?_))
  obtain ⟨⟨v1,v2⟩,hx,hm⟩:=Qg hm
  have hq:=Qfh _ _ hx []
  refine Qp hq ?_
  refine Qb 6 (Qe (Qd (Qd (R_G (Qb 2 (Qe ?_))))))
  refine Qx hm (QaT _) (fun hm=>?_) (fun hm=>?_)
  ·refine Qd (R_G (Qb 4 (Qe (Qr ?_))))
   obtain ⟨rfl,rfl,rfl⟩:=QfE hm
   exact ⟨trivial,Qk⟩
  refine Qo (R_G (Qb 3 (Qe (Qd (R_G (Qb 2 ?_))))))
  obtain ⟨⟨v3,v4⟩,hx,hm⟩:=Qg hm
  have hq:=QeW _ _ hx []
  refine Qp hq ?_
  refine Qb 6 (Qe (Qd (R_G (Qb 5 (Qe (Qr ?_))))))
  obtain ⟨rfl,rfl,rfl⟩:=QfE hm
  exact ⟨trivial,Qk⟩
 refine Qd (R_G (Qb 5 (Qe (Qd (Qd (R_G (Qb 2 ?_)))))))
 refine QO Qa p2.nums (es:=(List.map Qa) p2.nums) rfl ?_
 refine Qb 1 (Qe ?_)
 obtain ⟨v5,hs,hm⟩:=Qg hm
 refine Zy (fun d=>⟨sl d 59 [(1,(.dat (.lst ((List.map Qq.toD) p1)))),(5,(.ptr 0 0)),(6,(.ptr 1 0)),(9,(.ptr 2 0))],[(.box [(Qc p2.kind),(Qc p2.fn),(Qc p2.axis),(.dat (strD p2.name)),(.dat (.lst ((List.map Qa) p2.nums))),(.dat (.lst (Qf.toDs p2.kids)))]),(.box [(Qc 0),(.dat (.lst ((List.map Qa) []))),(Qc 0),(.dat (.lst ((List.map Qa) []))),(Qc 0),(Qc 0),(.dat (.lst ((List.map Qa) []))),(.dat (.lst (Qh.toDs [])))]),(.box [(.dat (strD p2.name)),(.dat (.lst ((List.map Qa) v5))),(.dat (.lst ((List.map Qa) p2.nums)))])]⟩) ?_ (fun d=>?_)
 ·replace hm:=hs
  clear hs
  refine Qx hm (ne_dec _ _) (fun hm=>?_) (fun hm=>?_)
  ·refine R_G (Qb 2 ?_)
   refine QO Qa p2.nums (es:=(List.map Qa) p2.nums) rfl ?_
   refine Qb 4 (Qe ?_)
   obtain rfl:=Qu hm
   exact Qm
  refine Qo ?_
  obtain rfl:=Qu hm
  exact Qm
 clear hs
 refine Qd (R_G (Qb 2 ?_))
 refine QO Qa p2.nums (es:=(List.map Qa) p2.nums) rfl ?_
 refine Qb 1 (Qe ?_)
 refine Qx hm (rfl) (fun hm=>?_) (fun hm=>?_)
 ·refine Qd (R_G (Qb 4 (Qe (Qr ?_))))
  obtain ⟨rfl,rfl,rfl⟩:=QfE hm
  exact ⟨trivial,Qk⟩
 refine Qo (Qd (R_G (Qb 2 ?_)))
 obtain ⟨⟨v6,v7⟩,hx,hm⟩:=Qg hm
 have hq:=QeW _ _ hx []
 refine Qp hq ?_
 refine Qb 6 (Qe (Qd (R_G (Qb 5 (Qe (Qr ?_))))))
 obtain ⟨rfl,rfl,rfl⟩:=QfE hm
 exact ⟨trivial,Qk⟩
def Ju (x:((List QD) × Qf)):Option (QR × Int) :=
 match x with
 | (p0,p1) =>
 if p1.kind=1 then
  some ((⟨p1.nums,((p1.nums.length:Int) == 1)⟩:QR),0)
 else
 Qa3 (p0,p1.name)>>=fun ((v1,v2):(QM × Bool)) =>
 if v2=false then
  some ((⟨([]:(List Int)),false⟩:QR),2)
 else
 if (v1.shape.length:Int) > 1 then
  some ((⟨([]:(List Int)),false⟩:QR),4)
 else
 some ((⟨v1.data,((v1.shape.length:Int) == 0)⟩:QR),0)
def QeD:((List QD) × Qf)→(QR × Int)→Prop:=fun x r=>match x,r with
 | (p0,p1),(r0,r1)=>∀ H,PC prog env 68 ([(.lst ((List.map QD.toD) p0)),(Qf.ex p1)].map .dat) H (.tup [(.dat (QR.toD r0)),(Qc r1)]) H
theorem QfT:∀ x r,Ju x=some r→QeD x r:=by
 intro x r hm
 unfold Ju at hm
 unfold QeD
 obtain ⟨p0,p1⟩:=x
 obtain ⟨r0,r1⟩:=r
 intro H
 refine PC_sx (ds:=[(.lst ((List.map QD.toD) p0)),(Qf.ex p1)]) (fn:=f68) rfl ?_
 refine Qd (R_G (Qb 3 (Qe (Qd (Qd (R_G (Qb 3 (Qe ?_))))))))
 refine Qx hm (Q1 _ _) (fun hm=>?_) (fun hm=>?_)
 ·refine Qd (R_G (Qb 4 ?_))
  refine QO Qa p1.nums (es:=(List.map Qa) p1.nums) rfl ?_
  refine Qb 4 (Qe (Qr ?_))
  obtain ⟨rfl,rfl⟩:=QU hm
  exact ⟨trivial,Qk⟩
 refine Qo (Qd (R_G (Qb 3 ?_)))
 obtain ⟨⟨v1,v2⟩,hx,hm⟩:=Qg hm
 have hq:=Qfh _ _ hx []
 refine Qp hq ?_
 refine Qb 6 (Qe (Qd (Qd (R_G (Qb 2 (Qe ?_))))))
 refine Qx hm (QaT _) (fun hm=>?_) (fun hm=>?_)
 ·refine Qd (R_G (Qb 3 (Qe (Qr ?_))))
  obtain ⟨rfl,rfl⟩:=QU hm
  exact ⟨trivial,Qk⟩
 refine Qo (Qd (Qd (R_G (Qb 2 ?_))))
 refine QO Qa v1.shape (es:=(List.map Qa) v1.shape) rfl ?_
 refine Qb 1 (Qe ?_)
 refine Qx hm (rfl) (fun hm=>?_) (fun hm=>?_)
 ·refine Qd (R_G (Qb 3 (Qe (Qr ?_))))
  obtain ⟨rfl,rfl⟩:=QU hm
  exact ⟨trivial,Qk⟩
 refine Qo (Qd (R_G (Qb 4 ?_)))
 refine QO Qa v1.shape (es:=(List.map Qa) v1.shape) rfl ?_
 refine Qb 4 (Qe (Qr ?_))
 obtain ⟨rfl,rfl⟩:=QU hm
 exact ⟨trivial,Qk⟩
def YH (x:(Int × (List Int) × Int)):Option ((List Int)) :=
 match x with
 | (p1,v201,v202) =>
 if v202 < p1 then
  app 8 v201 ([1]:List Int)>>=fun v602 =>
  YH (p1,v602,(W (v202+1)))
 else
 some v201
 partial_fixpoint
def Qde:(Int × (List Int) × Int)→(List Int)→Prop:=fun x r=>match x with
 | (p1,v201,v202)=>∀ st,prune 1 ((Qy (QN [1,1,1,0,1,0,0] (QP f109))).bind (env.hint 109).keepAt) st=⟨kp 20 [(1,(Qc p1)),(5,(.vec 0 ((List.map Qa) v201))),(6,(Qc v202))],[(.tok 3 v201.length)]⟩ →
  RL prog env (env.hint 109) true (QN [1,1,1,0,1,0,0] (QP f109)) 1 st (fun e s=>match r with|v601=>e=.exit 0∧∃ d,s=⟨sl d 20 [(5,(.vec 0 ((List.map Qa) v601)))],[(.tok 3 v601.length)]⟩)
theorem QbL:∀ x r,YH x=some r→Qde x r:=by
 refine YH.partial_correctness _ (fun YH QbL x r hm=>?_)
 unfold Qde
 obtain ⟨p1,v201,v202⟩:=x
 intro st hst
 refine RL_at hst ?_
 clear hst
 refine Qd (Qd (R_G (Qb 3 (Qe ?_))))
 refine Qx hm (rfl) (fun hm=>?_) (fun hm=>?_)
 ·refine Qo (Qd (Qw (R_G (Qb 2 ?_))))
  obtain ⟨v602,hx,hm⟩:=Qg hm
  refine X8 3 1 8 0 Qa v201 ([1]:List Int) v602 (xs:=(List.map Qa) v201) (es:=(List.map Qa) ([1]:List Int)) (L:=(List.map Qa)) (fun _=>rfl) rfl rfl (fun _=>rfl) hx ?_
  refine Qb 1 (Qe (R_G (Qb 3 (Qe ?_))))
  exact QbL _ _ hm _ (by kernel_rfl)
 refine Q8 ?_
 obtain rfl:=Qu hm
 exact ⟨rfl,Qm⟩
def Qat (x:((List Int) × Int)):Option (List Int) :=
 match x with
 | (p0,p1) =>
 if (p0.length:Int) > 0 then
  some p0
 else
 YH (p1,([]:List Int),0)>>=fun (v601:(List Int)) =>
 some v601
def QeH:((List Int) × Int)→(List Int)→Prop:=fun x r=>match x,r with
 | (p0,p1),r0=>∀ H,PC prog env 109 ([(.lst ((List.map Qa) p0)),(Qa p1)].map .dat) H (.dat (.lst ((List.map Qa) r0))) H
theorem QeV:∀ x r,Qat x=some r→QeH x r:=by
 intro x r0 hm
 unfold Qat at hm
 unfold QeH
 obtain ⟨p0,p1⟩:=x
 intro H
 refine PC_sx (ds:=[(.lst ((List.map Qa) p0)),(Qa p1)]) (fn:=f109) rfl ?_
 refine Qd (R_G (Qb 1 (Qe (Qd (Qd (R_G (Qb 1 ?_)))))))
 refine QO Qa p0 (es:=(List.map Qa) p0) rfl ?_
 refine Qb 1 (Qe ?_)
 refine Qx hm (rfl) (fun hm=>?_) (fun hm=>?_)
 ·refine Qd (R_G (Qb 2 (Qe (Qr ?_))))
  obtain rfl:=Qu hm
  exact ⟨trivial,Qk⟩
 refine Qo (Qd (R_G (Qb 1 (Qe (Qd (Qd (R_G (Qb 1 (Qe (Qw ?_))))))))))
 obtain ⟨v601,hs,hm⟩:=Qg hm
 refine Ze ?_
 refine RL_use (QbL _ _ hs) (by kernel_rfl) ?_
 clear hs
 intro e s hp
 obtain ⟨rfl,d,rfl⟩:=hp
 refine Qd (R_G (Qb 2 (Qe (Qr ?_))))
 obtain rfl:=Qu hm
 exact ⟨trivial,Qk⟩
def XJ (x:Int):Option (Int × Int) :=
 match x with
 | p0 =>
 (if p0 > 65536 then
  some true
 else
 some (decide (p0 < (-65536)))
 )>>=fun (v1:Bool) =>
 if v1=true then
  some (0,7)
 else
 if p0 < 0 then
  some ((W (0 - p0)),0)
 else
 some (p0,0)
def Qck:Int→(Int × Int)→Prop:=fun x r=>match x,r with
 | p0,(r0,r1)=>∀ H,PC prog env 110 ([(Qa p0)].map .dat) H (.tup [(Qc r0),(Qc r1)]) H
theorem QeR:∀ x r,XJ x=some r→Qck x r:=by
 intro p0 r hm
 unfold XJ at hm
 unfold Qck
 obtain ⟨r0,r1⟩:=r
 intro H
 refine PC_sx (ds:=[(Qa p0)]) (fn:=f110) rfl ?_
 refine Qd (R_G (Qb 2 (Qe (Qd (Qd ?_)))))
 obtain ⟨v1,hs,hm⟩:=Qg hm
 refine Zy (fun d=>⟨sl d 15 [(0,(Qc p0)),(9,(Qs v1))],[]⟩) ?_ (fun d=>?_)
 ·replace hm:=hs
  clear hs
  refine R_G (Qb 3 ?_)
  refine QA 6 hm (rfl) (fun hm=>?_) (fun hm=>?_)
  ·refine Qb 3 (Qe ?_)
   obtain rfl:=Qu hm
   exact Qm
  refine Qb 3 (Qe ?_)
  obtain rfl:=Qu hm
  exact Qm
 clear hs
 refine Qx hm (QH _) (fun hm=>?_) (fun hm=>?_)
 ·refine Qd (R_G (Qb 2 (Qe (Qr ?_))))
  obtain ⟨rfl,rfl⟩:=QU hm
  exact ⟨trivial,Qk⟩
 refine Qo (Qd (Qd (R_G (Qb 2 (Qe ?_)))))
 refine Qx hm (rfl) (fun hm=>?_) (fun hm=>?_)
 ·refine Qd (R_G (Qb 4 (Qe (Qr ?_))))
  obtain ⟨rfl,rfl⟩:=QU hm
  exact ⟨trivial,Qk⟩
 refine Qo (Qd (R_G (Qb 3 (Qe (Qr ?_)))))
 obtain ⟨rfl,rfl⟩:=QU hm
 exact ⟨trivial,Qk⟩
end Go.Proofs.Tryz
