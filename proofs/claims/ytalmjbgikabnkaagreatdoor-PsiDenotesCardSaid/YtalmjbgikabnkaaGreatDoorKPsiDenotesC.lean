/-
 Models of functions, their walks, and plain laws.
-/
import Derived.Test.YtalmjbgikabnkaaGreatDoorKPsiDenotesB
namespace Go.Proofs.Tryz
open Go Go.Pm
set_option linter.unusedVariables false
set_option maxHeartbeats 2000000
set_option maxRecDepth 2000
def Q5 (x:((List Int) × (List Int) × Int × (List Int) × Int × Int × Int × (List Int) × (List Qi) × (List Int) × Int)):Option ((List Int)) :=
 match x with
 | (q3,q8,q0,q1,q2,q4,q5,q6,q7,v201,v202) =>
 if v202 < (q3.length:Int) then
  idx q3 v202>>=fun v602 =>
  Zo (v201.length=q8.length)>>=fun (_:Unit) =>
  idx v201 v202>>=fun v603 =>
  idx v201 v202>>=fun v605 =>
  Zo (v201.length=q8.length)>>=fun (_:Unit) =>
  idx v201 v202>>=fun v606 =>
  setM v201 v202 (W (v605+v602))>>=fun v608 =>
  Q5 (q3,q8,q0,q1,q2,q4,q5,q6,q7,v608,(W (v202+1)))
 else
 some v201
 partial_fixpoint
def Jz:((List Int) × (List Int) × Int × (List Int) × Int × Int × Int × (List Int) × (List Qi) × (List Int) × Int)→(List Int)→Prop:=fun x r=>match x with
 | (q3,q8,q0,q1,q2,q4,q5,q6,q7,v201,v202)=>∀ st,prune 3 ((Qw (QD [1,0,1,0,0] (QE f150))).bind (env.hint 150).keepAt) st=⟨kp 34 [(1,(.ms 1 1 0 q8.length q8.length)),(2,(.ptr 2 0)),(10,(.dat (.lst ((List.map Qc) q3)))),(11,(Qd (q3.length:Int))),(12,(Qd v202))],[(.box [(Qd q0),(.dat (.lst ((List.map Qc) q1))),(Qd q2),(.dat (.lst ((List.map Qc) q3))),(Qd q4),(Qd q5),(.dat (.lst ((List.map Qc) q6))),(.dat (.lst (Qi.toDs q7)))]),(.mt 3 1 (cellsOf Qc v201)),(.box [(Qd q0),(.dat (.lst ((List.map Qc) q1))),(Qd q2),(.dat (.lst ((List.map Qc) q3))),(Qd q4),(Qd q5),(.dat (.lst ((List.map Qc) q6))),(.dat (.lst (Qi.toDs q7)))])]⟩ →
  RL prog env (env.hint 150) true (QD [1,0,1,0,0] (QE f150)) 3 st (fun e s=>match r with|v601=>e=.exit 0∧∃ d,s=⟨sl d 34 [(1,(.ms 1 1 0 q8.length q8.length)),(2,(.ptr 2 0))],[(.box [(Qd q0),(.dat (.lst ((List.map Qc) q1))),(Qd q2),(.dat (.lst ((List.map Qc) q3))),(Qd q4),(Qd q5),(.dat (.lst ((List.map Qc) q6))),(.dat (.lst (Qi.toDs q7)))]),(.mt 3 1 (cellsOf Qc v601)),(.box [(Qd q0),(.dat (.lst ((List.map Qc) q1))),(Qd q2),(.dat (.lst ((List.map Qc) q3))),(Qd q4),(Qd q5),(.dat (.lst ((List.map Qc) q6))),(.dat (.lst (Qi.toDs q7)))])]⟩)
theorem Xj:∀ x r,Q5 x=some r→Jz x r:=by
 refine Q5.partial_correctness _ (fun Q5 Xj x r hm=>?_)
 unfold Jz
 obtain ⟨q3,q8,q0,q1,q2,q4,q5,q6,q7,v201,v202⟩:=x
 intro st hst
 refine RL_at hst ?_
 clear hst
 refine Qe (R_G (Qb 1 (Qg (Qe ?_))))
 refine Qx hm (rfl) (fun hm=>?_) (fun hm=>?_)
 ·refine Qs (Qe (Qz (Qe (R_G (Qb 1 ?_)))))
  refine QF 1 Qc hm rfl (fun _=>rfl) (fun v602 hm=>?_)
  refine Qb 3 (Qg (R_G (Qb 2 ?_)))
  obtain ⟨_,hl604,hm⟩:=Qf hm
  replace hl604:=Q3 hl604
  obtain ⟨v603,hx,hm⟩:=Qf hm
  refine QL rfl (fun _=>Q6 (e:=3) (n:=v202) (j:=(v202).toNat) (tt:=1) (g:=1) (lo:=0) (len:=q8.length) (cap:=q8.length) (k:=.i64) (by kernel_rfl) (by kernel_rfl) rfl (by kernel_rfl) (by kernel_rfl) (idx_nat hx) (Nat.lt_of_lt_of_eq (idx_lt hx) hl604)) ?_
  obtain ⟨v605,hx,hm⟩:=Qf hm
  refine QL rfl (fun _=>Y4 (tt:=1) (g:=1) (j:=(0+(v202).toNat)) (e:=3) (cs:=cellsOf Qc v201) (v:=.dat (Qc v605)) (by kernel_rfl) (by kernel_rfl) rfl (by kernel_rfl) (Z7 (by kernel_rfl)) (cells_idx Qc hx)) ?_
  refine Qb 2 ?_
  obtain ⟨_,hl607,hm⟩:=Qf hm
  replace hl607:=Q3 hl607
  obtain ⟨v606,hx,hm⟩:=Qf hm
  refine QL rfl (fun _=>Q6 (e:=3) (n:=v202) (j:=(v202).toNat) (tt:=1) (g:=1) (lo:=0) (len:=q8.length) (cap:=q8.length) (k:=.i64) (by kernel_rfl) (by kernel_rfl) rfl (by kernel_rfl) (by kernel_rfl) (idx_nat hx) (Nat.lt_of_lt_of_eq (idx_lt hx) hl607)) ?_
  obtain ⟨v608,hx,hm⟩:=Qf hm
  refine Z5 (fun H=>H.set 1 (.mt 3 1 (cellsOf Qc v608))) rfl (by kernel_rfl) (fun _=>Qbu Qc (l:=v201) (n:=v202) (y:=(W (v605+v602))) hx (fun _=>rfl) (by kernel_rfl) rfl (by kernel_rfl) (by kernel_rfl) (by kernel_rfl) (by kernel_rfl)) ?_
  refine Qg (R_G (Qb 2 (Qg ?_)))
  exact Xj _ _ hm _ (prune_of2 [(.box [(Qd q0),(.dat (.lst ((List.map Qc) q1))),(Qd q2),(.dat (.lst ((List.map Qc) q3))),(Qd q4),(Qd q5),(.dat (.lst ((List.map Qc) q6))),(.dat (.lst (Qi.toDs q7)))]),(.mt 3 1 (cellsOf Qc v608)),(.box [(Qd q0),(.dat (.lst ((List.map Qc) q1))),(Qd q2),(.dat (.lst ((List.map Qc) q3))),(Qd q4),(Qd q5),(.dat (.lst ((List.map Qc) q6))),(.dat (.lst (Qi.toDs q7)))])] (fun _=>(pg_cons (by kernel_rfl) (pg_cons (purge_mt Qc _ _ _ _ _) (pg_cons (by kernel_rfl) pg_nil)))) rfl)
 refine QP ?_
 obtain rfl:=Qq hm
 exact ⟨rfl,Qm⟩
def YY (x:(Int × (List Int) × Int × (List Int) × Int × Int × (List Int) × (List Qi) × (List Int))):Option ((List Int) ⊕ (List Int)) :=
 match x with
 | (q0,q1,q2,q3,q4,q5,q6,q7,q8) =>
 Q5 (q3,q8,q0,q1,q2,q4,q5,q6,q7,q8,0)>>=fun (v601:(List Int)) =>
 idx q7 0>>=fun v609 =>
 Zo (v601.length=q8.length)>>=fun (_:Unit) =>
 Xe (v609.shape,v601)>>=fun (v611:Bool) =>
 if v611=false then
  some (Sum.inl v601)
 else
 some (Sum.inr v601)
def YX:(Int × (List Int) × Int × (List Int) × Int × Int × (List Int) × (List Qi) × (List Int))→((List Int) ⊕ (List Int))→Prop:=fun x r=>match x with
 | (q0,q1,q2,q3,q4,q5,q6,q7,q8)=>PC prog env 150 [(.dat (.agg [(Qc q0),(.lst ((List.map Qc) q1)),(Qc q2),(.lst ((List.map Qc) q3)),(Qc q4),(Qc q5),(.lst ((List.map Qc) q6)),(.lst (Qi.toDs q7))])),(.ms 1 1 0 q8.length q8.length)] [(.box [(Qd q0),(.dat (.lst ((List.map Qc) q1))),(Qd q2),(.dat (.lst ((List.map Qc) q3))),(Qd q4),(Qd q5),(.dat (.lst ((List.map Qc) q6))),(.dat (.lst (Qi.toDs q7)))]),(.mt 3 1 (cellsOf Qc q8))] (match r with|.inl v5001=>(.tup [(Qd 0),(.dat (.lst ((List.map Qc) []))),(Qp false)])|.inr (v5002)=>(.tup [(Qd 0),(.ms 1 1 0 q8.length q8.length),(Qp true)])) (match r with|.inl v5001=>[(.box [(Qd q0),(.dat (.lst ((List.map Qc) q1))),(Qd q2),(.dat (.lst ((List.map Qc) q3))),(Qd q4),(Qd q5),(.dat (.lst ((List.map Qc) q6))),(.dat (.lst (Qi.toDs q7)))]),(.mt 3 1 (cellsOf Qc v5001)),(.box [(Qd q0),(.dat (.lst ((List.map Qc) q1))),(Qd q2),(.dat (.lst ((List.map Qc) q3))),(Qd q4),(Qd q5),(.dat (.lst ((List.map Qc) q6))),(.dat (.lst (Qi.toDs q7)))])]|.inr (v5002)=>[(.box [(Qd q0),(.dat (.lst ((List.map Qc) q1))),(Qd q2),(.dat (.lst ((List.map Qc) q3))),(Qd q4),(Qd q5),(.dat (.lst ((List.map Qc) q6))),(.dat (.lst (Qi.toDs q7)))]),(.mt 3 1 (cellsOf Qc v5002)),(.box [(Qd q0),(.dat (.lst ((List.map Qc) q1))),(Qd q2),(.dat (.lst ((List.map Qc) q3))),(Qd q4),(Qd q5),(.dat (.lst ((List.map Qc) q6))),(.dat (.lst (Qi.toDs q7)))])])
theorem Qax:∀ x r,YY x=some r→YX x r:=by
 intro x r hm
 unfold YY at hm
 unfold YX
 obtain ⟨q0,q1,q2,q3,q4,q5,q6,q7,q8⟩:=x
 refine PC_sxB (fn:=f150) rfl ?_
 refine Qe (R_G (Qb 4 (Qg (Qe (Qe (R_G (Qb 2 ?_)))))))
 refine QG Qc q3 (es:=(List.map Qc) q3) rfl ?_
 refine Qb 1 (Qg (Qz ?_))
 obtain ⟨v601,hs,hm⟩:=Qf hm
 refine QT ?_
 refine RL_use (Xj _ _ hs) (prune_of2 [(.box [(Qd q0),(.dat (.lst ((List.map Qc) q1))),(Qd q2),(.dat (.lst ((List.map Qc) q3))),(Qd q4),(Qd q5),(.dat (.lst ((List.map Qc) q6))),(.dat (.lst (Qi.toDs q7)))]),(.mt 3 1 (cellsOf Qc q8)),(.box [(Qd q0),(.dat (.lst ((List.map Qc) q1))),(Qd q2),(.dat (.lst ((List.map Qc) q3))),(Qd q4),(Qd q5),(.dat (.lst ((List.map Qc) q6))),(.dat (.lst (Qi.toDs q7)))])] (fun _=>(pg_cons (by kernel_rfl) (pg_cons (purge_mt Qc _ _ _ _ _) (pg_cons (by kernel_rfl) pg_nil)))) rfl) ?_
 clear hs
 intro e s hp
 obtain ⟨rfl,d,rfl⟩:=hp
 refine Qe (Qe (R_G (Qb 2 ?_)))
 obtain ⟨v609,hx,hm⟩:=Qf hm
 refine Y2 8 Qi.toD q7 0 v609 (es:=Qi.toDs q7) (d:=(Qi.ex v609)) (Qi.toDs_eq _) hx (Qi.toD_eq v609) rfl ?_
 refine Qb 3 ?_
 obtain ⟨_,hl610,hm⟩:=Qf hm
 replace hl610:=Q3 hl610
 obtain ⟨v611,hx,hm⟩:=Qf hm
 have hq:=Qbh _ _ hx []
 refine Qci (args:=[(.dat (.lst ((List.map Qc) v609.shape))),(.ms 1 1 0 q8.length q8.length)]) hq (ps_cons (by kernel_rfl) (ps_cons (p1_ms (pc_ms (e:=3) Qc v601 hl610 (fun _=>rfl) (by kernel_rfl))) ps_nil)) ?_
 refine Qb 1 (Qg ?_)
 refine Qx hm (ZL _) (fun hm=>?_) (fun hm=>?_)
 ·refine Qe (R_G (Qb 3 (Qg (Qt ?_))))
  obtain rfl:=Qq hm
  exact ⟨trivial,Xm (by kernel_rfl) (by kernel_rfl)⟩
 refine Qs (Qe (R_G (Qb 4 (Qg (Qt ?_)))))
 obtain rfl:=Qq hm
 exact ⟨trivial,Xm (by kernel_rfl) (by kernel_rfl)⟩
def YK (x:(Int × (List Int) × Int × (List Int) × Int × Int × (List Int) × (List Qi) × (List Int))):Option ((List Int)) :=
 match x with
 | (q0,q1,q2,q3,q4,q5,q6,q7,q8) =>
 idx q1 q4>>=fun v1 =>
 idx q8 q4>>=fun v2 =>
 idx q8 q4>>=fun v3 =>
 idx q8 q4>>=fun v4 =>
 setM q8 q4 (W ((W (v1 - 1)) - v3))>>=fun v5 =>
 some v5
def XL:(Int × (List Int) × Int × (List Int) × Int × Int × (List Int) × (List Qi) × (List Int))→(List Int)→Prop:=fun x r=>match x with
 | (q0,q1,q2,q3,q4,q5,q6,q7,q8)=>PC prog env 152 [(.dat (.agg [(Qc q0),(.lst ((List.map Qc) q1)),(Qc q2),(.lst ((List.map Qc) q3)),(Qc q4),(Qc q5),(.lst ((List.map Qc) q6)),(.lst (Qi.toDs q7))])),(.ms 1 1 0 q8.length q8.length)] [(.box [(Qd q0),(.dat (.lst ((List.map Qc) q1))),(Qd q2),(.dat (.lst ((List.map Qc) q3))),(Qd q4),(Qd q5),(.dat (.lst ((List.map Qc) q6))),(.dat (.lst (Qi.toDs q7)))]),(.mt 3 1 (cellsOf Qc q8))] (match r with|v5001=>(.tup [(Qd 0),(.ms 1 1 0 q8.length q8.length),(Qp true)])) (match r with|v5001=>[(.box [(Qd q0),(.dat (.lst ((List.map Qc) q1))),(Qd q2),(.dat (.lst ((List.map Qc) q3))),(Qd q4),(Qd q5),(.dat (.lst ((List.map Qc) q6))),(.dat (.lst (Qi.toDs q7)))]),(.mt 3 1 (cellsOf Qc v5001)),(.box [(Qd q0),(.dat (.lst ((List.map Qc) q1))),(Qd q2),(.dat (.lst ((List.map Qc) q3))),(Qd q4),(Qd q5),(.dat (.lst ((List.map Qc) q6))),(.dat (.lst (Qi.toDs q7)))])])
theorem Qcu:∀ x r,YK x=some r→XL x r:=by
 intro x r hm
 unfold YK at hm
 unfold XL
 obtain ⟨q0,q1,q2,q3,q4,q5,q6,q7,q8⟩:=x
 refine PC_sxB (fn:=f152) rfl ?_
 refine Qe (R_G (Qb 4 (Qg (Qe ?_))))
 refine YM ?_
 refine Qb 7 ?_
 refine QF 1 Qc hm rfl (fun _=>rfl) (fun v1 hm=>?_)
 refine Qb 5 ?_
 obtain ⟨v2,hx,hm⟩:=Qf hm
 refine QL rfl (fun _=>Q6 (e:=3) (n:=q4) (j:=(q4).toNat) (tt:=1) (g:=1) (lo:=0) (len:=q8.length) (cap:=q8.length) (k:=.i64) (by kernel_rfl) (by kernel_rfl) rfl (by kernel_rfl) (by kernel_rfl) (idx_nat hx) (Nat.lt_of_lt_of_eq (idx_lt hx) rfl)) ?_
 obtain ⟨v3,hx,hm⟩:=Qf hm
 refine QL rfl (fun _=>Y4 (tt:=1) (g:=1) (j:=(0+(q4).toNat)) (e:=3) (cs:=cellsOf Qc q8) (v:=.dat (Qc v3)) (by kernel_rfl) (by kernel_rfl) rfl (by kernel_rfl) (Z7 (by kernel_rfl)) (cells_idx Qc hx)) ?_
 refine Qb 1 ?_
 obtain ⟨v4,hx,hm⟩:=Qf hm
 refine QL rfl (fun _=>Q6 (e:=3) (n:=q4) (j:=(q4).toNat) (tt:=1) (g:=1) (lo:=0) (len:=q8.length) (cap:=q8.length) (k:=.i64) (by kernel_rfl) (by kernel_rfl) rfl (by kernel_rfl) (by kernel_rfl) (idx_nat hx) (Nat.lt_of_lt_of_eq (idx_lt hx) rfl)) ?_
 obtain ⟨v5,hx,hm⟩:=Qf hm
 refine Z5 (fun H=>H.set 1 (.mt 3 1 (cellsOf Qc v5))) rfl (by kernel_rfl) (fun _=>Qbu Qc (l:=q8) (n:=q4) (y:=(W ((W (v1 - 1)) - v3))) hx (fun _=>rfl) (by kernel_rfl) rfl (by kernel_rfl) (by kernel_rfl) (by kernel_rfl) (by kernel_rfl)) ?_
 refine Qg ⟨by kernel_rfl,?_⟩
 refine Qe (R_G (Qb 4 (Qg (Qt ?_))))
 obtain rfl:=Qq hm
 exact ⟨trivial,Xm (by kernel_rfl) (by kernel_rfl)⟩
def Qas (x:(Int × Int)):Option Int :=
 match x with
 | (p0,p1) =>
 if p1≤0 then
  some 0
 else
 remM p0 p1>>=fun v1 =>
 if v1 < 0 then
  some (W (v1+p1))
 else
 some v1
def Qfm:(Int × Int)→Int→Prop:=fun x r=>match x,r with
 | (p0,p1),r0=>∀ H,PC prog env 162 ([(Qc p0),(Qc p1)].map .dat) H (Qd r0) H
theorem Qfi:∀ x r,Qas x=some r→Qfm x r:=by
 intro x r0 hm
 unfold Qas at hm
 unfold Qfm
 obtain ⟨p0,p1⟩:=x
 intro H
 refine PC_sx (ds:=[(Qc p0),(Qc p1)]) (fn:=f162) rfl ?_
 refine Qe (R_G (Qb 1 (Qg (Qe (Qe (R_G (Qb 2 (Qg ?_))))))))
 refine Qx hm (rfl) (fun hm=>?_) (fun hm=>?_)
 ·refine Qe (R_G (Qb 1 (Qg (Qt ?_))))
  obtain rfl:=Qq hm
  exact ⟨trivial,Qk⟩
 refine Qs (Qe (R_G (Qb 2 ?_)))
 obtain ⟨v1,hx,hm⟩:=Qf hm
 refine QL rfl (fun _=>QeG (a:=p0) (b:=p1) hx rfl (by kernel_rfl) (by kernel_rfl)) ?_
 refine Qb 1 (Qg (Qe (Qe (R_G (Qb 2 (Qg ?_))))))
 refine Qx hm (rfl) (fun hm=>?_) (fun hm=>?_)
 ·refine R_G (Qb 4 (Qg (Qe (R_G (Qb 2 (Qg (Qt ?_)))))))
  obtain rfl:=Qq hm
  exact ⟨trivial,Qk⟩
 refine Qs (Qe (R_G (Qb 2 (Qg (Qt ?_)))))
 obtain rfl:=Qq hm
 exact ⟨trivial,Qk⟩
def YW (x:(Int × (List Int) × Int × (List Int) × Int × Int × (List Int) × (List Qi) × (List Int))):Option ((List Int)) :=
 match x with
 | (q0,q1,q2,q3,q4,q5,q6,q7,q8) =>
 idx q8 q4>>=fun v1 =>
 idx q8 q4>>=fun v2 =>
 idx q1 q4>>=fun v3 =>
 Qas ((W (v2+q5)),v3)>>=fun (v4:Int) =>
 idx q8 q4>>=fun v5 =>
 setM q8 q4 v4>>=fun v6 =>
 some v6
def XY:(Int × (List Int) × Int × (List Int) × Int × Int × (List Int) × (List Qi) × (List Int))→(List Int)→Prop:=fun x r=>match x with
 | (q0,q1,q2,q3,q4,q5,q6,q7,q8)=>PC prog env 154 [(.dat (.agg [(Qc q0),(.lst ((List.map Qc) q1)),(Qc q2),(.lst ((List.map Qc) q3)),(Qc q4),(Qc q5),(.lst ((List.map Qc) q6)),(.lst (Qi.toDs q7))])),(.ms 1 1 0 q8.length q8.length)] [(.box [(Qd q0),(.dat (.lst ((List.map Qc) q1))),(Qd q2),(.dat (.lst ((List.map Qc) q3))),(Qd q4),(Qd q5),(.dat (.lst ((List.map Qc) q6))),(.dat (.lst (Qi.toDs q7)))]),(.mt 3 1 (cellsOf Qc q8))] (match r with|v5001=>(.tup [(Qd 0),(.ms 1 1 0 q8.length q8.length),(Qp true)])) (match r with|v5001=>[(.box [(Qd q0),(.dat (.lst ((List.map Qc) q1))),(Qd q2),(.dat (.lst ((List.map Qc) q3))),(Qd q4),(Qd q5),(.dat (.lst ((List.map Qc) q6))),(.dat (.lst (Qi.toDs q7)))]),(.mt 3 1 (cellsOf Qc v5001)),(.box [(Qd q0),(.dat (.lst ((List.map Qc) q1))),(Qd q2),(.dat (.lst ((List.map Qc) q3))),(Qd q4),(Qd q5),(.dat (.lst ((List.map Qc) q6))),(.dat (.lst (Qi.toDs q7)))])])
theorem QcK:∀ x r,YW x=some r→XY x r:=by
 intro x r hm
 unfold YW at hm
 unfold XY
 obtain ⟨q0,q1,q2,q3,q4,q5,q6,q7,q8⟩:=x
 refine PC_sxB (fn:=f154) rfl ?_
 refine Qe (R_G (Qb 4 (Qg (Qe ?_))))
 refine YM ?_
 refine Qb 6 ?_
 obtain ⟨v1,hx,hm⟩:=Qf hm
 refine QL rfl (fun _=>Q6 (e:=3) (n:=q4) (j:=(q4).toNat) (tt:=1) (g:=1) (lo:=0) (len:=q8.length) (cap:=q8.length) (k:=.i64) (by kernel_rfl) (by kernel_rfl) rfl (by kernel_rfl) (by kernel_rfl) (idx_nat hx) (Nat.lt_of_lt_of_eq (idx_lt hx) rfl)) ?_
 obtain ⟨v2,hx,hm⟩:=Qf hm
 refine QL rfl (fun _=>Y4 (tt:=1) (g:=1) (j:=(0+(q4).toNat)) (e:=3) (cs:=cellsOf Qc q8) (v:=.dat (Qc v2)) (by kernel_rfl) (by kernel_rfl) rfl (by kernel_rfl) (Z7 (by kernel_rfl)) (cells_idx Qc hx)) ?_
 refine Qb 7 ?_
 refine QF 1 Qc hm rfl (fun _=>rfl) (fun v3 hm=>?_)
 refine Qb 1 ?_
 obtain ⟨v4,hx,hm⟩:=Qf hm
 have hq:=Qfi _ _ hx []
 refine Qr hq ?_
 obtain ⟨v5,hx,hm⟩:=Qf hm
 refine QL rfl (fun _=>Q6 (e:=3) (n:=q4) (j:=(q4).toNat) (tt:=1) (g:=1) (lo:=0) (len:=q8.length) (cap:=q8.length) (k:=.i64) (by kernel_rfl) (by kernel_rfl) rfl (by kernel_rfl) (by kernel_rfl) (idx_nat hx) (Nat.lt_of_lt_of_eq (idx_lt hx) rfl)) ?_
 obtain ⟨v6,hx,hm⟩:=Qf hm
 refine Z5 (fun H=>H.set 1 (.mt 3 1 (cellsOf Qc v6))) rfl (by kernel_rfl) (fun _=>Qbu Qc (l:=q8) (n:=q4) (y:=v4) hx (fun _=>rfl) (by kernel_rfl) rfl (by kernel_rfl) (by kernel_rfl) (by kernel_rfl) (by kernel_rfl)) ?_
 refine Qg ⟨by kernel_rfl,?_⟩
 refine Qe (R_G (Qb 4 (Qg (Qt ?_))))
 obtain rfl:=Qq hm
 exact ⟨trivial,Xm (by kernel_rfl) (by kernel_rfl)⟩
def QV (x:((List Int) × (List Int) × Int × (List Int) × Int × (List Int) × Int × Int × (List Qi) × (List Int) × Int)):Option ((List Int)) :=
 match x with
 | (q6,q8,q0,q1,q2,q3,q4,q5,q7,v201,v202) =>
 if v202 < (q6.length:Int) then
  idx q6 v202>>=fun v602 =>
  idx q8 v602>>=fun v603 =>
  idx q8 v602>>=fun v604 =>
  app 8 v201 ([v604]:List Int)>>=fun v605 =>
  QV (q6,q8,q0,q1,q2,q3,q4,q5,q7,v605,(W (v202+1)))
 else
 some v201
 partial_fixpoint
def X4:((List Int) × (List Int) × Int × (List Int) × Int × (List Int) × Int × Int × (List Qi) × (List Int) × Int)→(List Int)→Prop:=fun x r=>match x with
 | (q6,q8,q0,q1,q2,q3,q4,q5,q7,v201,v202)=>∀ st,prune 4 ((Qw (QD [1,1,0,1,0,0] (QE f156))).bind (env.hint 156).keepAt) st=⟨kp 26 [(1,(.ms 1 1 0 q8.length q8.length)),(7,(.vec 3 ((List.map Qc) v201))),(11,(.dat (.lst ((List.map Qc) q6)))),(12,(Qd (q6.length:Int))),(13,(Qd v202))],[(.box [(Qd q0),(.dat (.lst ((List.map Qc) q1))),(Qd q2),(.dat (.lst ((List.map Qc) q3))),(Qd q4),(Qd q5),(.dat (.lst ((List.map Qc) q6))),(.dat (.lst (Qi.toDs q7)))]),(.mt 3 1 (cellsOf Qc q8)),(.box [(Qd q0),(.dat (.lst ((List.map Qc) q1))),(Qd q2),(.dat (.lst ((List.map Qc) q3))),(Qd q4),(Qd q5),(.dat (.lst ((List.map Qc) q6))),(.dat (.lst (Qi.toDs q7)))]),(.tok 3 v201.length)]⟩ →
  RL prog env (env.hint 156) true (QD [1,1,0,1,0,0] (QE f156)) 4 st (fun e s=>match r with|v601=>e=.exit 0∧∃ d,s=⟨sl d 26 [(7,(.vec 3 ((List.map Qc) v601)))],[(.box [(Qd q0),(.dat (.lst ((List.map Qc) q1))),(Qd q2),(.dat (.lst ((List.map Qc) q3))),(Qd q4),(Qd q5),(.dat (.lst ((List.map Qc) q6))),(.dat (.lst (Qi.toDs q7)))]),(.mt 3 1 (cellsOf Qc q8)),(.box [(Qd q0),(.dat (.lst ((List.map Qc) q1))),(Qd q2),(.dat (.lst ((List.map Qc) q3))),(Qd q4),(Qd q5),(.dat (.lst ((List.map Qc) q6))),(.dat (.lst (Qi.toDs q7)))]),(.tok 3 v601.length)]⟩)
theorem YO:∀ x r,QV x=some r→X4 x r:=by
 refine QV.partial_correctness _ (fun QV YO x r hm=>?_)
 unfold X4
 obtain ⟨q6,q8,q0,q1,q2,q3,q4,q5,q7,v201,v202⟩:=x
 intro st hst
 refine RL_at hst ?_
 clear hst
 refine Qe (R_G (Qb 1 (Qg (Qe ?_))))
 refine Qx hm (rfl) (fun hm=>?_) (fun hm=>?_)
 ·refine Qs (Qe (Qz (Qe (R_G ?_))))
  refine QF 1 Qc hm rfl (fun _=>rfl) (fun v602 hm=>?_)
  refine Qb 2 (Qg (R_G (Qb 3 ?_)))
  obtain ⟨v603,hx,hm⟩:=Qf hm
  refine QL rfl (fun _=>Q6 (e:=3) (n:=v602) (j:=(v602).toNat) (tt:=1) (g:=1) (lo:=0) (len:=q8.length) (cap:=q8.length) (k:=.i64) (by kernel_rfl) (by kernel_rfl) rfl (by kernel_rfl) (by kernel_rfl) (idx_nat hx) (Nat.lt_of_lt_of_eq (idx_lt hx) rfl)) ?_
  obtain ⟨v604,hx,hm⟩:=Qf hm
  refine QL rfl (fun _=>Y4 (tt:=1) (g:=1) (j:=(0+(v602).toNat)) (e:=3) (cs:=cellsOf Qc q8) (v:=.dat (Qc v604)) (by kernel_rfl) (by kernel_rfl) rfl (by kernel_rfl) (Z7 (by kernel_rfl)) (cells_idx Qc hx)) ?_
  refine Qb 1 ?_
  obtain ⟨v605,hx,hm⟩:=Qf hm
  refine YZ 3 1 8 3 Qc v201 ([v604]:List Int) v605 (xs:=(List.map Qc) v201) (es:=(List.map Qc) ([v604]:List Int)) (L:=(List.map Qc)) (fun _=>rfl) rfl rfl (fun _=>rfl) hx ?_
  refine Qb 1 (Qg (R_G (Qb 2 (Qg ?_))))
  exact YO _ _ hm _ (prune_of2 [(.box [(Qd q0),(.dat (.lst ((List.map Qc) q1))),(Qd q2),(.dat (.lst ((List.map Qc) q3))),(Qd q4),(Qd q5),(.dat (.lst ((List.map Qc) q6))),(.dat (.lst (Qi.toDs q7)))]),(.mt 3 1 (cellsOf Qc q8)),(.box [(Qd q0),(.dat (.lst ((List.map Qc) q1))),(Qd q2),(.dat (.lst ((List.map Qc) q3))),(Qd q4),(Qd q5),(.dat (.lst ((List.map Qc) q6))),(.dat (.lst (Qi.toDs q7)))]),(.tok 3 v605.length)] (fun _=>(pg_cons (by kernel_rfl) (pg_cons (purge_mt Qc _ _ _ _ _) (pg_cons (by kernel_rfl) (pg_cons (by kernel_rfl) pg_nil))))) rfl)
 refine QP ?_
 obtain rfl:=Qq hm
 exact ⟨rfl,Qm⟩
def Yw (x:(Int × (List Int) × Int × (List Int) × Int × Int × (List Int) × (List Qi) × (List Int))):Option ((List Int)) :=
 match x with
 | (q0,q1,q2,q3,q4,q5,q6,q7,q8) =>
 QV (q6,q8,q0,q1,q2,q3,q4,q5,q7,([]:List Int),0)>>=fun (v601:(List Int)) =>
 some v601
def Xh:(Int × (List Int) × Int × (List Int) × Int × Int × (List Int) × (List Qi) × (List Int))→(List Int)→Prop:=fun x r=>match x with
 | (q0,q1,q2,q3,q4,q5,q6,q7,q8)=>PC prog env 156 [(.dat (.agg [(Qc q0),(.lst ((List.map Qc) q1)),(Qc q2),(.lst ((List.map Qc) q3)),(Qc q4),(Qc q5),(.lst ((List.map Qc) q6)),(.lst (Qi.toDs q7))])),(.ms 1 1 0 q8.length q8.length)] [(.box [(Qd q0),(.dat (.lst ((List.map Qc) q1))),(Qd q2),(.dat (.lst ((List.map Qc) q3))),(Qd q4),(Qd q5),(.dat (.lst ((List.map Qc) q6))),(.dat (.lst (Qi.toDs q7)))]),(.mt 3 1 (cellsOf Qc q8))] (match r with|v5001=>(.tup [(Qd 0),(.vec 3 ((List.map Qc) v5001)),(Qp true)])) (match r with|v5001=>[(.box [(Qd q0),(.dat (.lst ((List.map Qc) q1))),(Qd q2),(.dat (.lst ((List.map Qc) q3))),(Qd q4),(Qd q5),(.dat (.lst ((List.map Qc) q6))),(.dat (.lst (Qi.toDs q7)))]),(.mt 3 1 (cellsOf Qc q8)),(.box [(Qd q0),(.dat (.lst ((List.map Qc) q1))),(Qd q2),(.dat (.lst ((List.map Qc) q3))),(Qd q4),(Qd q5),(.dat (.lst ((List.map Qc) q6))),(.dat (.lst (Qi.toDs q7)))]),(.tok 3 v5001.length)])
theorem Qb0:∀ x r,Yw x=some r→Xh x r:=by
 intro x r hm
 unfold Yw at hm
 unfold Xh
 obtain ⟨q0,q1,q2,q3,q4,q5,q6,q7,q8⟩:=x
 refine PC_sxB (fn:=f156) rfl ?_
 refine Qe (R_G (Qb 4 (Qg (Qe (R_G (Qb 1 (Qg (Qe (Qe (R_G (Qb 2 ?_)))))))))))
 refine QG Qc q6 (es:=(List.map Qc) q6) rfl ?_
 refine Qb 1 (Qg (Qz ?_))
 obtain ⟨v601,hs,hm⟩:=Qf hm
 refine QT ?_
 refine RL_use (YO _ _ hs) (prune_of2 [(.box [(Qd q0),(.dat (.lst ((List.map Qc) q1))),(Qd q2),(.dat (.lst ((List.map Qc) q3))),(Qd q4),(Qd q5),(.dat (.lst ((List.map Qc) q6))),(.dat (.lst (Qi.toDs q7)))]),(.mt 3 1 (cellsOf Qc q8)),(.box [(Qd q0),(.dat (.lst ((List.map Qc) q1))),(Qd q2),(.dat (.lst ((List.map Qc) q3))),(Qd q4),(Qd q5),(.dat (.lst ((List.map Qc) q6))),(.dat (.lst (Qi.toDs q7)))]),(.tok 3 (([]:List Int).length))] (fun _=>(pg_cons (by kernel_rfl) (pg_cons (purge_mt Qc _ _ _ _ _) (pg_cons (by kernel_rfl) (pg_cons (by kernel_rfl) pg_nil))))) rfl) ?_
 clear hs
 intro e s hp
 obtain ⟨rfl,d,rfl⟩:=hp
 refine Qe (R_G (Qb 4 (Qg (Qt ?_))))
 obtain rfl:=Qq hm
 exact ⟨trivial,Xm (by kernel_rfl) (by kernel_rfl)⟩
def Ze (x:(Q4 × (List Int) × (List Int) × Int × Int)):Option ((List Int)) :=
 match x with
 | (p0,v1,v202,v203,v204) =>
 if v204 < (p0.strides.length:Int) then
  idx p0.strides v204>>=fun v603 =>
  quoM v203 v603>>=fun v604 =>
  Zo (v202.length=v1.length)>>=fun (_:Unit) =>
  idx v202 v204>>=fun v605 =>
  setM v202 v204 v604>>=fun v607 =>
  remM v203 v603>>=fun v608 =>
  Ze (p0,v1,v607,v608,(W (v204+1)))
 else
 some v202
 partial_fixpoint
def Qay:(Q4 × (List Int) × (List Int) × Int × Int)→(List Int)→Prop:=fun x r=>match x with
 | (p0,v1,v202,v203,v204)=>∀ st,prune 2 ((Qw (QD [1,1,0,1,0,0] (QE f78))).bind (env.hint 78).keepAt) st=⟨kp 31 [(1,(Qd v203)),(5,(.arr 1 0 v1.length v1.length)),(13,(.dat (.lst ((List.map Qc) p0.strides)))),(14,(Qd (p0.strides.length:Int))),(15,(Qd v204))],[(.box [(.dat (.lst ((List.map Qc) p0.strides))),(.dat (.lst ((List.map Qc) p0.dims)))]),(.box (cellsOf Qc v202))]⟩ →
  RL prog env (env.hint 78) true (QD [1,1,0,1,0,0] (QE f78)) 2 st (fun e s=>match r with|v602=>e=.exit 0∧∃ d,s=⟨sl d 31 [(5,(.arr 1 0 v1.length v1.length))],[(.box [(.dat (.lst ((List.map Qc) p0.strides))),(.dat (.lst ((List.map Qc) p0.dims)))]),(.box (cellsOf Qc v602))]⟩)
theorem XX:∀ x r,Ze x=some r→Qay x r:=by
 refine Ze.partial_correctness _ (fun Ze XX x r hm=>?_)
 unfold Qay
 obtain ⟨p0,v1,v202,v203,v204⟩:=x
 intro st hst
 refine RL_at hst ?_
 clear hst
 refine Qe (R_G (Qb 1 (Qg (Qe ?_))))
 refine Qx hm (rfl) (fun hm=>?_) (fun hm=>?_)
 ·refine Qs (Qe (Qz (Qe (R_G (Qb 1 ?_)))))
  refine QF 1 Qc hm rfl (fun _=>rfl) (fun v603 hm=>?_)
  refine Qb 3 (Qg (Qe (R_G (Qb 4 ?_))))
  obtain ⟨v604,hx,hm⟩:=Qf hm
  refine QL rfl (fun _=>Qge (a:=v203) (b:=v603) hx rfl (by kernel_rfl) (by kernel_rfl)) ?_
  obtain ⟨_,hl606,hm⟩:=Qf hm
  replace hl606:=Q3 hl606
  obtain ⟨v605,hx,hm⟩:=Qf hm
  refine QL rfl (fun _=>Qfa (e:=3) (l:=v202) (n:=v204) (i:=1) (cap:=v1.length) (m:=v1.length) hx hl606 (by kernel_rfl) (by kernel_rfl) rfl (by kernel_rfl) (by kernel_rfl)) ?_
  obtain ⟨v607,hx,hm⟩:=Qf hm
  refine Z5 (fun H=>H.set 1 (.box (cellsOf Qc v607))) rfl (by kernel_rfl) (fun _=>Qe9 Qc (l:=v202) (n:=v204) (y:=v604) hx (fun _=>rfl) (by kernel_rfl) rfl (by kernel_rfl) (by kernel_rfl) (by kernel_rfl) (by kernel_rfl)) ?_
  refine Qg (R_G (Qb 2 ?_))
  obtain ⟨v608,hx,hm⟩:=Qf hm
  refine QL rfl (fun _=>QeG (a:=v203) (b:=v603) hx rfl (by kernel_rfl) (by kernel_rfl)) ?_
  refine Qb 1 (Qg (R_G (Qb 2 (Qg ?_))))
  exact XX _ _ hm _ (prune_of2 [(.box [(.dat (.lst ((List.map Qc) p0.strides))),(.dat (.lst ((List.map Qc) p0.dims)))]),(.box (cellsOf Qc v607))] (fun _=>(pg_cons (by kernel_rfl) (pg_cons (purge_box Qc _ _ _) pg_nil))) rfl)
 refine QP ?_
 obtain rfl:=Qq hm
 exact ⟨rfl,Qm⟩
def XB (x:(Q4 × Int)):Option (List Int) :=
 match x with
 | (p0,p1) =>
 makeM 8 (p0.dims.length:Int) 0>>=fun v1 =>
 Ze (p0,v1,v1,p1,0)>>=fun (v602:(List Int)) =>
 Zo (v602.length=v1.length)>>=fun (_:Unit) =>
 some v602
def Qbp:(Q4 × Int)→(List Int)→Prop:=fun x r=>match x,r with
 | (p0,p1),r0=>∀ H,PC prog env 78 ([(Q4.toD p0),(Qc p1)].map .dat) H (.dat (.lst ((List.map Qc) r0))) H
theorem Qdm:∀ x r,XB x=some r→Qbp x r:=by
 intro x r0 hm
 unfold XB at hm
 unfold Qbp
 obtain ⟨p0,p1⟩:=x
 intro H
 refine PC_sx (ds:=[(Q4.toD p0),(Qc p1)]) (fn:=f78) rfl ?_
 refine Qe (R_G (Qb 2 (Qg (Qe (R_G (Qb 2 ?_))))))
 refine QG Qc p0.dims (es:=(List.map Qc) p0.dims) rfl ?_
 obtain ⟨v1,hx,hm⟩:=Qf hm
 refine Z5 (v:=.arr 1 0 v1.length v1.length) (fun H=>H++[.box (cellsOf Qc v1)]) rfl (by kernel_rfl) ?_ ?_
 ·intro K hk
  exact Qdo 1 Qc (z:=0) (n:=(p0.dims.length:Int)) (bytes:=8) hx (e:=3) (by kernel_rfl) (by kernel_rfl) (by kernel_rfl) (by kernel_rfl) rfl rfl (by kernel_rfl) (by kernel_rfl) hk
 refine Qb 1 (Qg (Qe (Qe (R_G (Qb 2 ?_)))))
 refine QG Qc p0.strides (es:=(List.map Qc) p0.strides) rfl ?_
 refine Qb 1 (Qg (Qz ?_))
 obtain ⟨v602,hs,hm⟩:=Qf hm
 refine QT ?_
 refine RL_use (XX _ _ hs) (prune_of2 [(.box [(.dat (.lst ((List.map Qc) p0.strides))),(.dat (.lst ((List.map Qc) p0.dims)))]),(.box (cellsOf Qc v1))] (fun _=>(pg_cons (by kernel_rfl) (pg_cons (purge_box Qc _ _ _) pg_nil))) rfl) ?_
 clear hs
 intro e s hp
 obtain ⟨rfl,d,rfl⟩:=hp
 refine Qe (R_G (Qb 2 (Qg (Qt ?_))))
 obtain ⟨_,hl609,hm⟩:=Qf hm
 replace hl609:=Q3 hl609
 obtain rfl:=Qq hm
 exact ⟨trivial,YB [(.arr 1 0 v1.length v1.length)] (by kernel_rfl) (po_arr (pc_arr Qc v602 hl609 (fun _=>rfl) (by kernel_rfl)))⟩
def Xc (x:((List Int) × Int)):Option ((List Int) × Bool) :=
 match x with
 | (p0,p1) =>
 (if p1 < 0 then
  some true
 else
 YN p0>>=fun (v2:Int) =>
 some (decide (p1≥v2))
 )>>=fun (v1:Bool) =>
 if v1=true then
  some (([]:(List Int)),false)
 else
 Xg p0>>=fun (v3:Q4) =>
 XB ((⟨v3.strides,v3.dims⟩:Q4),p1)>>=fun (v4:(List Int)) =>
 some (v4,true)
def Qd2:((List Int) × Int)→((List Int) × Bool)→Prop:=fun x r=>match x,r with
 | (p0,p1),(r0,r1)=>∀ H,PC prog env 43 ([(.lst ((List.map Qc) p0)),(Qc p1)].map .dat) H (.tup [(.dat (.lst ((List.map Qc) r0))),(Qp r1)]) H
theorem Qd3:∀ x r,Xc x=some r→Qd2 x r:=by
 intro x r hm
 unfold Xc at hm
 unfold Qd2
 obtain ⟨p0,p1⟩:=x
 obtain ⟨r0,r1⟩:=r
 intro H
 refine PC_sx (ds:=[(.lst ((List.map Qc) p0)),(Qc p1)]) (fn:=f43) rfl ?_
 refine Qe (R_G (Qb 2 (Qg (Qe (Qe ?_)))))
 obtain ⟨v1,hs,hm⟩:=Qf hm
 refine Q7 (fun d=>⟨sl d 18 [(0,(.dat (.lst ((List.map Qc) p0)))),(1,(Qd p1)),(13,(Qp v1))],[]⟩) ?_ (fun d=>?_)
 ·replace hm:=hs
  clear hs
  refine R_G (Qb 3 ?_)
  refine Qy 8 hm (rfl) (fun hm=>?_) (fun hm=>?_)
  ·refine Qb 5 (Qg ?_)
   obtain rfl:=Qq hm
   exact Qm
  refine Qb 2 ?_
  obtain ⟨v2,hx,hm⟩:=Qf hm
  have hq:=Qbk _ _ hx []
  refine Qr hq ?_
  refine Qb 2 (Qg ?_)
  obtain rfl:=Qq hm
  exact Qm
 clear hs
 refine Qx hm (QC _) (fun hm=>?_) (fun hm=>?_)
 ·refine Qe (R_G (Qb 2 (Qg (Qt ?_))))
  obtain ⟨rfl,rfl⟩:=Zn hm
  exact ⟨trivial,Qk⟩
 refine Qs (Qe (R_G (Qb 1 ?_)))
 obtain ⟨v3,hx,hm⟩:=Qf hm
 have hq:=QcM _ _ hx []
 refine Qr hq ?_
 refine Qb 1 ?_
 obtain ⟨v4,hx,hm⟩:=Qf hm
 have hq:=Qdm _ _ hx []
 refine Qr hq ?_
 refine Qb 2 (Qg (Qt ?_))
 obtain ⟨rfl,rfl⟩:=Zn hm
 exact ⟨trivial,Qk⟩
def Ye (x:(Int × (List Int) × Int × (List Int) × Int × Int × (List Int) × (List Qi) × (List Int))):Option (((List Int) × Bool)) :=
 match x with
 | (q0,q1,q2,q3,q4,q5,q6,q7,q8) =>
 XV (q1,q8)>>=fun ((v1,v2):(Int × Bool)) =>
 idx q7 0>>=fun v3 =>
 YN v3.shape>>=fun (v4:Int) =>
 idx q7 0>>=fun v5 =>
 Qas (v1,v4)>>=fun (v6:Int) =>
 Xc (v5.shape,v6)>>=fun ((v7,v8):((List Int) × Bool)) =>
 some (v7,v8)
def XC:(Int × (List Int) × Int × (List Int) × Int × Int × (List Int) × (List Qi) × (List Int))→((List Int) × Bool)→Prop:=fun x r=>match x with
 | (q0,q1,q2,q3,q4,q5,q6,q7,q8)=>PC prog env 157 [(.dat (.agg [(Qc q0),(.lst ((List.map Qc) q1)),(Qc q2),(.lst ((List.map Qc) q3)),(Qc q4),(Qc q5),(.lst ((List.map Qc) q6)),(.lst (Qi.toDs q7))])),(.ms 1 1 0 q8.length q8.length)] [(.box [(Qd q0),(.dat (.lst ((List.map Qc) q1))),(Qd q2),(.dat (.lst ((List.map Qc) q3))),(Qd q4),(Qd q5),(.dat (.lst ((List.map Qc) q6))),(.dat (.lst (Qi.toDs q7)))]),(.mt 3 1 (cellsOf Qc q8))] (match r with|(v5001,v5002)=>(.tup [(Qd 0),(.dat (.lst ((List.map Qc) v5001))),(Qp v5002)])) (match r with|(v5001,v5002)=>[(.box [(Qd q0),(.dat (.lst ((List.map Qc) q1))),(Qd q2),(.dat (.lst ((List.map Qc) q3))),(Qd q4),(Qd q5),(.dat (.lst ((List.map Qc) q6))),(.dat (.lst (Qi.toDs q7)))]),(.mt 3 1 (cellsOf Qc q8)),(.box [(Qd q0),(.dat (.lst ((List.map Qc) q1))),(Qd q2),(.dat (.lst ((List.map Qc) q3))),(Qd q4),(Qd q5),(.dat (.lst ((List.map Qc) q6))),(.dat (.lst (Qi.toDs q7)))])])
theorem Qcx:∀ x r,Ye x=some r→XC x r:=by
 intro x r hm
 unfold Ye at hm
 unfold XC
 obtain ⟨q0,q1,q2,q3,q4,q5,q6,q7,q8⟩:=x
 refine PC_sxB (fn:=f157) rfl ?_
 refine Qe (R_G (Qb 4 (Qg (Qe (R_G (Qb 3 ?_))))))
 obtain ⟨⟨v1,v2⟩,hx,hm⟩:=Qf hm
 have hq:=Qds _ _ hx []
 refine Qci (args:=[(.dat (.lst ((List.map Qc) q1))),(.ms 1 1 0 q8.length q8.length)]) hq (ps_cons (by kernel_rfl) (ps_cons (p1_ms (pc_ms (e:=3) Qc q8 rfl (fun _=>rfl) (by kernel_rfl))) ps_nil)) ?_
 refine Qb 5 (Qg (Qe (R_G (Qb 2 ?_))))
 obtain ⟨v3,hx,hm⟩:=Qf hm
 refine Y2 8 Qi.toD q7 0 v3 (es:=Qi.toDs q7) (d:=(Qi.ex v3)) (Qi.toDs_eq _) hx (Qi.toD_eq v3) rfl ?_
 refine Qb 2 ?_
 obtain ⟨v4,hx,hm⟩:=Qf hm
 have hq:=Qbk _ _ hx []
 refine Qr hq ?_
 refine Qb 1 (Qg (Qe ?_))
 refine YM ?_
 refine Qb 2 ?_
 obtain ⟨v5,hx,hm⟩:=Qf hm
 refine Y2 8 Qi.toD q7 0 v5 (es:=Qi.toDs q7) (d:=(Qi.ex v5)) (Qi.toDs_eq _) hx (Qi.toD_eq v5) rfl ?_
 refine Qb 4 ?_
 obtain ⟨v6,hx,hm⟩:=Qf hm
 have hq:=Qfi _ _ hx []
 refine Qr hq ?_
 obtain ⟨⟨v7,v8⟩,hx,hm⟩:=Qf hm
 have hq:=Qd3 _ _ hx []
 refine Qr hq ?_
 refine Qb 5 ?_
 refine Qg ⟨by kernel_rfl,?_⟩
 refine Qe (R_G (Qb 5 (Qg (Qt ?_))))
 obtain rfl:=Qq hm
 exact ⟨trivial,Xm (by kernel_rfl) (by kernel_rfl)⟩
def Z3 (x:(Int × (List Int) × Int × (List Int) × Int × Int × (List Int) × (List Qi) × (List Int))):Option (((List Int) × Int)) :=
 match x with
 | (q0,q1,q2,q3,q4,q5,q6,q7,q8) =>
 idx q7 0>>=fun v1 =>
 idx v1.shape q4>>=fun v2 =>
 idx q8 q4>>=fun v3 =>
 idx q8 q4>>=fun v4 =>
 if v4 < v2 then
  some (q8,0)
 else
 idx q8 q4>>=fun v5 =>
 idx q8 q4>>=fun v6 =>
 idx q8 q4>>=fun v7 =>
 setM q8 q4 (W (v6 - v2))>>=fun v8 =>
 some (v8,1)
def Xw:(Int × (List Int) × Int × (List Int) × Int × Int × (List Int) × (List Qi) × (List Int))→((List Int) × Int)→Prop:=fun x r=>match x with
 | (q0,q1,q2,q3,q4,q5,q6,q7,q8)=>PC prog env 159 [(.dat (.agg [(Qc q0),(.lst ((List.map Qc) q1)),(Qc q2),(.lst ((List.map Qc) q3)),(Qc q4),(Qc q5),(.lst ((List.map Qc) q6)),(.lst (Qi.toDs q7))])),(.ms 1 1 0 q8.length q8.length)] [(.box [(Qd q0),(.dat (.lst ((List.map Qc) q1))),(Qd q2),(.dat (.lst ((List.map Qc) q3))),(Qd q4),(Qd q5),(.dat (.lst ((List.map Qc) q6))),(.dat (.lst (Qi.toDs q7)))]),(.mt 3 1 (cellsOf Qc q8))] (match r with|(v5001,v5002)=>(.tup [(Qd v5002),(.ms 1 1 0 q8.length q8.length),(Qp true)])) (match r with|(v5001,v5002)=>[(.box [(Qd q0),(.dat (.lst ((List.map Qc) q1))),(Qd q2),(.dat (.lst ((List.map Qc) q3))),(Qd q4),(Qd q5),(.dat (.lst ((List.map Qc) q6))),(.dat (.lst (Qi.toDs q7)))]),(.mt 3 1 (cellsOf Qc v5001)),(.box [(Qd q0),(.dat (.lst ((List.map Qc) q1))),(Qd q2),(.dat (.lst ((List.map Qc) q3))),(Qd q4),(Qd q5),(.dat (.lst ((List.map Qc) q6))),(.dat (.lst (Qi.toDs q7)))])])
theorem Qb9:∀ x r,Z3 x=some r→Xw x r:=by
 intro x r hm
 unfold Z3 at hm
 unfold Xw
 obtain ⟨q0,q1,q2,q3,q4,q5,q6,q7,q8⟩:=x
 refine PC_sxB (fn:=f159) rfl ?_
 refine Qe (R_G (Qb 4 (Qg (Qe ?_))))
 refine YM ?_
 refine Qb 2 ?_
 obtain ⟨v1,hx,hm⟩:=Qf hm
 refine Y2 8 Qi.toD q7 0 v1 (es:=Qi.toDs q7) (d:=(Qi.ex v1)) (Qi.toDs_eq _) hx (Qi.toD_eq v1) rfl ?_
 refine Qb 4 ?_
 refine QF 1 Qc hm rfl (fun _=>rfl) (fun v2 hm=>?_)
 refine Qb 2 ?_
 refine Qg ⟨by kernel_rfl,?_⟩
 refine Qe (Qe (R_G (Qb 3 ?_)))
 obtain ⟨v3,hx,hm⟩:=Qf hm
 refine QL rfl (fun _=>Q6 (e:=3) (n:=q4) (j:=(q4).toNat) (tt:=1) (g:=1) (lo:=0) (len:=q8.length) (cap:=q8.length) (k:=.i64) (by kernel_rfl) (by kernel_rfl) rfl (by kernel_rfl) (by kernel_rfl) (idx_nat hx) (Nat.lt_of_lt_of_eq (idx_lt hx) rfl)) ?_
 obtain ⟨v4,hx,hm⟩:=Qf hm
 refine QL rfl (fun _=>Y4 (tt:=1) (g:=1) (j:=(0+(q4).toNat)) (e:=3) (cs:=cellsOf Qc q8) (v:=.dat (Qc v4)) (by kernel_rfl) (by kernel_rfl) rfl (by kernel_rfl) (Z7 (by kernel_rfl)) (cells_idx Qc hx)) ?_
 refine Qb 2 (Qg ?_)
 refine Qx hm (rfl) (fun hm=>?_) (fun hm=>?_)
 ·refine Qe (R_G (Qb 4 (Qg (Qt ?_))))
  obtain rfl:=Qq hm
  exact ⟨trivial,Xm (by kernel_rfl) (by kernel_rfl)⟩
 refine Qs (Qe (R_G (Qb 3 ?_)))
 obtain ⟨v5,hx,hm⟩:=Qf hm
 refine QL rfl (fun _=>Q6 (e:=3) (n:=q4) (j:=(q4).toNat) (tt:=1) (g:=1) (lo:=0) (len:=q8.length) (cap:=q8.length) (k:=.i64) (by kernel_rfl) (by kernel_rfl) rfl (by kernel_rfl) (by kernel_rfl) (idx_nat hx) (Nat.lt_of_lt_of_eq (idx_lt hx) rfl)) ?_
 obtain ⟨v6,hx,hm⟩:=Qf hm
 refine QL rfl (fun _=>Y4 (tt:=1) (g:=1) (j:=(0+(q4).toNat)) (e:=3) (cs:=cellsOf Qc q8) (v:=.dat (Qc v6)) (by kernel_rfl) (by kernel_rfl) rfl (by kernel_rfl) (Z7 (by kernel_rfl)) (cells_idx Qc hx)) ?_
 refine Qb 2 ?_
 obtain ⟨v7,hx,hm⟩:=Qf hm
 refine QL rfl (fun _=>Q6 (e:=3) (n:=q4) (j:=(q4).toNat) (tt:=1) (g:=1) (lo:=0) (len:=q8.length) (cap:=q8.length) (k:=.i64) (by kernel_rfl) (by kernel_rfl) rfl (by kernel_rfl) (by kernel_rfl) (idx_nat hx) (Nat.lt_of_lt_of_eq (idx_lt hx) rfl)) ?_
 obtain ⟨v8,hx,hm⟩:=Qf hm
 refine Z5 (fun H=>H.set 1 (.mt 3 1 (cellsOf Qc v8))) rfl (by kernel_rfl) (fun _=>Qbu Qc (l:=q8) (n:=q4) (y:=(W (v6 - v2))) hx (fun _=>rfl) (by kernel_rfl) rfl (by kernel_rfl) (by kernel_rfl) (by kernel_rfl) (by kernel_rfl)) ?_
 refine Qg (Qe (R_G (Qb 4 (Qg (Qt ?_)))))
 obtain rfl:=Qq hm
 exact ⟨trivial,Xm (by kernel_rfl) (by kernel_rfl)⟩
def Z6 (x:(Qi × (List Int))):Option (Int × (List Int) × Bool) :=
 match x with
 | (p0,p1) =>
 Xe (p0.shape,p1)>>=fun (v1:Bool) =>
 if v1=false then
  some (0,([]:(List Int)),false)
 else
 Zo (0≤p0.kind∧p0.kind < 8)>>=fun (_:Unit) =>
 if p0.kind=0 then
  none
 else
 if p0.kind=1 then
  Q2 p1>>=fun v3 =>
  Je (p0.kind,p0.shape,p0.buffer,p0.starts,p0.axis,p0.amount,p0.perm,p0.kids,v3)>>=fun (_:Unit) =>
  some (0,([]:(List Int)),false)
 else
 if p0.kind=2 then
  Q2 p1>>=fun v4 =>
  (
  YY (p0.kind,p0.shape,p0.buffer,p0.starts,p0.axis,p0.amount,p0.perm,p0.kids,v4)>>=fun (out:(List Int) ⊕ (List Int)) =>
  match out with
  | .inl v5 =>
   some (0,([]:(List Int)),false)
  | .inr (v6) =>
   Zo (v6.length=v4.length)>>=fun (_:Unit) =>
   some (0,v6,true)
  )
 else
 if p0.kind=3 then
  Q2 p1>>=fun v8 =>
  YK (p0.kind,p0.shape,p0.buffer,p0.starts,p0.axis,p0.amount,p0.perm,p0.kids,v8)>>=fun (v9:(List Int)) =>
  Zo (v9.length=v8.length)>>=fun (_:Unit) =>
  some (0,v9,true)
 else
 if p0.kind=4 then
  Q2 p1>>=fun v11 =>
  YW (p0.kind,p0.shape,p0.buffer,p0.starts,p0.axis,p0.amount,p0.perm,p0.kids,v11)>>=fun (v12:(List Int)) =>
  Zo (v12.length=v11.length)>>=fun (_:Unit) =>
  some (0,v12,true)
 else
 if p0.kind=5 then
  Q2 p1>>=fun v14 =>
  Yw (p0.kind,p0.shape,p0.buffer,p0.starts,p0.axis,p0.amount,p0.perm,p0.kids,v14)>>=fun (v15:(List Int)) =>
  some (0,v15,true)
 else
 if p0.kind=6 then
  Q2 p1>>=fun v16 =>
  Ye (p0.kind,p0.shape,p0.buffer,p0.starts,p0.axis,p0.amount,p0.perm,p0.kids,v16)>>=fun ((v17,v18):((List Int) × Bool)) =>
  some (0,v17,v18)
 else
 if p0.kind=7 then
  Q2 p1>>=fun v19 =>
  Z3 (p0.kind,p0.shape,p0.buffer,p0.starts,p0.axis,p0.amount,p0.perm,p0.kids,v19)>>=fun ((v20,v21):((List Int) × Int)) =>
  Zo (v20.length=v19.length)>>=fun (_:Unit) =>
  some (v21,v20,true)
 else
 none
def QeQ:(Qi × (List Int))→(Int × (List Int) × Bool)→Prop:=fun x r=>match x,r with
 | (p0,p1),(r0,r1,r2)=>∀ H,PC prog env 41 ([(Qi.ex p0),(.lst ((List.map Qc) p1))].map .dat) H (.tup [(Qd r0),(.dat (.lst ((List.map Qc) r1))),(Qp r2)]) H
theorem QfV:∀ x r,Z6 x=some r→QeQ x r:=by
 intro x r hm
 unfold Z6 at hm
 unfold QeQ
 obtain ⟨p0,p1⟩:=x
 obtain ⟨r0,r1,r2⟩:=r
 intro H
 refine PC_sx (ds:=[(Qi.ex p0),(.lst ((List.map Qc) p1))]) (fn:=f41) rfl ?_
 refine Qe (R_G (Qb 4 (Qg (Qe (Qe (R_G (Qb 3 ?_)))))))
 obtain ⟨v1,hx,hm⟩:=Qf hm
 have hq:=Qbh _ _ hx []
 refine Qr hq ?_
 refine Qb 1 (Qg ?_)
 refine Qx hm (ZL _) (fun hm=>?_) (fun hm=>?_)
 ·refine Qe (R_G (Qb 3 (Qg (Qt ?_))))
  obtain ⟨rfl,rfl,rfl⟩:=J3 hm
  exact ⟨trivial,Qk⟩
 refine Qs (Qe ?_)
 refine YM ?_
 refine Qb 2 ?_
 obtain ⟨_,hl2,hm⟩:=Qf hm
 replace hl2:=Q3 hl2
 refine Qgq 8 3 [(Qc 0),(.raw .nilFunc),(.raw .nilFunc),(Qc 0),(.raw (.func (.func 147) #[] #[])),(.raw (.func (.func 148) #[] #[])),(Qc 1),(.raw (.func (.func 149) #[] #[])),(.raw (.func (.func 150) #[] #[])),(Qc 1),(.raw (.func (.func 151) #[] #[])),(.raw (.func (.func 152) #[] #[])),(Qc 1),(.raw (.func (.func 153) #[] #[])),(.raw (.func (.func 154) #[] #[])),(Qc 1),(.raw (.func (.func 155) #[] #[])),(.raw (.func (.func 156) #[] #[])),(Qc 1),(.raw (.func (.func 147) #[] #[])),(.raw (.func (.func 157) #[] #[])),(Qc 2),(.raw (.func (.func 158) #[] #[])),(.raw (.func (.func 159) #[] #[]))] p0.kind hl2 ?_
 refine Qb 1 ?_
 by_cases hc:p0.kind=((0:Nat):Int)
 ·replace hm:=Qbc (show p0.kind=0 from hc) hm
  exact (QfR hm).elim
 replace hm:=Qbe (show ¬ p0.kind=0 from hc) hm
 by_cases hc:p0.kind=((1:Nat):Int)
 ·replace hm:=Qbc (show p0.kind=1 from hc) hm
  refine Qei 1 3 2 [(Qc 0),(.raw .nilFunc),(.raw .nilFunc),(Qc 0),(.raw (.func (.func 147) #[] #[])),(.raw (.func (.func 148) #[] #[])),(Qc 1),(.raw (.func (.func 149) #[] #[])),(.raw (.func (.func 150) #[] #[])),(Qc 1),(.raw (.func (.func 151) #[] #[])),(.raw (.func (.func 152) #[] #[])),(Qc 1),(.raw (.func (.func 153) #[] #[])),(.raw (.func (.func 154) #[] #[])),(Qc 1),(.raw (.func (.func 155) #[] #[])),(.raw (.func (.func 156) #[] #[])),(Qc 1),(.raw (.func (.func 147) #[] #[])),(.raw (.func (.func 157) #[] #[])),(Qc 2),(.raw (.func (.func 158) #[] #[])),(.raw (.func (.func 159) #[] #[]))] p0.kind (.raw (.func (.func 148) #[] #[])) hc ?_
  refine Qb 2 ?_
  obtain ⟨v3,hx,hm⟩:=Qf hm
  have hq:=Zw _ _ hx
  dsimp only [Zb] at hq
  have hl9:mtOf [Blk.mt 3 (cgm_slices_Clone_int_int v3) (cellsOf Qc v3)] 0=some (3,cgm_slices_Clone_int_int v3,cellsOf Qc v3):=Z7 (by kernel_rfl)
  refine Z5 (v:=.ms 1 1 0 v3.length v3.length) (fun H=>H++[.mt 3 1 (cellsOf Qc v3)]) rfl (by kernel_rfl) ?_ ?_
  ·intro K hk
   refine Qao 1 (first:=#[]) (cap:=#[]) (j:=(0,3)) (ow':=[]) (f0:=Qc) (l:=v3) rfl ?_ ?_ ?_ (ds:=[.lst ((List.map Qc) p1)]) ?_ hq hl9 ?_ ?_ ?_
   ·kernel_rfl
   ·kernel_rfl
   ·kernel_rfl
   ·kernel_rfl
   ·exact hk
   ·kernel_rfl
   ·decide
  obtain ⟨_,hx,hm⟩:=Qf hm
  have hq:=Qeh _ _ hx
  dsimp only [Qau] at hq
  refine Qaj hq ?_
  refine Qb 6 ?_
  refine Qg ⟨by kernel_rfl,?_⟩
  refine Qt ?_
  obtain ⟨rfl,rfl,rfl⟩:=J3 hm
  exact ⟨trivial,Qk⟩
 replace hm:=Qbe (show ¬ p0.kind=1 from hc) hm
 by_cases hc:p0.kind=((2:Nat):Int)
 ·replace hm:=Qbc (show p0.kind=2 from hc) hm
  refine Qei 2 3 2 [(Qc 0),(.raw .nilFunc),(.raw .nilFunc),(Qc 0),(.raw (.func (.func 147) #[] #[])),(.raw (.func (.func 148) #[] #[])),(Qc 1),(.raw (.func (.func 149) #[] #[])),(.raw (.func (.func 150) #[] #[])),(Qc 1),(.raw (.func (.func 151) #[] #[])),(.raw (.func (.func 152) #[] #[])),(Qc 1),(.raw (.func (.func 153) #[] #[])),(.raw (.func (.func 154) #[] #[])),(Qc 1),(.raw (.func (.func 155) #[] #[])),(.raw (.func (.func 156) #[] #[])),(Qc 1),(.raw (.func (.func 147) #[] #[])),(.raw (.func (.func 157) #[] #[])),(Qc 2),(.raw (.func (.func 158) #[] #[])),(.raw (.func (.func 159) #[] #[]))] p0.kind (.raw (.func (.func 150) #[] #[])) hc ?_
  refine Qb 2 ?_
  obtain ⟨v4,hx,hm⟩:=Qf hm
  have hq:=Zw _ _ hx
  dsimp only [Zb] at hq
  have hl9:mtOf [Blk.mt 3 (cgm_slices_Clone_int_int v4) (cellsOf Qc v4)] 0=some (3,cgm_slices_Clone_int_int v4,cellsOf Qc v4):=Z7 (by kernel_rfl)
  refine Z5 (v:=.ms 1 1 0 v4.length v4.length) (fun H=>H++[.mt 3 1 (cellsOf Qc v4)]) rfl (by kernel_rfl) ?_ ?_
  ·intro K hk
   refine Qao 1 (first:=#[]) (cap:=#[]) (j:=(0,3)) (ow':=[]) (f0:=Qc) (l:=v4) rfl ?_ ?_ ?_ (ds:=[.lst ((List.map Qc) p1)]) ?_ hq hl9 ?_ ?_ ?_
   ·kernel_rfl
   ·kernel_rfl
   ·kernel_rfl
   ·kernel_rfl
   ·exact hk
   ·kernel_rfl
   ·decide
  obtain ⟨out,hx,hm⟩:=Qf hm
  rcases out with v5|v6
  ·have hq:=Qax _ _ hx
   dsimp only [YX] at hq
   refine Qaj hq ?_
   refine Qb 6 ?_
   refine Qg ⟨by kernel_rfl,?_⟩
   refine Qt ?_
   obtain ⟨rfl,rfl,rfl⟩:=J3 hm
   exact ⟨trivial,Qk⟩
  ·have hq:=Qax _ _ hx
   dsimp only [YX] at hq
   refine Qaj hq ?_
   refine Qb 6 ?_
   refine Qg ⟨by kernel_rfl,?_⟩
   refine Qt ?_
   obtain ⟨_,hl7,hm⟩:=Qf hm
   replace hl7:=Q3 hl7
   obtain ⟨rfl,rfl,rfl⟩:=J3 hm
   exact ⟨trivial,YB [(Qd 0),(.ms 1 1 0 v4.length v4.length),(Qp true)] (by kernel_rfl) (po_tup (ps_cons (by kernel_rfl) (ps_cons (p1_ms (pc_ms (e:=3) Qc v6 hl7 (fun _=>rfl) (by kernel_rfl))) (ps_cons (by kernel_rfl) ps_nil))))⟩
 replace hm:=Qbe (show ¬ p0.kind=2 from hc) hm
 by_cases hc:p0.kind=((3:Nat):Int)
 ·replace hm:=Qbc (show p0.kind=3 from hc) hm
  refine Qei 3 3 2 [(Qc 0),(.raw .nilFunc),(.raw .nilFunc),(Qc 0),(.raw (.func (.func 147) #[] #[])),(.raw (.func (.func 148) #[] #[])),(Qc 1),(.raw (.func (.func 149) #[] #[])),(.raw (.func (.func 150) #[] #[])),(Qc 1),(.raw (.func (.func 151) #[] #[])),(.raw (.func (.func 152) #[] #[])),(Qc 1),(.raw (.func (.func 153) #[] #[])),(.raw (.func (.func 154) #[] #[])),(Qc 1),(.raw (.func (.func 155) #[] #[])),(.raw (.func (.func 156) #[] #[])),(Qc 1),(.raw (.func (.func 147) #[] #[])),(.raw (.func (.func 157) #[] #[])),(Qc 2),(.raw (.func (.func 158) #[] #[])),(.raw (.func (.func 159) #[] #[]))] p0.kind (.raw (.func (.func 152) #[] #[])) hc ?_
  refine Qb 2 ?_
  obtain ⟨v8,hx,hm⟩:=Qf hm
  have hq:=Zw _ _ hx
  dsimp only [Zb] at hq
  have hl9:mtOf [Blk.mt 3 (cgm_slices_Clone_int_int v8) (cellsOf Qc v8)] 0=some (3,cgm_slices_Clone_int_int v8,cellsOf Qc v8):=Z7 (by kernel_rfl)
  refine Z5 (v:=.ms 1 1 0 v8.length v8.length) (fun H=>H++[.mt 3 1 (cellsOf Qc v8)]) rfl (by kernel_rfl) ?_ ?_
  ·intro K hk
   refine Qao 1 (first:=#[]) (cap:=#[]) (j:=(0,3)) (ow':=[]) (f0:=Qc) (l:=v8) rfl ?_ ?_ ?_ (ds:=[.lst ((List.map Qc) p1)]) ?_ hq hl9 ?_ ?_ ?_
   ·kernel_rfl
   ·kernel_rfl
   ·kernel_rfl
   ·kernel_rfl
   ·exact hk
   ·kernel_rfl
   ·decide
  obtain ⟨v9,hx,hm⟩:=Qf hm
  have hq:=Qcu _ _ hx
  dsimp only [XL] at hq
  refine Qaj hq ?_
  refine Qb 6 ?_
  refine Qg ⟨by kernel_rfl,?_⟩
  refine Qt ?_
  obtain ⟨_,hl10,hm⟩:=Qf hm
  replace hl10:=Q3 hl10
  obtain ⟨rfl,rfl,rfl⟩:=J3 hm
  exact ⟨trivial,YB [(Qd 0),(.ms 1 1 0 v8.length v8.length),(Qp true)] (by kernel_rfl) (po_tup (ps_cons (by kernel_rfl) (ps_cons (p1_ms (pc_ms (e:=3) Qc v9 hl10 (fun _=>rfl) (by kernel_rfl))) (ps_cons (by kernel_rfl) ps_nil))))⟩
 replace hm:=Qbe (show ¬ p0.kind=3 from hc) hm
 by_cases hc:p0.kind=((4:Nat):Int)
 ·replace hm:=Qbc (show p0.kind=4 from hc) hm
  refine Qei 4 3 2 [(Qc 0),(.raw .nilFunc),(.raw .nilFunc),(Qc 0),(.raw (.func (.func 147) #[] #[])),(.raw (.func (.func 148) #[] #[])),(Qc 1),(.raw (.func (.func 149) #[] #[])),(.raw (.func (.func 150) #[] #[])),(Qc 1),(.raw (.func (.func 151) #[] #[])),(.raw (.func (.func 152) #[] #[])),(Qc 1),(.raw (.func (.func 153) #[] #[])),(.raw (.func (.func 154) #[] #[])),(Qc 1),(.raw (.func (.func 155) #[] #[])),(.raw (.func (.func 156) #[] #[])),(Qc 1),(.raw (.func (.func 147) #[] #[])),(.raw (.func (.func 157) #[] #[])),(Qc 2),(.raw (.func (.func 158) #[] #[])),(.raw (.func (.func 159) #[] #[]))] p0.kind (.raw (.func (.func 154) #[] #[])) hc ?_
  refine Qb 2 ?_
  obtain ⟨v11,hx,hm⟩:=Qf hm
  have hq:=Zw _ _ hx
  dsimp only [Zb] at hq
  have hl9:mtOf [Blk.mt 3 (cgm_slices_Clone_int_int v11) (cellsOf Qc v11)] 0=some (3,cgm_slices_Clone_int_int v11,cellsOf Qc v11):=Z7 (by kernel_rfl)
  refine Z5 (v:=.ms 1 1 0 v11.length v11.length) (fun H=>H++[.mt 3 1 (cellsOf Qc v11)]) rfl (by kernel_rfl) ?_ ?_
  ·intro K hk
   refine Qao 1 (first:=#[]) (cap:=#[]) (j:=(0,3)) (ow':=[]) (f0:=Qc) (l:=v11) rfl ?_ ?_ ?_ (ds:=[.lst ((List.map Qc) p1)]) ?_ hq hl9 ?_ ?_ ?_
   ·kernel_rfl
   ·kernel_rfl
   ·kernel_rfl
   ·kernel_rfl
   ·exact hk
   ·kernel_rfl
   ·decide
  obtain ⟨v12,hx,hm⟩:=Qf hm
  have hq:=QcK _ _ hx
  dsimp only [XY] at hq
  refine Qaj hq ?_
  refine Qb 6 ?_
  refine Qg ⟨by kernel_rfl,?_⟩
  refine Qt ?_
  obtain ⟨_,hl13,hm⟩:=Qf hm
  replace hl13:=Q3 hl13
  obtain ⟨rfl,rfl,rfl⟩:=J3 hm
  exact ⟨trivial,YB [(Qd 0),(.ms 1 1 0 v11.length v11.length),(Qp true)] (by kernel_rfl) (po_tup (ps_cons (by kernel_rfl) (ps_cons (p1_ms (pc_ms (e:=3) Qc v12 hl13 (fun _=>rfl) (by kernel_rfl))) (ps_cons (by kernel_rfl) ps_nil))))⟩
 replace hm:=Qbe (show ¬ p0.kind=4 from hc) hm
 by_cases hc:p0.kind=((5:Nat):Int)
 ·replace hm:=Qbc (show p0.kind=5 from hc) hm
  refine Qei 5 3 2 [(Qc 0),(.raw .nilFunc),(.raw .nilFunc),(Qc 0),(.raw (.func (.func 147) #[] #[])),(.raw (.func (.func 148) #[] #[])),(Qc 1),(.raw (.func (.func 149) #[] #[])),(.raw (.func (.func 150) #[] #[])),(Qc 1),(.raw (.func (.func 151) #[] #[])),(.raw (.func (.func 152) #[] #[])),(Qc 1),(.raw (.func (.func 153) #[] #[])),(.raw (.func (.func 154) #[] #[])),(Qc 1),(.raw (.func (.func 155) #[] #[])),(.raw (.func (.func 156) #[] #[])),(Qc 1),(.raw (.func (.func 147) #[] #[])),(.raw (.func (.func 157) #[] #[])),(Qc 2),(.raw (.func (.func 158) #[] #[])),(.raw (.func (.func 159) #[] #[]))] p0.kind (.raw (.func (.func 156) #[] #[])) hc ?_
  refine Qb 2 ?_
  obtain ⟨v14,hx,hm⟩:=Qf hm
  have hq:=Zw _ _ hx
  dsimp only [Zb] at hq
  have hl9:mtOf [Blk.mt 3 (cgm_slices_Clone_int_int v14) (cellsOf Qc v14)] 0=some (3,cgm_slices_Clone_int_int v14,cellsOf Qc v14):=Z7 (by kernel_rfl)
  refine Z5 (v:=.ms 1 1 0 v14.length v14.length) (fun H=>H++[.mt 3 1 (cellsOf Qc v14)]) rfl (by kernel_rfl) ?_ ?_
  ·intro K hk
   refine Qao 1 (first:=#[]) (cap:=#[]) (j:=(0,3)) (ow':=[]) (f0:=Qc) (l:=v14) rfl ?_ ?_ ?_ (ds:=[.lst ((List.map Qc) p1)]) ?_ hq hl9 ?_ ?_ ?_
   ·kernel_rfl
   ·kernel_rfl
   ·kernel_rfl
   ·kernel_rfl
   ·exact hk
   ·kernel_rfl
   ·decide
  obtain ⟨v15,hx,hm⟩:=Qf hm
  have hq:=Qb0 _ _ hx
  dsimp only [Xh] at hq
  refine Qaj hq ?_
  refine Qb 6 ?_
  refine Qg ⟨by kernel_rfl,?_⟩
  refine Qt ?_
  obtain ⟨rfl,rfl,rfl⟩:=J3 hm
  exact ⟨trivial,Qk⟩
 replace hm:=Qbe (show ¬ p0.kind=5 from hc) hm
 by_cases hc:p0.kind=((6:Nat):Int)
 ·replace hm:=Qbc (show p0.kind=6 from hc) hm
  refine Qei 6 3 2 [(Qc 0),(.raw .nilFunc),(.raw .nilFunc),(Qc 0),(.raw (.func (.func 147) #[] #[])),(.raw (.func (.func 148) #[] #[])),(Qc 1),(.raw (.func (.func 149) #[] #[])),(.raw (.func (.func 150) #[] #[])),(Qc 1),(.raw (.func (.func 151) #[] #[])),(.raw (.func (.func 152) #[] #[])),(Qc 1),(.raw (.func (.func 153) #[] #[])),(.raw (.func (.func 154) #[] #[])),(Qc 1),(.raw (.func (.func 155) #[] #[])),(.raw (.func (.func 156) #[] #[])),(Qc 1),(.raw (.func (.func 147) #[] #[])),(.raw (.func (.func 157) #[] #[])),(Qc 2),(.raw (.func (.func 158) #[] #[])),(.raw (.func (.func 159) #[] #[]))] p0.kind (.raw (.func (.func 157) #[] #[])) hc ?_
  refine Qb 2 ?_
  obtain ⟨v16,hx,hm⟩:=Qf hm
  have hq:=Zw _ _ hx
  dsimp only [Zb] at hq
  have hl9:mtOf [Blk.mt 3 (cgm_slices_Clone_int_int v16) (cellsOf Qc v16)] 0=some (3,cgm_slices_Clone_int_int v16,cellsOf Qc v16):=Z7 (by kernel_rfl)
  refine Z5 (v:=.ms 1 1 0 v16.length v16.length) (fun H=>H++[.mt 3 1 (cellsOf Qc v16)]) rfl (by kernel_rfl) ?_ ?_
  ·intro K hk
   refine Qao 1 (first:=#[]) (cap:=#[]) (j:=(0,3)) (ow':=[]) (f0:=Qc) (l:=v16) rfl ?_ ?_ ?_ (ds:=[.lst ((List.map Qc) p1)]) ?_ hq hl9 ?_ ?_ ?_
   ·kernel_rfl
   ·kernel_rfl
   ·kernel_rfl
   ·kernel_rfl
   ·exact hk
   ·kernel_rfl
   ·decide
  obtain ⟨⟨v17,v18⟩,hx,hm⟩:=Qf hm
  have hq:=Qcx _ _ hx
  dsimp only [XC] at hq
  refine Qaj hq ?_
  refine Qb 6 ?_
  refine Qg ⟨by kernel_rfl,?_⟩
  refine Qt ?_
  obtain ⟨rfl,rfl,rfl⟩:=J3 hm
  exact ⟨trivial,Qk⟩
 replace hm:=Qbe (show ¬ p0.kind=6 from hc) hm
 by_cases hc:p0.kind=((7:Nat):Int)
 ·replace hm:=Qbc (show p0.kind=7 from hc) hm
  refine Qei 7 3 2 [(Qc 0),(.raw .nilFunc),(.raw .nilFunc),(Qc 0),(.raw (.func (.func 147) #[] #[])),(.raw (.func (.func 148) #[] #[])),(Qc 1),(.raw (.func (.func 149) #[] #[])),(.raw (.func (.func 150) #[] #[])),(Qc 1),(.raw (.func (.func 151) #[] #[])),(.raw (.func (.func 152) #[] #[])),(Qc 1),(.raw (.func (.func 153) #[] #[])),(.raw (.func (.func 154) #[] #[])),(Qc 1),(.raw (.func (.func 155) #[] #[])),(.raw (.func (.func 156) #[] #[])),(Qc 1),(.raw (.func (.func 147) #[] #[])),(.raw (.func (.func 157) #[] #[])),(Qc 2),(.raw (.func (.func 158) #[] #[])),(.raw (.func (.func 159) #[] #[]))] p0.kind (.raw (.func (.func 159) #[] #[])) hc ?_
  refine Qb 2 ?_
  obtain ⟨v19,hx,hm⟩:=Qf hm
  have hq:=Zw _ _ hx
  dsimp only [Zb] at hq
  have hl9:mtOf [Blk.mt 3 (cgm_slices_Clone_int_int v19) (cellsOf Qc v19)] 0=some (3,cgm_slices_Clone_int_int v19,cellsOf Qc v19):=Z7 (by kernel_rfl)
  refine Z5 (v:=.ms 1 1 0 v19.length v19.length) (fun H=>H++[.mt 3 1 (cellsOf Qc v19)]) rfl (by kernel_rfl) ?_ ?_
  ·intro K hk
   refine Qao 1 (first:=#[]) (cap:=#[]) (j:=(0,3)) (ow':=[]) (f0:=Qc) (l:=v19) rfl ?_ ?_ ?_ (ds:=[.lst ((List.map Qc) p1)]) ?_ hq hl9 ?_ ?_ ?_
   ·kernel_rfl
   ·kernel_rfl
   ·kernel_rfl
   ·kernel_rfl
   ·exact hk
   ·kernel_rfl
   ·decide
  obtain ⟨⟨v20,v21⟩,hx,hm⟩:=Qf hm
  have hq:=Qb9 _ _ hx
  dsimp only [Xw] at hq
  refine Qaj hq ?_
  refine Qb 6 ?_
  refine Qg ⟨by kernel_rfl,?_⟩
  refine Qt ?_
  obtain ⟨_,hl22,hm⟩:=Qf hm
  replace hl22:=Q3 hl22
  obtain ⟨rfl,rfl,rfl⟩:=J3 hm
  exact ⟨trivial,YB [(Qd v21),(.ms 1 1 0 v19.length v19.length),(Qp true)] (by kernel_rfl) (po_tup (ps_cons (by kernel_rfl) (ps_cons (p1_ms (pc_ms (e:=3) Qc v20 hl22 (fun _=>rfl) (by kernel_rfl))) (ps_cons (by kernel_rfl) ps_nil))))⟩
 replace hm:=Qbe (show ¬ p0.kind=7 from hc) hm
 exact (QfR hm).elim
def Yj (x:(Int × (List Int) × Int × (List Int) × Int × Int × (List Int) × (List Qi) × (List Int))):Option ((Int × (List Int) × Int × (List Int) × Int × Int × (List Int) × (List Qi) × Bool × Int × Int)) :=
 match x with
 | (v202,v203,v204,v205,v206,v207,v208,v209,v210) =>
 if v202=1 then
  XV (v203,v210)>>=fun ((v613,v614):(Int × Bool)) =>
  some (v202,v203,v204,v205,v206,v207,v208,v209,false,v204,v613)
 else
 Z6 ((⟨v202,v203,v204,v205,v206,v207,v208,v209⟩:Qi),v210)>>=fun ((v615,v616,v617):(Int × (List Int) × Bool)) =>
 if v617=false then
  some (v202,v203,v204,v205,v206,v207,v208,v209,true,0,0)
 else
 idx v209 v615>>=fun v618 =>
 Yj (v618.kind,v618.shape,v618.buffer,v618.starts,v618.axis,v618.amount,v618.perm,v618.kids,v616)
 partial_fixpoint
def Qdc:(Int × (List Int) × Int × (List Int) × Int × Int × (List Int) × (List Qi) × (List Int))→(Int × (List Int) × Int × (List Int) × Int × Int × (List Int) × (List Qi) × Bool × Int × Int)→Prop:=fun x r=>match x with
 | (v202,v203,v204,v205,v206,v207,v208,v209,v210)=>∀ st,prune 3 ((Qw (QD [1,0,1,1,1,0,0,0] (QE f18))).bind (env.hint 18).keepAt) st=⟨kp 49 [(1,(.dat (.lst ((List.map Qc) v210)))),(2,(.ptr 0 0)),(4,(.ptr 1 0)),(6,(.ptr 2 0))],[(.box [(Qd v202),(.dat (.lst ((List.map Qc) v203))),(Qd v204),(.dat (.lst ((List.map Qc) v205))),(Qd v206),(Qd v207),(.dat (.lst ((List.map Qc) v208))),(.dat (.lst (Qi.toDs v209)))]),(.box [(Qp false),(Qd 0),(Qd 0)]),(.box [(Qp true),(Qd 0),(Qd 0)])]⟩ →
  RL prog env (env.hint 18) true (QD [1,0,1,1,1,0,0,0] (QE f18)) 3 st (fun e s=>match r with|(v602,v603,v604,v605,v606,v607,v608,v609,v610,v611,v612)=>e=.exit 0∧∃ d,s=⟨sl d 49 [(4,(.ptr 1 0)),(6,(.ptr 2 0))],[(.box [(Qd v602),(.dat (.lst ((List.map Qc) v603))),(Qd v604),(.dat (.lst ((List.map Qc) v605))),(Qd v606),(Qd v607),(.dat (.lst ((List.map Qc) v608))),(.dat (.lst (Qi.toDs v609)))]),(.box [(Qp false),(Qd 0),(Qd 0)]),(.box [(Qp v610),(Qd v611),(Qd v612)])]⟩)
theorem Qbw:∀ x r,Yj x=some r→Qdc x r:=by
 refine Yj.partial_correctness _ (fun Yj Qbw x r hm=>?_)
 unfold Qdc
 obtain ⟨v202,v203,v204,v205,v206,v207,v208,v209,v210⟩:=x
 intro st hst
 refine RL_at hst ?_
 clear hst
 refine Qz (Qe (Qe (R_G (Qb 3 (Qg ?_)))))
 refine Qx hm (QO _ _) (fun hm=>?_) (fun hm=>?_)
 ·refine Qe (R_G (Qb 3 ?_))
  obtain ⟨⟨v613,v614⟩,hx,hm⟩:=Qf hm
  have hq:=Qds _ _ hx []
  refine Qr hq ?_
  refine Qb 5 (Qg (Qe (R_G (Qb 5 (Qg (QP ?_))))))
  obtain rfl:=Qq hm
  exact ⟨rfl,Qm⟩
 refine Qs (Qe (R_G (Qb 2 ?_)))
 obtain ⟨⟨v615,v616,v617⟩,hx,hm⟩:=Qf hm
 have hq:=QfV _ _ hx []
 refine Qr hq ?_
 refine Qb 7 (Qg (Qe (Qe (R_G (Qb 2 (Qg ?_))))))
 refine Qx hm (ZL _) (fun hm=>?_) (fun hm=>?_)
 ·refine QP ?_
  obtain rfl:=Qq hm
  exact ⟨rfl,Qm⟩
 refine Qs (R_G (Qb 3 ?_))
 obtain ⟨v618,hx,hm⟩:=Qf hm
 refine Y2 8 Qi.toD v209 v615 v618 (es:=Qi.toDs v209) (d:=(Qi.ex v618)) (Qi.toDs_eq _) hx (Qi.toD_eq v618) rfl ?_
 refine Qb 4 (Qg ?_)
 exact Qbw _ _ hm _ (by kernel_rfl)
def QaS (x:(Qi × (List Int))):Option (Z4 × Bool) :=
 match x with
 | (p0,p1) =>
 Xe (p0.shape,p1)>>=fun (v1:Bool) =>
 if v1=false then
  some ((⟨false,0,0⟩:Z4),false)
 else
 Yj (p0.kind,p0.shape,p0.buffer,p0.starts,p0.axis,p0.amount,p0.perm,p0.kids,p1)>>=fun ((v602,v603,v604,v605,v606,v607,v608,v609,v610,v611,v612):(Int × (List Int) × Int × (List Int) × Int × Int × (List Int) × (List Qi) × Bool × Int × Int)) =>
 some ((⟨v610,v611,v612⟩:Z4),true)
def QeD:(Qi × (List Int))→(Z4 × Bool)→Prop:=fun x r=>match x,r with
 | (p0,p1),(r0,r1)=>∀ H,PC prog env 18 ([(Qi.ex p0),(.lst ((List.map Qc) p1))].map .dat) H (.tup [(.dat (Z4.toD r0)),(Qp r1)]) H
theorem QfA:∀ x r,QaS x=some r→QeD x r:=by
 intro x r hm
 unfold QaS at hm
 unfold QeD
 obtain ⟨p0,p1⟩:=x
 obtain ⟨r0,r1⟩:=r
 intro H
 refine PC_sx (ds:=[(Qi.ex p0),(.lst ((List.map Qc) p1))]) (fn:=f18) rfl ?_
 refine Qe (R_G (Qb 3 (Qg (Qgi (Qe (Qe (R_G (Qb 3 ?_))))))))
 obtain ⟨v1,hx,hm⟩:=Qf hm
 have hq:=Qbh _ _ hx []
 refine Qr hq ?_
 refine Qb 1 (Qg ?_)
 refine Qx hm (ZL _) (fun hm=>?_) (fun hm=>?_)
 ·refine Qe (R_G (Qb 3 (Qg (Qt ?_))))
  obtain ⟨rfl,rfl⟩:=Zn hm
  exact ⟨trivial,Qk⟩
 refine Qs (Qe (R_G (Qb 3 (Qg (Qe (Qgf (Qe (Qz ?_))))))))
 obtain ⟨⟨v602,v603,v604,v605,v606,v607,v608,v609,v610,v611,v612⟩,hs,hm⟩:=Qf hm
 refine QT ?_
 refine RL_use (Qbw _ _ hs) (by kernel_rfl) ?_
 clear hs
 intro e s hp
 obtain ⟨rfl,d,rfl⟩:=hp
 refine Qe (R_G (Qb 3 (Qg (Qt ?_))))
 obtain ⟨rfl,rfl⟩:=Zn hm
 exact ⟨trivial,Qk⟩
def Qb8 (x:(QR × Z4)):Option Int :=
 match x with
 | (p0,p1) =>
 if p1.fill=true then
  some 0
 else
 idx p0.sources p1.buffer>>=fun v1 =>
 idx v1.value.data p1.offset>>=fun v2 =>
 some v2
def Qfh:(QR × Z4)→Int→Prop:=fun x r=>match x,r with
 | (p0,p1),r0=>∀ H,PC prog env 22 ([(QR.toD p0),(Z4.toD p1)].map .dat) H (Qd r0) H
theorem Qf1:∀ x r,Qb8 x=some r→Qfh x r:=by
 intro x r0 hm
 unfold Qb8 at hm
 unfold Qfh
 obtain ⟨p0,p1⟩:=x
 intro H
 refine PC_sx (ds:=[(QR.toD p0),(Z4.toD p1)]) (fn:=f22) rfl ?_
 refine Qe (R_G (Qb 3 (Qg (Qe (Qe (R_G (Qb 2 (Qg ?_))))))))
 refine Qx hm (QC _) (fun hm=>?_) (fun hm=>?_)
 ·refine Qe (R_G (Qb 1 (Qg (Qt ?_))))
  obtain rfl:=Qq hm
  exact ⟨trivial,Qk⟩
 refine Qs (Qe ?_)
 refine YM ?_
 refine Qb 4 ?_
 refine QF 3 QB.toD hm rfl (fun _=>rfl) (fun v1 hm=>?_)
 refine Qb 5 ?_
 refine QF 1 Qc hm rfl (fun _=>rfl) (fun v2 hm=>?_)
 refine Qb 2 ?_
 refine Qg ⟨by kernel_rfl,?_⟩
 refine Qt ?_
 obtain rfl:=Qq hm
 exact ⟨trivial,Qk⟩
def Qav (x:(QR × (List Int))):Option (Int × Bool) :=
 match x with
 | (p0,p1) =>
 QaS ((⟨p0.core.kind,p0.core.shape,p0.core.buffer,p0.core.starts,p0.core.axis,p0.core.amount,p0.core.perm,p0.core.kids⟩:Qi),p1)>>=fun ((v1,v2):(Z4 × Bool)) =>
 if v2=false then
  some (0,false)
 else
 Qb8 (p0,(⟨v1.fill,v1.buffer,v1.offset⟩:Z4))>>=fun (v3:Int) =>
 some (v3,true)
def QeY:(QR × (List Int))→(Int × Bool)→Prop:=fun x r=>match x,r with
 | (p0,p1),(r0,r1)=>∀ H,PC prog env 8 ([(QR.toD p0),(.lst ((List.map Qc) p1))].map .dat) H (.tup [(Qd r0),(Qp r1)]) H
theorem QeZ:∀ x r,Qav x=some r→QeY x r:=by
 intro x r hm
 unfold Qav at hm
 unfold QeY
 obtain ⟨p0,p1⟩:=x
 obtain ⟨r0,r1⟩:=r
 intro H
 refine PC_sx (ds:=[(QR.toD p0),(.lst ((List.map Qc) p1))]) (fn:=f8) rfl ?_
 refine Qe (R_G (Qb 3 (Qg (Qe (R_G (Qb 3 ?_))))))
 obtain ⟨⟨v1,v2⟩,hx,hm⟩:=Qf hm
 have hq:=QfA _ _ hx []
 refine Qr hq ?_
 refine Qb 6 (Qg (Qe (Qe (R_G (Qb 2 (Qg ?_))))))
 refine Qx hm (ZL _) (fun hm=>?_) (fun hm=>?_)
 ·refine Qe (R_G (Qb 2 (Qg (Qt ?_))))
  obtain ⟨rfl,rfl⟩:=Zn hm
  exact ⟨trivial,Qk⟩
 refine Qs (Qe (R_G (Qb 2 ?_)))
 obtain ⟨v3,hx,hm⟩:=Qf hm
 have hq:=Qf1 _ _ hx []
 refine Qr hq ?_
 refine Qb 2 (Qg (Qt ?_))
 obtain ⟨rfl,rfl⟩:=Zn hm
 exact ⟨trivial,Qk⟩
def Qa8 (x:(Qo × (List Int))):Option (Int × Bool) :=
 match x with
 | (p0,p1) =>
 Yf (p0.shape,p1)>>=fun (v1:Int) =>
 if v1 < 0 then
  some (0,false)
 else
 idx p0.data v1>>=fun v2 =>
 some (v2,true)
def Qfd:(Qo × (List Int))→(Int × Bool)→Prop:=fun x r=>match x,r with
 | (p0,p1),(r0,r1)=>∀ H,PC prog env 9 ([(Qo.toD p0),(.lst ((List.map Qc) p1))].map .dat) H (.tup [(Qd r0),(Qp r1)]) H
theorem Qf0:∀ x r,Qa8 x=some r→Qfd x r:=by
 intro x r hm
 unfold Qa8 at hm
 unfold Qfd
 obtain ⟨p0,p1⟩:=x
 obtain ⟨r0,r1⟩:=r
 intro H
 refine PC_sx (ds:=[(Qo.toD p0),(.lst ((List.map Qc) p1))]) (fn:=f9) rfl ?_
 refine Qe (R_G (Qb 3 (Qg (Qe (R_G (Qb 3 ?_))))))
 obtain ⟨v1,hx,hm⟩:=Qf hm
 have hq:=QaL _ _ hx []
 refine Qr hq ?_
 refine Qb 1 (Qg (Qe (Qe (R_G (Qb 2 (Qg ?_))))))
 refine Qx hm (rfl) (fun hm=>?_) (fun hm=>?_)
 ·refine Qe (R_G (Qb 2 (Qg (Qt ?_))))
  obtain ⟨rfl,rfl⟩:=Zn hm
  exact ⟨trivial,Qk⟩
 refine Qs (Qe (R_G (Qb 3 ?_)))
 refine QF 1 Qc hm rfl (fun _=>rfl) (fun v2 hm=>?_)
 refine Qb 3 (Qg (Qt ?_))
 obtain ⟨rfl,rfl⟩:=Zn hm
 exact ⟨trivial,Qk⟩
def Xn (x:(List Int)):Option (List Int) :=
 match x with
 | p0 =>
 makeM 8 (p0.length:Int) 0>>=fun v1 =>
 Zo ((cpM v1 p0).length=v1.length)>>=fun (_:Unit) =>
 some (cpM v1 p0)
def QbO:(List Int)→(List Int)→Prop:=fun x r=>match x,r with
 | p0,r0=>∀ H,PC prog env 48 ([(.lst ((List.map Qc) p0))].map .dat) H (.dat (.lst ((List.map Qc) r0))) H
theorem Qej:∀ x r,Xn x=some r→QbO x r:=by
 intro p0 r0 hm
 unfold Xn at hm
 unfold QbO
 intro H
 refine PC_sx (ds:=[(.lst ((List.map Qc) p0))]) (fn:=f48) rfl ?_
 refine Qe (R_G (Qb 1 (Qg (Qe (R_G (Qb 1 ?_))))))
 refine QG Qc p0 (es:=(List.map Qc) p0) rfl ?_
 obtain ⟨v1,hx,hm⟩:=Qf hm
 refine Z5 (v:=.arr 0 0 v1.length v1.length) (fun H=>H++[.box (cellsOf Qc v1)]) rfl (by kernel_rfl) ?_ ?_
 ·intro K hk
  exact Qdo 0 Qc (z:=0) (n:=(p0.length:Int)) (bytes:=8) hx (e:=3) (by kernel_rfl) (by kernel_rfl) (by kernel_rfl) (by kernel_rfl) rfl rfl (by kernel_rfl) (by kernel_rfl) hk
 refine Qb 1 (Qg (Qe (R_G (Qb 2 ?_))))
 refine Z5 (v:=Qd ((min p0.length v1.length:Nat):Int)) (fun H=>H.set 0 (.box (cellsOf Qc (cpM v1 p0)))) rfl (by kernel_rfl) (fun _=>Qgg Qc (d:=v1) (l:=p0) (e:=3) (i:=0) (m:=v1.length) (cap:=v1.length) (fun _=>rfl) rfl (by kernel_rfl) (by kernel_rfl) rfl (by kernel_rfl) (by kernel_rfl) (by kernel_rfl)) ?_
 refine Qg (Qe (R_G (Qb 2 (Qg (Qt ?_)))))
 obtain ⟨_,hl2,hm⟩:=Qf hm
 replace hl2:=Q3 hl2
 obtain rfl:=Qq hm
 exact ⟨trivial,YB [(.arr 0 0 v1.length v1.length)] (by kernel_rfl) (po_arr (pc_arr Qc (cpM v1 p0) hl2 (fun _=>rfl) (by kernel_rfl)))⟩
def YR (x:((List Int) × Int × (List Int) × Int × (List Int) × Int × Int × (List Int) × (List Qi) × (List QB) × (List Int) × (List Int) × Nat)):Option (Int) :=
 match x with
 | (q0,q1,q2,q3,q4,q5,q6,q7,q8,q9,q10,q11,q12) =>
 Qav ((⟨(⟨q1,q2,q3,q4,q5,q6,q7,q8⟩:Qi),q9⟩:QR),q0)>>=fun ((v1,v2):(Int × Bool)) =>
 some v1
def Jy:((List Int) × Int × (List Int) × Int × (List Int) × Int × Int × (List Int) × (List Qi) × (List QB) × (List Int) × (List Int) × Nat)→Int→Prop:=fun x r=>match x with
 | (q0,q1,q2,q3,q4,q5,q6,q7,q8,q9,q10,q11,q12)=>PC prog env 26 [(.dat (.lst ((List.map Qc) q0))),(.ptr 0 0)] [(.box [(Qd q1),(.dat (.lst ((List.map Qc) q2))),(Qd q3),(.dat (.lst ((List.map Qc) q4))),(Qd q5),(Qd q6),(.dat (.lst ((List.map Qc) q7))),(.dat (.lst (Qi.toDs q8))),(.dat (.lst ((List.map QB.toD) q9)))]),(.box [(.dat (.lst ((List.map Qc) []))),(.dat (.lst ((List.map Qc) [])))]),(.box [(.fn 26 [(.ptr 0 0)])]),(.box [(.dat (.lst ((List.map Qc) []))),(.dat (.lst ((List.map Qc) [])))]),(.box (cellsOf Qc q10)),(.box [(.dat (.lst ((List.map Qc) q11))),(.arr 4 0 q12 q12)]),(.box [(.dat (.lst ((List.map Qc) q11))),(.arr 4 0 q12 q12)])] (match r with|v5001=>(Qd v5001)) (match r with|v5001=>[(.box [(Qd q1),(.dat (.lst ((List.map Qc) q2))),(Qd q3),(.dat (.lst ((List.map Qc) q4))),(Qd q5),(Qd q6),(.dat (.lst ((List.map Qc) q7))),(.dat (.lst (Qi.toDs q8))),(.dat (.lst ((List.map QB.toD) q9)))]),(.box [(.dat (.lst ((List.map Qc) []))),(.dat (.lst ((List.map Qc) [])))]),(.box [(.fn 26 [(.ptr 0 0)])]),(.box [(.dat (.lst ((List.map Qc) []))),(.dat (.lst ((List.map Qc) [])))]),(.box (cellsOf Qc q10)),(.box [(.dat (.lst ((List.map Qc) q11))),(.arr 4 0 q12 q12)]),(.box [(.dat (.lst ((List.map Qc) q11))),(.arr 4 0 q12 q12)])])
theorem Qdi:∀ x r,YR x=some r→Jy x r:=by
 intro x r hm
 unfold YR at hm
 unfold Jy
 obtain ⟨q0,q1,q2,q3,q4,q5,q6,q7,q8,q9,q10,q11,q12⟩:=x
 refine PC_sxB (fn:=f26) rfl ?_
 refine Qe (R_G (Qb 1 (Qg (Qe (R_G (Qb 2 ?_))))))
 obtain ⟨⟨v1,v2⟩,hx,hm⟩:=Qf hm
 have hq:=QeZ _ _ hx []
 refine Qr hq ?_
 refine Qb 5 (Qg (Qe (R_G (Qb 2 (Qg (Qt ?_))))))
 obtain rfl:=Qq hm
 exact ⟨trivial,Xm (by kernel_rfl) (by kernel_rfl)⟩
def Yb (x:(Int × (List Int) × Int × (List Int) × Int × (List Int) × Int × Int × (List Int) × (List Qi) × (List QB) × (List Int) × (List Int) × Nat)):Option ((List Int)) :=
 match x with
 | (q0,q1,q2,q3,q4,q5,q6,q7,q8,q9,q10,q11,q12,q13) =>
 YR (q1,q2,q3,q4,q5,q6,q7,q8,q9,q10,q11,q12,q13)>>=fun (v1:Int) =>
 Zo (q11.length=q13)>>=fun (_:Unit) =>
 idx q11 q0>>=fun v2 =>
 setM q11 q0 v1>>=fun v4 =>
 some v4
def XF:(Int × (List Int) × Int × (List Int) × Int × (List Int) × Int × Int × (List Int) × (List Qi) × (List QB) × (List Int) × (List Int) × Nat)→(List Int)→Prop:=fun x r=>match x with
 | (q0,q1,q2,q3,q4,q5,q6,q7,q8,q9,q10,q11,q12,q13)=>PC prog env 50 [(Qd q0),(.dat (.lst ((List.map Qc) q1))),(.ptr 2 0),(.ptr 5 0)] [(.box [(Qd q2),(.dat (.lst ((List.map Qc) q3))),(Qd q4),(.dat (.lst ((List.map Qc) q5))),(Qd q6),(Qd q7),(.dat (.lst ((List.map Qc) q8))),(.dat (.lst (Qi.toDs q9))),(.dat (.lst ((List.map QB.toD) q10)))]),(.box [(.dat (.lst ((List.map Qc) []))),(.dat (.lst ((List.map Qc) [])))]),(.box [(.fn 26 [(.ptr 0 0)])]),(.box [(.dat (.lst ((List.map Qc) []))),(.dat (.lst ((List.map Qc) [])))]),(.box (cellsOf Qc q11)),(.box [(.dat (.lst ((List.map Qc) q12))),(.arr 4 0 q13 q13)]),(.box [(.dat (.lst ((List.map Qc) q12))),(.arr 4 0 q13 q13)])] (match r with|v5001=>(.tup [])) (match r with|v5001=>[(.box [(Qd q2),(.dat (.lst ((List.map Qc) q3))),(Qd q4),(.dat (.lst ((List.map Qc) q5))),(Qd q6),(Qd q7),(.dat (.lst ((List.map Qc) q8))),(.dat (.lst (Qi.toDs q9))),(.dat (.lst ((List.map QB.toD) q10)))]),(.box [(.dat (.lst ((List.map Qc) []))),(.dat (.lst ((List.map Qc) [])))]),(.box [(.fn 26 [(.ptr 0 0)])]),(.box [(.dat (.lst ((List.map Qc) []))),(.dat (.lst ((List.map Qc) [])))]),(.box (cellsOf Qc v5001)),(.box [(.dat (.lst ((List.map Qc) q12))),(.arr 4 0 q13 q13)]),(.box [(.dat (.lst ((List.map Qc) q12))),(.arr 4 0 q13 q13)])])
theorem Qcw:∀ x r,Yb x=some r→XF x r:=by
 intro x r hm
 unfold Yb at hm
 unfold XF
 obtain ⟨q0,q1,q2,q3,q4,q5,q6,q7,q8,q9,q10,q11,q12,q13⟩:=x
 refine PC_sxB (fn:=f50) rfl ?_
 refine YM ?_
 refine Qb 5 ?_
 obtain ⟨v1,hx,hm⟩:=Qf hm
 have hq:=Qdi _ _ hx
 dsimp only [Jy] at hq
 refine Qgm (f:=26) (caps:=[(.ptr 0 0)]) (j:=6000) (e:=3) (ow':=[]) hq ?_ rfl rfl (by kernel_rfl) (by kernel_rfl) (by kernel_rfl) (by kernel_rfl) (by kernel_rfl)
 obtain ⟨_,hl3,hm⟩:=Qf hm
 replace hl3:=Q3 hl3
 obtain ⟨v2,hx,hm⟩:=Qf hm
 refine QL rfl (fun _=>Qfa (e:=2) (l:=q11) (n:=q0) (i:=4) (cap:=q13) (m:=q13) hx hl3 (by kernel_rfl) (by kernel_rfl) rfl (by kernel_rfl) (by kernel_rfl)) ?_
 obtain ⟨v4,hx,hm⟩:=Qf hm
 refine Z5 (fun H=>H.set 4 (.box (cellsOf Qc v4))) rfl (by kernel_rfl) (fun _=>Qe9 Qc (l:=q11) (n:=q0) (y:=v1) hx (fun _=>rfl) (by kernel_rfl) rfl (by kernel_rfl) (by kernel_rfl) (by kernel_rfl) (by kernel_rfl)) ?_
 refine Qg ⟨by kernel_rfl,?_⟩
 obtain rfl:=Qq hm
 exact ⟨trivial,Xm (by kernel_rfl) (by kernel_rfl)⟩
def Zr (x:((List Int) × (List Int) × Int × (List Int) × Int × (List Int) × Int × Int × (List Int) × (List Qi) × (List QB) × (List Int) × Int)):Option ((List Int)) :=
 match x with
 | (q1,q0,q2,q3,q4,q5,q6,q7,q8,q9,q10,v201,v202) =>
 if v202 < (q1.length:Int) then
  Xc (q0,v202)>>=fun ((v602,v603):((List Int) × Bool)) =>
  Yb (v202,v602,q2,q3,q4,q5,q6,q7,q8,q9,q10,v201,q0,q1.length)>>=fun (v604:(List Int)) =>
  Zr (q1,q0,q2,q3,q4,q5,q6,q7,q8,q9,q10,v604,(W (v202+1)))
 else
 some v201
 partial_fixpoint
def Qa1:((List Int) × (List Int) × Int × (List Int) × Int × (List Int) × Int × Int × (List Int) × (List Qi) × (List QB) × (List Int) × Int)→(List Int)→Prop:=fun x r=>match x with
 | (q1,q0,q2,q3,q4,q5,q6,q7,q8,q9,q10,v201,v202)=>∀ st,prune 7 ((Qw (QD [1,1,0,0] (QE f49))).bind (env.hint 49).keepAt) st=⟨kp 25 [(1,(.fn 50 [(.ptr 2 0),(.ptr 5 0)])),(2,(.ptr 6 0)),(9,(Qd (q1.length:Int))),(10,(Qd v202))],[(.box [(Qd q2),(.dat (.lst ((List.map Qc) q3))),(Qd q4),(.dat (.lst ((List.map Qc) q5))),(Qd q6),(Qd q7),(.dat (.lst ((List.map Qc) q8))),(.dat (.lst (Qi.toDs q9))),(.dat (.lst ((List.map QB.toD) q10)))]),(.box [(.dat (.lst ((List.map Qc) []))),(.dat (.lst ((List.map Qc) [])))]),(.box [(.fn 26 [(.ptr 0 0)])]),(.box [(.dat (.lst ((List.map Qc) []))),(.dat (.lst ((List.map Qc) [])))]),(.box (cellsOf Qc v201)),(.box [(.dat (.lst ((List.map Qc) q0))),(.arr 4 0 q1.length q1.length)]),(.box [(.dat (.lst ((List.map Qc) q0))),(.arr 4 0 q1.length q1.length)])]⟩ →
  RL prog env (env.hint 49) true (QD [1,1,0,0] (QE f49)) 7 st (fun e s=>match r with|v601=>e=.exit 0∧∃ d,s=⟨sl d 25 [],[(.box [(Qd q2),(.dat (.lst ((List.map Qc) q3))),(Qd q4),(.dat (.lst ((List.map Qc) q5))),(Qd q6),(Qd q7),(.dat (.lst ((List.map Qc) q8))),(.dat (.lst (Qi.toDs q9))),(.dat (.lst ((List.map QB.toD) q10)))]),(.box [(.dat (.lst ((List.map Qc) []))),(.dat (.lst ((List.map Qc) [])))]),(.box [(.fn 26 [(.ptr 0 0)])]),(.box [(.dat (.lst ((List.map Qc) []))),(.dat (.lst ((List.map Qc) [])))]),(.box (cellsOf Qc v601)),(.box [(.dat (.lst ((List.map Qc) q0))),(.arr 4 0 q1.length q1.length)]),(.box [(.dat (.lst ((List.map Qc) q0))),(.arr 4 0 q1.length q1.length)])]⟩)
theorem Jq:∀ x r,Zr x=some r→Qa1 x r:=by
 refine Zr.partial_correctness _ (fun Zr Jq x r hm=>?_)
 unfold Qa1
 obtain ⟨q1,q0,q2,q3,q4,q5,q6,q7,q8,q9,q10,v201,v202⟩:=x
 intro st hst
 refine RL_at hst ?_
 clear hst
 refine Qe (R_G (Qb 1 (Qg (Qe ?_))))
 refine Qx hm (rfl) (fun hm=>?_) (fun hm=>?_)
 ·refine Qs (Qe (Qz (Qe (R_G (Qb 2 (Qg (Qe (R_G (Qb 3 ?_)))))))))
  obtain ⟨⟨v602,v603⟩,hx,hm⟩:=Qf hm
  have hq:=Qd3 _ _ hx []
  refine Qr hq ?_
  refine Qb 5 (Qg (R_G (Qb 3 ?_)))
  obtain ⟨v604,hx,hm⟩:=Qf hm
  have hq:=Qcw _ _ hx
  dsimp only [XF] at hq
  refine Qaj hq ?_
  refine Qg (R_G (Qb 2 (Qg ?_)))
  exact Jq _ _ hm _ (prune_of2 [(.box [(Qd q2),(.dat (.lst ((List.map Qc) q3))),(Qd q4),(.dat (.lst ((List.map Qc) q5))),(Qd q6),(Qd q7),(.dat (.lst ((List.map Qc) q8))),(.dat (.lst (Qi.toDs q9))),(.dat (.lst ((List.map QB.toD) q10)))]),(.box [(.dat (.lst ((List.map Qc) []))),(.dat (.lst ((List.map Qc) [])))]),(.box [(.fn 26 [(.ptr 0 0)])]),(.box [(.dat (.lst ((List.map Qc) []))),(.dat (.lst ((List.map Qc) [])))]),(.box (cellsOf Qc v604)),(.box [(.dat (.lst ((List.map Qc) q0))),(.arr 4 0 q1.length q1.length)]),(.box [(.dat (.lst ((List.map Qc) q0))),(.arr 4 0 q1.length q1.length)])] (fun _=>(pg_cons (by kernel_rfl) (pg_cons (by kernel_rfl) (pg_cons (by kernel_rfl) (pg_cons (by kernel_rfl) (pg_cons (purge_box Qc _ _ _) (pg_cons (by kernel_rfl) (pg_cons (by kernel_rfl) pg_nil)))))))) rfl)
 refine QP ?_
 obtain rfl:=Qq hm
 exact ⟨rfl,Qm⟩
def X9 (x:((List Int) × (List Int) × Int × (List Int) × Int × (List Int) × Int × Int × (List Int) × (List Qi) × (List QB))):Option ((List Int)) :=
 match x with
 | (q0,q1,q2,q3,q4,q5,q6,q7,q8,q9,q10) =>
 Zr (q1,q0,q2,q3,q4,q5,q6,q7,q8,q9,q10,q1,0)>>=fun (v601:(List Int)) =>
 some v601
def Qap:((List Int) × (List Int) × Int × (List Int) × Int × (List Int) × Int × Int × (List Int) × (List Qi) × (List QB))→(List Int)→Prop:=fun x r=>match x with
 | (q0,q1,q2,q3,q4,q5,q6,q7,q8,q9,q10)=>PC prog env 49 [(.agg [(.dat (.lst ((List.map Qc) q0))),(.arr 4 0 q1.length q1.length)]),(.fn 50 [(.ptr 2 0),(.ptr 5 0)])] [(.box [(Qd q2),(.dat (.lst ((List.map Qc) q3))),(Qd q4),(.dat (.lst ((List.map Qc) q5))),(Qd q6),(Qd q7),(.dat (.lst ((List.map Qc) q8))),(.dat (.lst (Qi.toDs q9))),(.dat (.lst ((List.map QB.toD) q10)))]),(.box [(.dat (.lst ((List.map Qc) []))),(.dat (.lst ((List.map Qc) [])))]),(.box [(.fn 26 [(.ptr 0 0)])]),(.box [(.dat (.lst ((List.map Qc) []))),(.dat (.lst ((List.map Qc) [])))]),(.box (cellsOf Qc q1)),(.box [(.dat (.lst ((List.map Qc) q0))),(.arr 4 0 q1.length q1.length)])] (match r with|v5001=>(.tup [])) (match r with|v5001=>[(.box [(Qd q2),(.dat (.lst ((List.map Qc) q3))),(Qd q4),(.dat (.lst ((List.map Qc) q5))),(Qd q6),(Qd q7),(.dat (.lst ((List.map Qc) q8))),(.dat (.lst (Qi.toDs q9))),(.dat (.lst ((List.map QB.toD) q10)))]),(.box [(.dat (.lst ((List.map Qc) []))),(.dat (.lst ((List.map Qc) [])))]),(.box [(.fn 26 [(.ptr 0 0)])]),(.box [(.dat (.lst ((List.map Qc) []))),(.dat (.lst ((List.map Qc) [])))]),(.box (cellsOf Qc v5001)),(.box [(.dat (.lst ((List.map Qc) q0))),(.arr 4 0 q1.length q1.length)]),(.box [(.dat (.lst ((List.map Qc) q0))),(.arr 4 0 q1.length q1.length)])])
theorem Qek:∀ x r,X9 x=some r→Qap x r:=by
 intro x r hm
 unfold X9 at hm
 unfold Qap
 obtain ⟨q0,q1,q2,q3,q4,q5,q6,q7,q8,q9,q10⟩:=x
 refine PC_sxB (fn:=f49) rfl ?_
 refine Qe (R_G (Qb 1 (Qg (Qe (R_G (Qb 2 (Qb 1 (Qb 1 (Qg (Qz ?_))))))))))
 obtain ⟨v601,hs,hm⟩:=Qf hm
 refine QT ?_
 refine RL_use (Jq _ _ hs) (prune_of2 [(.box [(Qd q2),(.dat (.lst ((List.map Qc) q3))),(Qd q4),(.dat (.lst ((List.map Qc) q5))),(Qd q6),(Qd q7),(.dat (.lst ((List.map Qc) q8))),(.dat (.lst (Qi.toDs q9))),(.dat (.lst ((List.map QB.toD) q10)))]),(.box [(.dat (.lst ((List.map Qc) []))),(.dat (.lst ((List.map Qc) [])))]),(.box [(.fn 26 [(.ptr 0 0)])]),(.box [(.dat (.lst ((List.map Qc) []))),(.dat (.lst ((List.map Qc) [])))]),(.box (cellsOf Qc q1)),(.box [(.dat (.lst ((List.map Qc) q0))),(.arr 4 0 q1.length q1.length)]),(.box [(.dat (.lst ((List.map Qc) q0))),(.arr 4 0 q1.length q1.length)])] (fun _=>(pg_cons (by kernel_rfl) (pg_cons (by kernel_rfl) (pg_cons (by kernel_rfl) (pg_cons (by kernel_rfl) (pg_cons (purge_box Qc _ _ _) (pg_cons (by kernel_rfl) (pg_cons (by kernel_rfl) pg_nil)))))))) rfl) ?_
 clear hs
 intro e s hp
 obtain ⟨rfl,d,rfl⟩:=hp
 obtain rfl:=Qq hm
 exact ⟨trivial,Xm (by kernel_rfl) (by kernel_rfl)⟩
def Xa (x:((List Int) × Int × Int × (List Int) × Int × Int × (List Int) × (List Qi) × (List QB))):Option (Int ⊕ ((List Int) × (List Int) × Nat × (List Int) × Nat × (List Int) × Nat × (List Int) × Nat)) :=
 match x with
 | (q0,q1,q2,q3,q4,q5,q6,q7,q8) =>
 XD q0>>=fun (v1:Int) =>
 if v1≠0 then
  some (Sum.inl v1)
 else
 Xn q0>>=fun (v2:(List Int)) =>
 YN q0>>=fun (v3:Int) =>
 makeM 8 v3 0>>=fun v4 =>
 X9 (v2,v4,q1,q0,q2,q3,q4,q5,q6,q7,q8)>>=fun (v5:(List Int)) =>
 some (Sum.inr (v5,v2,v4.length,v2,v4.length,v2,v4.length,v2,v4.length))
def Y6:((List Int) × Int × Int × (List Int) × Int × Int × (List Int) × (List Qi) × (List QB))→(Int ⊕ ((List Int) × (List Int) × Nat × (List Int) × Nat × (List Int) × Nat × (List Int) × Nat))→Prop:=fun x r=>match x with
 | (q0,q1,q2,q3,q4,q5,q6,q7,q8)=>PC prog env 25 [(.dat (.lst ((List.map Qc) q0))),(.fn 26 [(.ptr 0 0)])] [(.box [(Qd q1),(.dat (.lst ((List.map Qc) q0))),(Qd q2),(.dat (.lst ((List.map Qc) q3))),(Qd q4),(Qd q5),(.dat (.lst ((List.map Qc) q6))),(.dat (.lst (Qi.toDs q7))),(.dat (.lst ((List.map QB.toD) q8)))]),(.box [(.dat (.lst ((List.map Qc) []))),(.dat (.lst ((List.map Qc) [])))])] (match r with|.inl v5001=>(.tup [(.dat (.agg [(.lst ((List.map Qc) [])),(.lst ((List.map Qc) []))])),(Qd v5001)])|.inr ((v5002,v5003,v5004,v5005,v5006,v5007,v5008,v5009,v5010))=>(.tup [(.agg [(.dat (.lst ((List.map Qc) v5009))),(.arr 4 0 v5010 v5010)]),(Qd 0)])) (match r with|.inl v5001=>[(.box [(Qd q1),(.dat (.lst ((List.map Qc) q0))),(Qd q2),(.dat (.lst ((List.map Qc) q3))),(Qd q4),(Qd q5),(.dat (.lst ((List.map Qc) q6))),(.dat (.lst (Qi.toDs q7))),(.dat (.lst ((List.map QB.toD) q8)))]),(.box [(.dat (.lst ((List.map Qc) []))),(.dat (.lst ((List.map Qc) [])))]),(.box [(.fn 26 [(.ptr 0 0)])]),(.box [(.dat (.lst ((List.map Qc) []))),(.dat (.lst ((List.map Qc) [])))])]|.inr ((v5002,v5003,v5004,v5005,v5006,v5007,v5008,v5009,v5010))=>[(.box [(Qd q1),(.dat (.lst ((List.map Qc) q0))),(Qd q2),(.dat (.lst ((List.map Qc) q3))),(Qd q4),(Qd q5),(.dat (.lst ((List.map Qc) q6))),(.dat (.lst (Qi.toDs q7))),(.dat (.lst ((List.map QB.toD) q8)))]),(.box [(.dat (.lst ((List.map Qc) []))),(.dat (.lst ((List.map Qc) [])))]),(.box [(.fn 26 [(.ptr 0 0)])]),(.box [(.dat (.lst ((List.map Qc) v5003))),(.arr 4 0 v5004 v5004)]),(.box (cellsOf Qc v5002)),(.box [(.dat (.lst ((List.map Qc) v5005))),(.arr 4 0 v5006 v5006)]),(.box [(.dat (.lst ((List.map Qc) v5007))),(.arr 4 0 v5008 v5008)])])
theorem Qaz:∀ x r,Xa x=some r→Y6 x r:=by
 intro x r hm
 unfold Xa at hm
 unfold Y6
 obtain ⟨q0,q1,q2,q3,q4,q5,q6,q7,q8⟩:=x
 refine PC_sxB (fn:=f25) rfl ?_
 refine Qe (R_G (Qb 3 (Qg (Qe (Qe (R_G (Qb 1 ?_)))))))
 obtain ⟨v1,hx,hm⟩:=Qf hm
 have hq:=Qcq _ _ hx []
 refine Qr hq ?_
 refine Qb 1 (Qg (Qe (R_G (Qb 2 (Qg ?_)))))
 refine Qx hm (ne_dec _ _) (fun hm=>?_) (fun hm=>?_)
 ·refine Qe (R_G (Qb 4 (Qg (Qt ?_))))
  obtain rfl:=Qq hm
  exact ⟨trivial,Xm (by kernel_rfl) (by kernel_rfl)⟩
 refine Qs (Qe (R_G (Qb 1 ?_)))
 obtain ⟨v2,hx,hm⟩:=Qf hm
 have hq:=Qej _ _ hx []
 refine Qr hq ?_
 refine Qb 1 ?_
 obtain ⟨v3,hx,hm⟩:=Qf hm
 have hq:=Qbk _ _ hx []
 refine Qr hq ?_
 obtain ⟨v4,hx,hm⟩:=Qf hm
 refine Z5 (v:=.arr 4 0 v4.length v4.length) (fun H=>H++[.box (cellsOf Qc v4)]) rfl (by kernel_rfl) ?_ ?_
 ·intro K hk
  exact Qdo 4 Qc (z:=0) (n:=v3) (bytes:=8) hx (e:=2) (by kernel_rfl) (by kernel_rfl) (by kernel_rfl) (by kernel_rfl) rfl rfl (by kernel_rfl) (by kernel_rfl) hk
 refine Qb 3 (Qg (Qe (R_G (Qb 2 ?_))))
 obtain ⟨v5,hx,hm⟩:=Qf hm
 have hq:=Qek _ _ hx
 dsimp only [Qap] at hq
 refine Qaj hq ?_
 refine Qg (Qe (R_G (Qb 3 (Qg (Qt ?_)))))
 obtain rfl:=Qq hm
 exact ⟨trivial,Xm (by kernel_rfl) (by kernel_rfl)⟩
def QaE (x:QR):Option Qo :=
 match x with
 | p0 =>
 (
 Xa (p0.core.shape,p0.core.kind,p0.core.buffer,p0.core.starts,p0.core.axis,p0.core.amount,p0.core.perm,p0.core.kids,p0.sources)>>=fun (out:Int ⊕ ((List Int) × (List Int) × Nat × (List Int) × Nat × (List Int) × Nat × (List Int) × Nat)) =>
 match out with
 | .inl v1 =>
  some (⟨([]:(List Int)),([]:(List Int))⟩:Qo)
 | .inr ((v2,v3,v4,v5,v6,v7,v8,v9,v10)) =>
  Zo (v2.length=v10)>>=fun (_:Unit) =>
  some (⟨v9,v2⟩:Qo)
 )
def Qep:QR→Qo→Prop:=fun x r=>match x,r with
 | p0,r0=>∀ H,PC prog env 11 ([(QR.toD p0)].map .dat) H (.dat (Qo.toD r0)) H
theorem QfD:∀ x r,QaE x=some r→Qep x r:=by
 intro p0 r0 hm
 unfold QaE at hm
 unfold Qep
 intro H
 refine PC_sx (ds:=[(QR.toD p0)]) (fn:=f11) rfl ?_
 refine Qe (R_G (Qb 2 (Qg (Qe (R_G (Qb 4 ?_))))))
 obtain ⟨out,hx,hm⟩:=Qf hm
 rcases out with v1|⟨v2,v3,v4,v5,v6,v7,v8,v9,v10⟩
 ·have hq:=Qaz _ _ hx
  dsimp only [Y6] at hq
  refine Qaj hq ?_
  refine Qb 6 (Qg (Qe (R_G (Qb 2 (Qg (Qt ?_))))))
  obtain rfl:=Qq hm
  exact ⟨trivial,Qk⟩
 ·have hq:=Qaz _ _ hx
  dsimp only [Y6] at hq
  refine Qaj hq ?_
  refine Qb 6 (Qg (Qe (R_G (Qb 2 (Qg (Qt ?_))))))
  obtain ⟨_,hl11,hm⟩:=Qf hm
  replace hl11:=Q3 hl11
  obtain rfl:=Qq hm
  exact ⟨trivial,YB [(.agg [(.dat (.lst ((List.map Qc) v9))),(.arr 4 0 v10 v10)])] (by kernel_rfl) (po_agg (pc_cons (by kernel_rfl) (pc_cons (pc_arr Qc v2 hl11 (fun _=>rfl) (by kernel_rfl)) pc_nil)))⟩
def Yo (x:(Qo × Qo × Int)):Option (Unit ⊕ Unit) :=
 match x with
 | (p0,p1,v203) =>
 if v203 < (p0.data.length:Int) then
  idx p0.data v203>>=fun v603 =>
  idx p1.data v203>>=fun v604 =>
  if v603≠v604 then
   some (Sum.inl ())
  else
  Yo (p0,p1,(W (v203+1)))
 else
 some (Sum.inr ())
 partial_fixpoint
def QcO:(Qo × Qo × Int)→(Unit ⊕ Unit)→Prop:=fun x r=>match x with
 | (p0,p1,v203)=>∀ st,prune 2 ((Qw (QD [1,1,0,1,0,0] (QE f10))).bind (env.hint 10).keepAt) st=⟨kp 39 [(2,(.ptr 0 0)),(3,(.ptr 1 0)),(5,(Qd v203))],[(.box [(.dat (.lst ((List.map Qc) p0.shape))),(.dat (.lst ((List.map Qc) p0.data)))]),(.box [(.dat (.lst ((List.map Qc) p1.shape))),(.dat (.lst ((List.map Qc) p1.data)))])]⟩ →
  RL prog env (env.hint 10) true (QD [1,1,0,1,0,0] (QE f10)) 2 st (fun e s=>match r with|.inl _=>e=.ret∧∃ d,s=⟨sl d 39 [(4,(Qp false))],[(.box [(.dat (.lst ((List.map Qc) p0.shape))),(.dat (.lst ((List.map Qc) p0.data)))]),(.box [(.dat (.lst ((List.map Qc) p1.shape))),(.dat (.lst ((List.map Qc) p1.data)))])]⟩|.inr (_)=>e=.exit 0∧∃ d,s=⟨sl d 39 [],[(.box [(.dat (.lst ((List.map Qc) p0.shape))),(.dat (.lst ((List.map Qc) p0.data)))]),(.box [(.dat (.lst ((List.map Qc) p1.shape))),(.dat (.lst ((List.map Qc) p1.data)))])]⟩)
theorem JU:∀ x r,Yo x=some r→QcO x r:=by
 refine Yo.partial_correctness _ (fun Yo JU x r hm=>?_)
 unfold QcO
 obtain ⟨p0,p1,v203⟩:=x
 intro st hst
 refine RL_at hst ?_
 clear hst
 refine Qe (Qe (R_G (Qb 3 ?_)))
 refine QG Qc p0.data (es:=(List.map Qc) p0.data) rfl ?_
 refine Qb 1 (Qg ?_)
 refine Qx hm (rfl) (fun hm=>?_) (fun hm=>?_)
 ·refine Qs (Qe (Qz (Qe ?_)))
  refine YM ?_
  refine Qb 3 ?_
  refine QF 1 Qc hm rfl (fun _=>rfl) (fun v603 hm=>?_)
  refine Qb 4 ?_
  refine QF 1 Qc hm rfl (fun _=>rfl) (fun v604 hm=>?_)
  refine Qb 2 ?_
  refine Qg ⟨by kernel_rfl,?_⟩
  refine Qx hm (ne_dec _ _) (fun hm=>?_) (fun hm=>?_)
  ·refine Qe (R_G (Qb 1 (Qg (Qt ?_))))
   obtain rfl:=Qq hm
   exact ⟨rfl,Qm⟩
  refine Qs (R_G (Qb 3 (Qg ?_)))
  exact JU _ _ hm _ (by kernel_rfl)
 refine QP ?_
 obtain rfl:=Qq hm
 exact ⟨rfl,Qm⟩
def XI (x:(Qo × Qo)):Option Bool :=
 match x with
 | (p0,p1) =>
 (Ys (p0.shape,p1.shape)>>=fun (v2:Bool) =>
 if v2=false then
  some true
 else
 some ((p0.data.length:Int) != (p1.data.length:Int))
 )>>=fun (v1:Bool) =>
 if v1=true then
  some false
 else
 (
 Yo (p0,p1,0)>>=fun (out:Unit ⊕ Unit) =>
 match out with
 | .inl _ =>
  some false
 | .inr (_) =>
  some true
 )
def Qd4:(Qo × Qo)→Bool→Prop:=fun x r=>match x,r with
 | (p0,p1),r0=>∀ H,PC prog env 10 ([(Qo.toD p0),(Qo.toD p1)].map .dat) H (Qp r0) H
theorem QdS:∀ x r,XI x=some r→Qd4 x r:=by
 intro x r0 hm
 unfold XI at hm
 unfold Qd4
 obtain ⟨p0,p1⟩:=x
 intro H
 refine PC_sx (ds:=[(Qo.toD p0),(Qo.toD p1)]) (fn:=f10) rfl ?_
 refine Qe (R_G (Qb 3 (Qg (Qe (Qe ?_)))))
 obtain ⟨v1,hs,hm⟩:=Qf hm
 refine Q7 (fun d=>⟨sl d 39 [(2,(.ptr 0 0)),(3,(.ptr 1 0)),(20,(Qp v1))],[(.box [(.dat (.lst ((List.map Qc) p0.shape))),(.dat (.lst ((List.map Qc) p0.data)))]),(.box [(.dat (.lst ((List.map Qc) p1.shape))),(.dat (.lst ((List.map Qc) p1.data)))])]⟩) ?_ (fun d=>?_)
 ·replace hm:=hs
  clear hs
  refine R_G (Qb 4 ?_)
  obtain ⟨v2,hx,hm⟩:=Qf hm
  have hq:=Qbm _ _ hx []
  refine Qr hq ?_
  refine Qb 2 ?_
  refine Qy 12 hm (ZL _) (fun hm=>?_) (fun hm=>?_)
  ·refine Qb 8 (Qg ?_)
   obtain rfl:=Qq hm
   exact Qm
  refine Qb 2 ?_
  refine QG Qc p0.data (es:=(List.map Qc) p0.data) rfl ?_
  refine Qb 2 ?_
  refine QG Qc p1.data (es:=(List.map Qc) p1.data) rfl ?_
  refine Qb 2 (Qg ?_)
  obtain rfl:=Qq hm
  exact Qm
 clear hs
 refine Qx hm (QC _) (fun hm=>?_) (fun hm=>?_)
 ·refine Qe (R_G (Qb 1 (Qg (Qt ?_))))
  obtain rfl:=Qq hm
  exact ⟨trivial,Qk⟩
 refine Qs (Qe (Qe (R_G (Qb 1 (Qg (Qz ?_))))))
 obtain ⟨out,hs,hm⟩:=Qf hm
 refine QT ?_
 rcases out with _|_
 ·refine RL_use (JU _ _ hs) (by kernel_rfl) ?_
  clear hs
  intro e s hp
  obtain ⟨rfl,d,rfl⟩:=hp
  obtain rfl:=Qq hm
  exact ⟨trivial,Qk⟩
 ·refine RL_use (JU _ _ hs) (by kernel_rfl) ?_
  clear hs
  intro e s hp
  obtain ⟨rfl,d,rfl⟩:=hp
  refine Qe (R_G (Qb 1 (Qg (Qt ?_))))
  obtain rfl:=Qq hm
  exact ⟨trivial,Qk⟩
def Yl (x:((List Int) × (List Int) × (List Int) × Int × Int)):Option ((List Int)) :=
 match x with
 | (p0,v1,v202,v203,v204) =>
 if v204≥0 then
  idx p0 v204>>=fun v603 =>
  remM v203 v603>>=fun v604 =>
  Zo (v202.length=v1.length)>>=fun (_:Unit) =>
  idx v202 v204>>=fun v605 =>
  setM v202 v204 v604>>=fun v607 =>
  idx p0 v204>>=fun v608 =>
  quoM v203 v608>>=fun v609 =>
  Yl (p0,v1,v607,v609,(W (v204 - 1)))
 else
 some v202
 partial_fixpoint
def QcD:((List Int) × (List Int) × (List Int) × Int × Int)→(List Int)→Prop:=fun x r=>match x with
 | (p0,v1,v202,v203,v204)=>∀ st,prune 1 ((Qw (QD [1,1,0,1,0,0] (QE f109))).bind (env.hint 109).keepAt) st=⟨kp 33 [(0,(.dat (.lst ((List.map Qc) p0)))),(1,(Qd v203)),(5,(.arr 0 0 v1.length v1.length)),(6,(Qd v204))],[(.box (cellsOf Qc v202))]⟩ →
  RL prog env (env.hint 109) true (QD [1,1,0,1,0,0] (QE f109)) 1 st (fun e s=>match r with|v602=>e=.exit 0∧∃ d,s=⟨sl d 33 [(5,(.arr 0 0 v1.length v1.length))],[(.box (cellsOf Qc v602))]⟩)
theorem Qa3:∀ x r,Yl x=some r→QcD x r:=by
 refine Yl.partial_correctness _ (fun Yl Qa3 x r hm=>?_)
 unfold QcD
 obtain ⟨p0,v1,v202,v203,v204⟩:=x
 intro st hst
 refine RL_at hst ?_
 clear hst
 refine Qe (Qe (R_G (Qb 2 (Qg ?_))))
 refine Qx hm (rfl) (fun hm=>?_) (fun hm=>?_)
 ·refine Qs (Qe (Qz (Qe (R_G (Qb 5 ?_)))))
  refine QF 1 Qc hm rfl (fun _=>rfl) (fun v603 hm=>?_)
  refine Qb 1 ?_
  obtain ⟨v604,hx,hm⟩:=Qf hm
  refine QL rfl (fun _=>QeG (a:=v203) (b:=v603) hx rfl (by kernel_rfl) (by kernel_rfl)) ?_
  obtain ⟨_,hl606,hm⟩:=Qf hm
  replace hl606:=Q3 hl606
  obtain ⟨v605,hx,hm⟩:=Qf hm
  refine QL rfl (fun _=>Qfa (e:=3) (l:=v202) (n:=v204) (i:=0) (cap:=v1.length) (m:=v1.length) hx hl606 (by kernel_rfl) (by kernel_rfl) rfl (by kernel_rfl) (by kernel_rfl)) ?_
  obtain ⟨v607,hx,hm⟩:=Qf hm
  refine Z5 (fun H=>H.set 0 (.box (cellsOf Qc v607))) rfl (by kernel_rfl) (fun _=>Qe9 Qc (l:=v202) (n:=v204) (y:=v604) hx (fun _=>rfl) (by kernel_rfl) rfl (by kernel_rfl) (by kernel_rfl) (by kernel_rfl) (by kernel_rfl)) ?_
  refine Qg (R_G (Qb 3 ?_))
  refine QF 1 Qc hm rfl (fun _=>rfl) (fun v608 hm=>?_)
  refine Qb 1 ?_
  obtain ⟨v609,hx,hm⟩:=Qf hm
  refine QL rfl (fun _=>Qge (a:=v203) (b:=v608) hx rfl (by kernel_rfl) (by kernel_rfl)) ?_
  refine Qb 1 (Qg (R_G (Qb 3 (Qg ?_))))
  exact Qa3 _ _ hm _ (prune_of2 [(.box (cellsOf Qc v607))] (fun _=>(pg_cons (purge_box Qc _ _ _) pg_nil)) rfl)
 refine QP ?_
 obtain rfl:=Qq hm
 exact ⟨rfl,Qm⟩
def Qaa (x:((List Int) × Int)):Option (List Int) :=
 match x with
 | (p0,p1) =>
 makeM 8 (p0.length:Int) 0>>=fun v1 =>
 Yl (p0,v1,v1,p1,(W ((p0.length:Int) - 1)))>>=fun (v602:(List Int)) =>
 Zo (v602.length=v1.length)>>=fun (_:Unit) =>
 some v602
def QdQ:((List Int) × Int)→(List Int)→Prop:=fun x r=>match x,r with
 | (p0,p1),r0=>∀ H,PC prog env 109 ([(.lst ((List.map Qc) p0)),(Qc p1)].map .dat) H (.dat (.lst ((List.map Qc) r0))) H
theorem Qfr:∀ x r,Qaa x=some r→QdQ x r:=by
 intro x r0 hm
 unfold Qaa at hm
 unfold QdQ
 obtain ⟨p0,p1⟩:=x
 intro H
 refine PC_sx (ds:=[(.lst ((List.map Qc) p0)),(Qc p1)]) (fn:=f109) rfl ?_
 refine Qe (R_G (Qb 1 (Qg (Qe (R_G (Qb 1 ?_))))))
 refine QG Qc p0 (es:=(List.map Qc) p0) rfl ?_
 obtain ⟨v1,hx,hm⟩:=Qf hm
 refine Z5 (v:=.arr 0 0 v1.length v1.length) (fun H=>H++[.box (cellsOf Qc v1)]) rfl (by kernel_rfl) ?_ ?_
 ·intro K hk
  exact Qdo 0 Qc (z:=0) (n:=(p0.length:Int)) (bytes:=8) hx (e:=3) (by kernel_rfl) (by kernel_rfl) (by kernel_rfl) (by kernel_rfl) rfl rfl (by kernel_rfl) (by kernel_rfl) hk
 refine Qb 1 (Qg (Qe (Qe (R_G (Qb 1 ?_)))))
 refine QG Qc p0 (es:=(List.map Qc) p0) rfl ?_
 refine Qb 2 (Qg (Qz ?_))
 obtain ⟨v602,hs,hm⟩:=Qf hm
 refine QT ?_
 refine RL_use (Qa3 _ _ hs) (prune_of2 [(.box (cellsOf Qc v1))] (fun _=>(pg_cons (purge_box Qc _ _ _) pg_nil)) rfl) ?_
 clear hs
 intro e s hp
 obtain ⟨rfl,d,rfl⟩:=hp
 refine Qe (R_G (Qb 2 (Qg (Qt ?_))))
 obtain ⟨_,hl610,hm⟩:=Qf hm
 replace hl610:=Q3 hl610
 obtain rfl:=Qq hm
 exact ⟨trivial,YB [(.arr 0 0 v1.length v1.length)] (by kernel_rfl) (po_arr (pc_arr Qc v602 hl610 (fun _=>rfl) (by kernel_rfl)))⟩
def YF (x:((List Int) × Qa × (List Int) × Qa × (List Int) × Int)):Option ((List Int)) :=
 match x with
 | (v3,p0,p1,v4,v205,v206) =>
 if v206 < (v3.length:Int) then
  Zo (v205.length=v3.length)>>=fun (_:Unit) =>
  idx v205 v206>>=fun v606 =>
  idx v205 v206>>=fun v608 =>
  idx p0.starts v206>>=fun v609 =>
  Zo (v205.length=v3.length)>>=fun (_:Unit) =>
  idx v205 v206>>=fun v610 =>
  setM v205 v206 (W (v608+v609))>>=fun v612 =>
  YF (v3,p0,p1,v4,v612,(W (v206+1)))
 else
 some v205
 partial_fixpoint
def Qc6:((List Int) × Qa × (List Int) × Qa × (List Int) × Int)→(List Int)→Prop:=fun x r=>match x with
 | (v3,p0,p1,v4,v205,v206)=>∀ st,prune 2 ((Qw (QD [1,1,1,1,0,1,0,1,0,0,1,0,0] (QE f79))).bind (env.hint 79).keepAt) st=⟨kp 158 [(2,(.ptr 0 0)),(7,(.ms 1 (gb 0 p1.isEmpty) 0 v3.length v3.length)),(8,(.dat (.lst ((List.map Qc) v4.shape)))),(9,(Qd v206))],[(.box [(Qd p0.kind),(.dat (.lst ((List.map Qc) p0.shape))),(Qd p0.buffer),(.dat (.lst ((List.map Qc) p0.starts))),(Qd p0.axis),(Qd p0.amount),(.dat (.lst ((List.map Qc) p0.perm))),(.dat (.lst (Qa.toDs p0.kids)))]),(.mt 3 (gb 0 p1.isEmpty) (cellsOf Qc v205))]⟩ →
  RL prog env (env.hint 79) true (QD [1,1,1,1,0,1,0,1,0,0,1,0,0] (QE f79)) 2 st (fun e s=>match r with|v605=>e=.exit 1∧∃ d,s=⟨sl d 158 [(7,(.ms 1 (gb 0 p1.isEmpty) 0 v3.length v3.length)),(8,(.dat (.lst ((List.map Qc) v4.shape))))],[(.box [(Qd p0.kind),(.dat (.lst ((List.map Qc) p0.shape))),(Qd p0.buffer),(.dat (.lst ((List.map Qc) p0.starts))),(Qd p0.axis),(Qd p0.amount),(.dat (.lst ((List.map Qc) p0.perm))),(.dat (.lst (Qa.toDs p0.kids)))]),(.mt 3 (gb 0 p1.isEmpty) (cellsOf Qc v605))]⟩)
theorem Qbx:∀ x r,YF x=some r→Qc6 x r:=by
 refine YF.partial_correctness _ (fun YF Qbx x r hm=>?_)
 unfold Qc6
 obtain ⟨v3,p0,p1,v4,v205,v206⟩:=x
 intro st hst
 refine RL_at hst ?_
 clear hst
 refine Qe (Qe (R_G (Qb 2 (Qb 1 (Qb 1 (Qg ?_))))))
 refine Qx hm (rfl) (fun hm=>?_) (fun hm=>?_)
 ·refine Qs (Qe (Qz ?_))
  refine YM ?_
  refine Qb 4 ?_
  obtain ⟨_,hl607,hm⟩:=Qf hm
  replace hl607:=Q3 hl607
  obtain ⟨v606,hx,hm⟩:=Qf hm
  refine QL rfl (fun _=>Q6 (e:=3) (n:=v206) (j:=(v206).toNat) (tt:=1) (g:=(gb 0 p1.isEmpty)) (lo:=0) (len:=v3.length) (cap:=v3.length) (k:=.i64) (by kernel_rfl) (by kernel_rfl) rfl (by kernel_rfl) (by kernel_rfl) (idx_nat hx) (Nat.lt_of_lt_of_eq (idx_lt hx) hl607)) ?_
  obtain ⟨v608,hx,hm⟩:=Qf hm
  refine QL rfl (fun _=>Y4 (tt:=1) (g:=(gb 0 p1.isEmpty)) (j:=(0+(v206).toNat)) (e:=3) (cs:=cellsOf Qc v205) (v:=.dat (Qc v608)) (by kernel_rfl) (by kernel_rfl) rfl (by kernel_rfl) (Z7 (by kernel_rfl)) (cells_idx Qc hx)) ?_
  refine Qb 3 ?_
  refine QF 1 Qc hm rfl (fun _=>rfl) (fun v609 hm=>?_)
  refine Qb 2 ?_
  obtain ⟨_,hl611,hm⟩:=Qf hm
  replace hl611:=Q3 hl611
  obtain ⟨v610,hx,hm⟩:=Qf hm
  refine QL rfl (fun _=>Q6 (e:=3) (n:=v206) (j:=(v206).toNat) (tt:=1) (g:=(gb 0 p1.isEmpty)) (lo:=0) (len:=v3.length) (cap:=v3.length) (k:=.i64) (by kernel_rfl) (by kernel_rfl) rfl (by kernel_rfl) (by kernel_rfl) (idx_nat hx) (Nat.lt_of_lt_of_eq (idx_lt hx) hl611)) ?_
  obtain ⟨v612,hx,hm⟩:=Qf hm
  refine Z5 (fun H=>H.set 1 (.mt 3 (gb 0 p1.isEmpty) (cellsOf Qc v612))) rfl (by kernel_rfl) (fun _=>Qbu Qc (l:=v205) (n:=v206) (y:=(W (v608+v609))) hx (fun _=>rfl) (by kernel_rfl) rfl (by kernel_rfl) (by kernel_rfl) (by kernel_rfl) (by kernel_rfl)) ?_
  refine Qg ⟨by kernel_rfl,?_⟩
  refine R_G (Qb 3 (Qg ?_))
  exact Qbx _ _ hm _ (prune_of2 [(.box [(Qd p0.kind),(.dat (.lst ((List.map Qc) p0.shape))),(Qd p0.buffer),(.dat (.lst ((List.map Qc) p0.starts))),(Qd p0.axis),(Qd p0.amount),(.dat (.lst ((List.map Qc) p0.perm))),(.dat (.lst (Qa.toDs p0.kids)))]),(.mt 3 (gb 0 p1.isEmpty) (cellsOf Qc v612))] (fun _=>(pg_cons (by kernel_rfl) (pg_cons (purge_mt Qc _ _ _ _ _) pg_nil))) rfl)
 refine QP ?_
 obtain rfl:=Qq hm
 exact ⟨rfl,Qm⟩
def YC (x:(Qa × Qa × (List Int) × (List Int) × (List Int) × Int)):Option ((List Int)) :=
 match x with
 | (v4,p0,p1,v3,v829,v830) =>
 if v830 < (v4.shape.length:Int) then
  idx p0.perm v830>>=fun v1230 =>
  idx p1 v1230>>=fun v1231 =>
  app 8 v829 ([v1231]:List Int)>>=fun v1232 =>
  YC (v4,p0,p1,v3,v1232,(W (v830+1)))
 else
 some v829
 partial_fixpoint
def Qc9:(Qa × Qa × (List Int) × (List Int) × (List Int) × Int)→(List Int)→Prop:=fun x r=>match x with
 | (v4,p0,p1,v3,v829,v830)=>∀ st,prune 3 ((Qw (QD [1,1,1,1,0,1,0,1,1,1,1,1,1,1,0,1,1,0,0] (QE f79))).bind (env.hint 79).keepAt) st=⟨kp 158 [(1,(.dat (.lst ((List.map Qc) p1)))),(2,(.ptr 0 0)),(7,(.vec 2 ((List.map Qc) v829))),(8,(.dat (.lst ((List.map Qc) v4.shape)))),(10,(Qd v830))],[(.box [(Qd p0.kind),(.dat (.lst ((List.map Qc) p0.shape))),(Qd p0.buffer),(.dat (.lst ((List.map Qc) p0.starts))),(Qd p0.axis),(Qd p0.amount),(.dat (.lst ((List.map Qc) p0.perm))),(.dat (.lst (Qa.toDs p0.kids)))]),(.mt 3 (gb 0 p1.isEmpty) (cellsOf Qc v3)),(.tok 3 v829.length)]⟩ →
  RL prog env (env.hint 79) true (QD [1,1,1,1,0,1,0,1,1,1,1,1,1,1,0,1,1,0,0] (QE f79)) 3 st (fun e s=>match r with|v1229=>e=.exit 3∧∃ d,s=⟨sl d 158 [(7,(.vec 2 ((List.map Qc) v1229)))],[(.box [(Qd p0.kind),(.dat (.lst ((List.map Qc) p0.shape))),(Qd p0.buffer),(.dat (.lst ((List.map Qc) p0.starts))),(Qd p0.axis),(Qd p0.amount),(.dat (.lst ((List.map Qc) p0.perm))),(.dat (.lst (Qa.toDs p0.kids)))]),(.mt 3 (gb 0 p1.isEmpty) (cellsOf Qc v3)),(.tok 3 v1229.length)]⟩)
theorem Qbv:∀ x r,YC x=some r→Qc9 x r:=by
 refine YC.partial_correctness _ (fun YC Qbv x r hm=>?_)
 unfold Qc9
 obtain ⟨v4,p0,p1,v3,v829,v830⟩:=x
 intro st hst
 refine RL_at hst ?_
 clear hst
 refine Qe (Qe (R_G (Qb 2 ?_)))
 refine QG Qc v4.shape (es:=(List.map Qc) v4.shape) rfl ?_
 refine Qb 1 (Qg ?_)
 refine Qx hm (rfl) (fun hm=>?_) (fun hm=>?_)
 ·refine Qs (Qe (Qz (R_G (Qb 5 ?_))))
  refine QF 1 Qc hm rfl (fun _=>rfl) (fun v1230 hm=>?_)
  refine Qb 1 ?_
  refine QF 1 Qc hm rfl (fun _=>rfl) (fun v1231 hm=>?_)
  refine Qb 2 ?_
  obtain ⟨v1232,hx,hm⟩:=Qf hm
  refine YZ 3 1 8 2 Qc v829 ([v1231]:List Int) v1232 (xs:=(List.map Qc) v829) (es:=(List.map Qc) ([v1231]:List Int)) (L:=(List.map Qc)) (fun _=>rfl) rfl rfl (fun _=>rfl) hx ?_
  refine Qb 1 (Qg (R_G (Qb 3 (Qg ?_))))
  exact Qbv _ _ hm _ (prune_of2 [(.box [(Qd p0.kind),(.dat (.lst ((List.map Qc) p0.shape))),(Qd p0.buffer),(.dat (.lst ((List.map Qc) p0.starts))),(Qd p0.axis),(Qd p0.amount),(.dat (.lst ((List.map Qc) p0.perm))),(.dat (.lst (Qa.toDs p0.kids)))]),(.mt 3 (gb 0 p1.isEmpty) (cellsOf Qc v3)),(.tok 3 v1232.length)] (fun _=>(pg_cons (by kernel_rfl) (pg_cons (purge_mt Qc _ _ _ _ _) (pg_cons (by kernel_rfl) pg_nil)))) rfl)
 refine QP ?_
 obtain rfl:=Qq hm
 exact ⟨rfl,Qm⟩
def ZA (x:(Qa × (List Int))):Option (Int × (List Int) × Bool) :=
 match x with
 | (p0,p1) =>
 (if p0.kind=1 then
  some true
 else
 XM (p0.shape,p1)>>=fun (v2:Bool) =>
 some (!v2)
 )>>=fun (v1:Bool) =>
 if v1=true then
  some (0,([]:(List Int)),false)
 else
 app 8 ([]:List Int) p1>>=fun v3 =>
 idx p0.kids 0>>=fun v4 =>
 if p0.kind=2 then
  YF (v3,p0,p1,v4,v3,0)>>=fun (v605:(List Int)) =>
  Zo (v605.length=v3.length)>>=fun (_:Unit) =>
  XM (v4.shape,v605)>>=fun (v614:Bool) =>
  if v614=false then
   some (0,([]:(List Int)),false)
  else
  Zo (v605.length=v3.length)>>=fun (_:Unit) =>
  some (0,v605,true)
 else
 if p0.kind=3 then
  idx v4.shape p0.axis>>=fun v616 =>
  idx v3 p0.axis>>=fun v617 =>
  idx v3 p0.axis>>=fun v618 =>
  idx v3 p0.axis>>=fun v619 =>
  setM v3 p0.axis (W ((W (v616 - 1)) - v618))>>=fun v620 =>
  Zo (v620.length=v3.length)>>=fun (_:Unit) =>
  some (0,v620,true)
 else
 if p0.kind=4 then
  idx v3 p0.axis>>=fun v622 =>
  idx v3 p0.axis>>=fun v623 =>
  idx v4.shape p0.axis>>=fun v624 =>
  remM (W (v623+p0.amount)) v624>>=fun v625 =>
  idx v3 p0.axis>>=fun v626 =>
  setM v3 p0.axis v625>>=fun v627 =>
  Zo (v627.length=v3.length)>>=fun (_:Unit) =>
  some (0,v627,true)
 else
 if p0.kind=5 then
  YC (v4,p0,p1,v3,([]:List Int),0)>>=fun (v1229:(List Int)) =>
  some (0,v1229,true)
 else
 if p0.kind=6 then
  YL v4.shape>>=fun (v1233:Int) =>
  if v1233=0 then
   some (0,([]:(List Int)),false)
  else
  Yf (p0.shape,p1)>>=fun (v1234:Int) =>
  remM v1234 v1233>>=fun v1235 =>
  Qaa (v4.shape,v1235)>>=fun (v1236:(List Int)) =>
  some (0,v1236,true)
 else
 if p0.kind=7 then
  idx v3 p0.axis>>=fun v1237 =>
  idx v3 p0.axis>>=fun v1238 =>
  idx v4.shape p0.axis>>=fun v1239 =>
  if v1238≥v1239 then
   idx v3 p0.axis>>=fun v1240 =>
   idx v3 p0.axis>>=fun v1241 =>
   idx v4.shape p0.axis>>=fun v1242 =>
   idx v3 p0.axis>>=fun v1243 =>
   setM v3 p0.axis (W (v1241 - v1242))>>=fun v1244 =>
   Zo (v1244.length=v3.length)>>=fun (_:Unit) =>
   some (1,v1244,true)
  else
  some (0,v3,true)
 else
 some (0,v3,true)
def QeM:(Qa × (List Int))→(Int × (List Int) × Bool)→Prop:=fun x r=>match x,r with
 | (p0,p1),(r0,r1,r2)=>∀ H,PC prog env 79 ([(Qa.ex p0),(.lst ((List.map Qc) p1))].map .dat) H (.tup [(Qd r0),(.dat (.lst ((List.map Qc) r1))),(Qp r2)]) H
theorem QfL:∀ x r,ZA x=some r→QeM x r:=by
 intro x r hm
 unfold ZA at hm
 unfold QeM
 obtain ⟨p0,p1⟩:=x
 obtain ⟨r0,r1,r2⟩:=r
 intro H
 refine PC_sx (ds:=[(Qa.ex p0),(.lst ((List.map Qc) p1))]) (fn:=f79) rfl ?_
 refine Qe (R_G (Qb 4 (Qg (Qe (Qe ?_)))))
 obtain ⟨v1,hs,hm⟩:=Qf hm
 refine Q7 (fun d=>⟨sl d 158 [(1,(.dat (.lst ((List.map Qc) p1)))),(2,(.ptr 0 0)),(21,(Qp v1))],[(.box [(Qd p0.kind),(.dat (.lst ((List.map Qc) p0.shape))),(Qd p0.buffer),(.dat (.lst ((List.map Qc) p0.starts))),(Qd p0.axis),(Qd p0.amount),(.dat (.lst ((List.map Qc) p0.perm))),(.dat (.lst (Qa.toDs p0.kids)))])]⟩) ?_ (fun d=>?_)
 ·replace hm:=hs
  clear hs
  refine R_G (Qb 4 ?_)
  refine Qy 15 hm (QO _ _) (fun hm=>?_) (fun hm=>?_)
  ·refine Qb 6 (Qg ?_)
   obtain rfl:=Qq hm
   exact Qm
  refine Qb 3 ?_
  obtain ⟨v2,hx,hm⟩:=Qf hm
  have hq:=Qcv _ _ hx []
  refine Qr hq ?_
  refine Qb 2 (Qg ?_)
  obtain rfl:=Qq hm
  exact Qm
 clear hs
 refine Qx hm (QC _) (fun hm=>?_) (fun hm=>?_)
 ·refine Qe (R_G (Qb 3 (Qg (Qt ?_))))
  obtain ⟨rfl,rfl,rfl⟩:=J3 hm
  exact ⟨trivial,Qk⟩
 refine Qs (Qe (R_G (Qb 2 ?_)))
 obtain ⟨v3,hx,hm⟩:=Qf hm
 refine Z5 (v:=.ms 1 (gb 0 p1.isEmpty) 0 v3.length v3.length) (fun H=>H.set 1 (.mt 3 (gb 0 p1.isEmpty) (cellsOf Qc v3))) rfl (by kernel_rfl) (fun _ hk=>QfB Qc (l:=([]:List Int)) (es:=p1) (bytes:=8) (e:=3) (tt:=1) (g:=0) (m:=([]:List Int).length) hx (fun _=>rfl) (by kernel_rfl) (by kernel_rfl) (by kernel_rfl) (by kernel_rfl) rfl rfl (by kernel_rfl) rfl (by kernel_rfl) (source_lst (fun _=>rfl)) hk) ?_
 refine Qb 1 (Qg (Qe (R_G (Qb 2 ?_))))
 obtain ⟨v4,hx,hm⟩:=Qf hm
 refine Y2 8 Qa.toD p0.kids 0 v4 (es:=Qa.toDs p0.kids) (d:=(Qa.ex v4)) (Qa.toDs_eq _) hx (Qa.toD_eq v4) rfl ?_
 refine Qb 3 (Qg (Qe (Qe (R_G (Qb 2 (Qg (Qz (Qe (R_G (Qb 2 (Qg ?_)))))))))))
 refine Qx hm (QO _ _) (fun hm=>?_) (fun hm=>?_)
 ·refine Qe (Qe (R_G (Qb 1 (Qg (Qz ?_)))))
  obtain ⟨v605,hs,hm⟩:=Qf hm
  refine QT ?_
  refine RL_use (Qbx _ _ hs) (prune_of2 [(.box [(Qd p0.kind),(.dat (.lst ((List.map Qc) p0.shape))),(Qd p0.buffer),(.dat (.lst ((List.map Qc) p0.starts))),(Qd p0.axis),(Qd p0.amount),(.dat (.lst ((List.map Qc) p0.perm))),(.dat (.lst (Qa.toDs p0.kids)))]),(.mt 3 (gb 0 p1.isEmpty) (cellsOf Qc v3))] (fun _=>(pg_cons (by kernel_rfl) (pg_cons (purge_mt Qc _ _ _ _ _) pg_nil))) rfl) ?_
  clear hs
  intro e s hp
  obtain ⟨rfl,d,rfl⟩:=hp
  refine Qe (R_G (Qb 2 ?_))
  obtain ⟨_,hl613,hm⟩:=Qf hm
  replace hl613:=Q3 hl613
  obtain ⟨v614,hx,hm⟩:=Qf hm
  have hq:=Qcv _ _ hx []
  refine Qci (args:=[(.dat (.lst ((List.map Qc) v4.shape))),(.ms 1 (gb 0 p1.isEmpty) 0 v3.length v3.length)]) hq (ps_cons (by kernel_rfl) (ps_cons (p1_ms (pc_ms (e:=3) Qc v605 hl613 (fun _=>rfl) (by kernel_rfl))) ps_nil)) ?_
  refine Qb 1 (Qg ?_)
  refine Qx hm (ZL _) (fun hm=>?_) (fun hm=>?_)
  ·refine Qe (R_G (Qb 3 (Qg (Qt ?_))))
   obtain ⟨rfl,rfl,rfl⟩:=J3 hm
   exact ⟨trivial,Qk⟩
  refine Qs (Qe (R_G (Qb 4 (Qg (Qt ?_)))))
  obtain ⟨_,hl615,hm⟩:=Qf hm
  replace hl615:=Q3 hl615
  obtain ⟨rfl,rfl,rfl⟩:=J3 hm
  exact ⟨trivial,YB [(Qd 0),(.ms 1 (gb 0 p1.isEmpty) 0 v3.length v3.length),(Qp true)] (by kernel_rfl) (po_tup (ps_cons (by kernel_rfl) (ps_cons (p1_ms (pc_ms (e:=3) Qc v605 hl615 (fun _=>rfl) (by kernel_rfl))) (ps_cons (by kernel_rfl) ps_nil))))⟩
 refine Qe (R_G (Qb 2 (Qg ?_)))
 refine Qx hm (QO _ _) (fun hm=>?_) (fun hm=>?_)
 ·refine YM ?_
  refine Qb 6 ?_
  refine QF 1 Qc hm rfl (fun _=>rfl) (fun v616 hm=>?_)
  refine Qb 5 ?_
  obtain ⟨v617,hx,hm⟩:=Qf hm
  refine QL rfl (fun _=>Q6 (e:=3) (n:=p0.axis) (j:=(p0.axis).toNat) (tt:=1) (g:=(gb 0 p1.isEmpty)) (lo:=0) (len:=v3.length) (cap:=v3.length) (k:=.i64) (by kernel_rfl) (by kernel_rfl) rfl (by kernel_rfl) (by kernel_rfl) (idx_nat hx) (Nat.lt_of_lt_of_eq (idx_lt hx) rfl)) ?_
  obtain ⟨v618,hx,hm⟩:=Qf hm
  refine QL rfl (fun _=>Y4 (tt:=1) (g:=(gb 0 p1.isEmpty)) (j:=(0+(p0.axis).toNat)) (e:=3) (cs:=cellsOf Qc v3) (v:=.dat (Qc v618)) (by kernel_rfl) (by kernel_rfl) rfl (by kernel_rfl) (Z7 (by kernel_rfl)) (cells_idx Qc hx)) ?_
  refine Qb 1 ?_
  obtain ⟨v619,hx,hm⟩:=Qf hm
  refine QL rfl (fun _=>Q6 (e:=3) (n:=p0.axis) (j:=(p0.axis).toNat) (tt:=1) (g:=(gb 0 p1.isEmpty)) (lo:=0) (len:=v3.length) (cap:=v3.length) (k:=.i64) (by kernel_rfl) (by kernel_rfl) rfl (by kernel_rfl) (by kernel_rfl) (idx_nat hx) (Nat.lt_of_lt_of_eq (idx_lt hx) rfl)) ?_
  obtain ⟨v620,hx,hm⟩:=Qf hm
  refine Z5 (fun H=>H.set 1 (.mt 3 (gb 0 p1.isEmpty) (cellsOf Qc v620))) rfl (by kernel_rfl) (fun _=>Qbu Qc (l:=v3) (n:=p0.axis) (y:=(W ((W (v616 - 1)) - v618))) hx (fun _=>rfl) (by kernel_rfl) rfl (by kernel_rfl) (by kernel_rfl) (by kernel_rfl) (by kernel_rfl)) ?_
  refine Qg ⟨by kernel_rfl,?_⟩
  refine Qe (R_G (Qb 4 (Qg (Qt ?_))))
  obtain ⟨_,hl621,hm⟩:=Qf hm
  replace hl621:=Q3 hl621
  obtain ⟨rfl,rfl,rfl⟩:=J3 hm
  exact ⟨trivial,YB [(Qd 0),(.ms 1 (gb 0 p1.isEmpty) 0 v3.length v3.length),(Qp true)] (by kernel_rfl) (po_tup (ps_cons (by kernel_rfl) (ps_cons (p1_ms (pc_ms (e:=3) Qc v620 hl621 (fun _=>rfl) (by kernel_rfl))) (ps_cons (by kernel_rfl) ps_nil))))⟩
 refine Qe (R_G (Qb 2 (Qg ?_)))
 refine Qx hm (QO _ _) (fun hm=>?_) (fun hm=>?_)
 ·refine YM ?_
  refine Qb 6 ?_
  obtain ⟨v622,hx,hm⟩:=Qf hm
  refine QL rfl (fun _=>Q6 (e:=3) (n:=p0.axis) (j:=(p0.axis).toNat) (tt:=1) (g:=(gb 0 p1.isEmpty)) (lo:=0) (len:=v3.length) (cap:=v3.length) (k:=.i64) (by kernel_rfl) (by kernel_rfl) rfl (by kernel_rfl) (by kernel_rfl) (idx_nat hx) (Nat.lt_of_lt_of_eq (idx_lt hx) rfl)) ?_
  obtain ⟨v623,hx,hm⟩:=Qf hm
  refine QL rfl (fun _=>Y4 (tt:=1) (g:=(gb 0 p1.isEmpty)) (j:=(0+(p0.axis).toNat)) (e:=3) (cs:=cellsOf Qc v3) (v:=.dat (Qc v623)) (by kernel_rfl) (by kernel_rfl) rfl (by kernel_rfl) (Z7 (by kernel_rfl)) (cells_idx Qc hx)) ?_
  refine Qb 6 ?_
  refine QF 1 Qc hm rfl (fun _=>rfl) (fun v624 hm=>?_)
  refine Qb 1 ?_
  obtain ⟨v625,hx,hm⟩:=Qf hm
  refine QL rfl (fun _=>QeG (a:=(W (v623+p0.amount))) (b:=v624) hx rfl (by kernel_rfl) (by kernel_rfl)) ?_
  obtain ⟨v626,hx,hm⟩:=Qf hm
  refine QL rfl (fun _=>Q6 (e:=3) (n:=p0.axis) (j:=(p0.axis).toNat) (tt:=1) (g:=(gb 0 p1.isEmpty)) (lo:=0) (len:=v3.length) (cap:=v3.length) (k:=.i64) (by kernel_rfl) (by kernel_rfl) rfl (by kernel_rfl) (by kernel_rfl) (idx_nat hx) (Nat.lt_of_lt_of_eq (idx_lt hx) rfl)) ?_
  obtain ⟨v627,hx,hm⟩:=Qf hm
  refine Z5 (fun H=>H.set 1 (.mt 3 (gb 0 p1.isEmpty) (cellsOf Qc v627))) rfl (by kernel_rfl) (fun _=>Qbu Qc (l:=v3) (n:=p0.axis) (y:=v625) hx (fun _=>rfl) (by kernel_rfl) rfl (by kernel_rfl) (by kernel_rfl) (by kernel_rfl) (by kernel_rfl)) ?_
  refine Qg ⟨by kernel_rfl,?_⟩
  refine Qe (R_G (Qb 4 (Qg (Qt ?_))))
  obtain ⟨_,hl628,hm⟩:=Qf hm
  replace hl628:=Q3 hl628
  obtain ⟨rfl,rfl,rfl⟩:=J3 hm
  exact ⟨trivial,YB [(Qd 0),(.ms 1 (gb 0 p1.isEmpty) 0 v3.length v3.length),(Qp true)] (by kernel_rfl) (po_tup (ps_cons (by kernel_rfl) (ps_cons (p1_ms (pc_ms (e:=3) Qc v627 hl628 (fun _=>rfl) (by kernel_rfl))) (ps_cons (by kernel_rfl) ps_nil))))⟩
 refine Qe (R_G (Qb 2 (Qg ?_)))
 refine Qx hm (QO _ _) (fun hm=>?_) (fun hm=>?_)
 ·refine Qe (R_G (Qb 1 (Qg (Qe (R_G (Qb 1 (Qg (Qz ?_))))))))
  obtain ⟨v1229,hs,hm⟩:=Qf hm
  refine QT ?_
  refine RL_use (Qbv _ _ hs) (prune_of2 [(.box [(Qd p0.kind),(.dat (.lst ((List.map Qc) p0.shape))),(Qd p0.buffer),(.dat (.lst ((List.map Qc) p0.starts))),(Qd p0.axis),(Qd p0.amount),(.dat (.lst ((List.map Qc) p0.perm))),(.dat (.lst (Qa.toDs p0.kids)))]),(.mt 3 (gb 0 p1.isEmpty) (cellsOf Qc v3)),(.tok 3 (([]:List Int).length))] (fun _=>(pg_cons (by kernel_rfl) (pg_cons (purge_mt Qc _ _ _ _ _) (pg_cons (by kernel_rfl) pg_nil)))) rfl) ?_
  clear hs
  intro e s hp
  obtain ⟨rfl,d,rfl⟩:=hp
  refine Qe (R_G (Qb 4 (Qg (Qt ?_))))
  obtain ⟨rfl,rfl,rfl⟩:=J3 hm
  exact ⟨trivial,Qk⟩
 refine Qe (R_G (Qb 2 (Qg ?_)))
 refine Qx hm (QO _ _) (fun hm=>?_) (fun hm=>?_)
 ·refine Qe (R_G (Qb 1 ?_))
  obtain ⟨v1233,hx,hm⟩:=Qf hm
  have hq:=J7 _ _ hx []
  refine Qr hq ?_
  refine Qb 1 (Qg (Qe (Qe (R_G (Qb 2 (Qg ?_))))))
  refine Qx hm (QO _ _) (fun hm=>?_) (fun hm=>?_)
  ·refine Qe (R_G (Qb 3 (Qg (Qt ?_))))
   obtain ⟨rfl,rfl,rfl⟩:=J3 hm
   exact ⟨trivial,Qk⟩
  refine Qs (R_G (Qb 4 ?_))
  obtain ⟨v1234,hx,hm⟩:=Qf hm
  have hq:=QaL _ _ hx []
  refine Qr hq ?_
  refine Qb 1 ?_
  obtain ⟨v1235,hx,hm⟩:=Qf hm
  refine QL rfl (fun _=>QeG (a:=v1234) (b:=v1233) hx rfl (by kernel_rfl) (by kernel_rfl)) ?_
  obtain ⟨v1236,hx,hm⟩:=Qf hm
  have hq:=Qfr _ _ hx []
  refine Qr hq ?_
  refine Qb 1 (Qg (Qe (R_G (Qb 4 (Qg (Qt ?_))))))
  obtain ⟨rfl,rfl,rfl⟩:=J3 hm
  exact ⟨trivial,Qk⟩
 refine Qe (R_G (Qb 2 (Qg ?_)))
 refine Qx hm (QO _ _) (fun hm=>?_) (fun hm=>?_)
 ·refine Qe ?_
  refine YM ?_
  refine Qb 3 ?_
  obtain ⟨v1237,hx,hm⟩:=Qf hm
  refine QL rfl (fun _=>Q6 (e:=3) (n:=p0.axis) (j:=(p0.axis).toNat) (tt:=1) (g:=(gb 0 p1.isEmpty)) (lo:=0) (len:=v3.length) (cap:=v3.length) (k:=.i64) (by kernel_rfl) (by kernel_rfl) rfl (by kernel_rfl) (by kernel_rfl) (idx_nat hx) (Nat.lt_of_lt_of_eq (idx_lt hx) rfl)) ?_
  obtain ⟨v1238,hx,hm⟩:=Qf hm
  refine QL rfl (fun _=>Y4 (tt:=1) (g:=(gb 0 p1.isEmpty)) (j:=(0+(p0.axis).toNat)) (e:=3) (cs:=cellsOf Qc v3) (v:=.dat (Qc v1238)) (by kernel_rfl) (by kernel_rfl) rfl (by kernel_rfl) (Z7 (by kernel_rfl)) (cells_idx Qc hx)) ?_
  refine Qb 3 ?_
  refine QF 1 Qc hm rfl (fun _=>rfl) (fun v1239 hm=>?_)
  refine Qb 2 ?_
  refine Qg ⟨by kernel_rfl,?_⟩
  refine Qx hm (rfl) (fun hm=>?_) (fun hm=>?_)
  ·refine Qe ?_
   refine YM ?_
   refine Qb 6 ?_
   obtain ⟨v1240,hx,hm⟩:=Qf hm
   refine QL rfl (fun _=>Q6 (e:=3) (n:=p0.axis) (j:=(p0.axis).toNat) (tt:=1) (g:=(gb 0 p1.isEmpty)) (lo:=0) (len:=v3.length) (cap:=v3.length) (k:=.i64) (by kernel_rfl) (by kernel_rfl) rfl (by kernel_rfl) (by kernel_rfl) (idx_nat hx) (Nat.lt_of_lt_of_eq (idx_lt hx) rfl)) ?_
   obtain ⟨v1241,hx,hm⟩:=Qf hm
   refine QL rfl (fun _=>Y4 (tt:=1) (g:=(gb 0 p1.isEmpty)) (j:=(0+(p0.axis).toNat)) (e:=3) (cs:=cellsOf Qc v3) (v:=.dat (Qc v1241)) (by kernel_rfl) (by kernel_rfl) rfl (by kernel_rfl) (Z7 (by kernel_rfl)) (cells_idx Qc hx)) ?_
   refine Qb 3 ?_
   refine QF 1 Qc hm rfl (fun _=>rfl) (fun v1242 hm=>?_)
   refine Qb 2 ?_
   obtain ⟨v1243,hx,hm⟩:=Qf hm
   refine QL rfl (fun _=>Q6 (e:=3) (n:=p0.axis) (j:=(p0.axis).toNat) (tt:=1) (g:=(gb 0 p1.isEmpty)) (lo:=0) (len:=v3.length) (cap:=v3.length) (k:=.i64) (by kernel_rfl) (by kernel_rfl) rfl (by kernel_rfl) (by kernel_rfl) (idx_nat hx) (Nat.lt_of_lt_of_eq (idx_lt hx) rfl)) ?_
   obtain ⟨v1244,hx,hm⟩:=Qf hm
   refine Z5 (fun H=>H.set 1 (.mt 3 (gb 0 p1.isEmpty) (cellsOf Qc v1244))) rfl (by kernel_rfl) (fun _=>Qbu Qc (l:=v3) (n:=p0.axis) (y:=(W (v1241 - v1242))) hx (fun _=>rfl) (by kernel_rfl) rfl (by kernel_rfl) (by kernel_rfl) (by kernel_rfl) (by kernel_rfl)) ?_
   refine Qg ⟨by kernel_rfl,?_⟩
   refine Qe (R_G (Qb 4 (Qg (Qt ?_))))
   obtain ⟨_,hl1245,hm⟩:=Qf hm
   replace hl1245:=Q3 hl1245
   obtain ⟨rfl,rfl,rfl⟩:=J3 hm
   exact ⟨trivial,YB [(Qd 1),(.ms 1 (gb 0 p1.isEmpty) 0 v3.length v3.length),(Qp true)] (by kernel_rfl) (po_tup (ps_cons (by kernel_rfl) (ps_cons (p1_ms (pc_ms (e:=3) Qc v1244 hl1245 (fun _=>rfl) (by kernel_rfl))) (ps_cons (by kernel_rfl) ps_nil))))⟩
  refine Qs (Qe (R_G (Qb 4 (Qg (Qt ?_)))))
  obtain ⟨rfl,rfl,rfl⟩:=J3 hm
  exact ⟨trivial,YB [(Qd 0),(.ms 1 (gb 0 p1.isEmpty) 0 v3.length v3.length),(Qp true)] (by kernel_rfl) (po_tup (ps_cons (by kernel_rfl) (ps_cons (p1_ms (pc_ms (e:=3) Qc v3 rfl (fun _=>rfl) (by kernel_rfl))) (ps_cons (by kernel_rfl) ps_nil))))⟩
 refine Qs (Qe (R_G (Qb 4 (Qg (Qt ?_)))))
 obtain ⟨rfl,rfl,rfl⟩:=J3 hm
 exact ⟨trivial,YB [(Qd 0),(.ms 1 (gb 0 p1.isEmpty) 0 v3.length v3.length),(Qp true)] (by kernel_rfl) (po_tup (ps_cons (by kernel_rfl) (ps_cons (p1_ms (pc_ms (e:=3) Qc v3 rfl (fun _=>rfl) (by kernel_rfl))) (ps_cons (by kernel_rfl) ps_nil))))⟩
def ZM (x:(Qa × (List Int))):Option QH :=
 match x with
 | (p0,p1) =>
 if p0.kind=1 then
  Yf (p0.shape,p1)>>=fun (v1:Int) =>
  some (⟨false,p0.buffer,v1⟩:QH)
 else
 ZA ((⟨p0.kind,p0.shape,p0.buffer,p0.starts,p0.axis,p0.amount,p0.perm,p0.kids⟩:Qa),p1)>>=fun ((v2,v3,v4):(Int × (List Int) × Bool)) =>
 if v4=false then
  some (⟨true,0,0⟩:QH)
 else
 idx p0.kids v2>>=fun v5 =>
 ZM (v5,v3)>>=fun (v6:QH) =>
 some v6
 partial_fixpoint
def QaD:(Qa × (List Int))→QH→Prop:=fun x r=>match x,r with
 | (p0,p1),r0=>∀ H,PC prog env 51 ([(Qa.ex p0),(.lst ((List.map Qc) p1))].map .dat) H (.dat (QH.toD r0)) H
theorem g_ref16_Origin:(∀ x r,ZM x=some r→QaD x r):=by
 refine ZM.partial_correctness QaD ?_
 ·intro ZM QbR x r0 hm
  unfold QaD
  obtain ⟨p0,p1⟩:=x
  intro H
  refine PC_sx (ds:=[(Qa.ex p0),(.lst ((List.map Qc) p1))]) (fn:=f51) rfl ?_
  refine Qe (R_G (Qb 2 (Qg (Qe (Qe (R_G (Qb 3 (Qg ?_))))))))
  refine Qx hm (QO _ _) (fun hm=>?_) (fun hm=>?_)
  ·refine Qe ?_
   refine YM ?_
   refine Qb 5 ?_
   obtain ⟨v1,hx,hm⟩:=Qf hm
   have hq:=QaL _ _ hx []
   refine Qr hq ?_
   refine Qb 2 ?_
   refine Qg ⟨by kernel_rfl,?_⟩
   refine Qt ?_
   obtain rfl:=Qq hm
   exact ⟨trivial,Qk⟩
  refine Qs (Qe (R_G (Qb 2 ?_)))
  obtain ⟨⟨v2,v3,v4⟩,hx,hm⟩:=Qf hm
  have hq:=QfL _ _ hx []
  refine Qr hq ?_
  refine Qb 7 (Qg (Qe (Qe (R_G (Qb 2 (Qg ?_))))))
  refine Qx hm (ZL _) (fun hm=>?_) (fun hm=>?_)
  ·refine Qe (R_G (Qb 2 (Qg (Qt ?_))))
   obtain rfl:=Qq hm
   exact ⟨trivial,Qk⟩
  refine Qs (Qe (R_G (Qb 3 ?_)))
  obtain ⟨v5,hx,hm⟩:=Qf hm
  refine Y2 8 Qa.toD p0.kids v2 v5 (es:=Qa.toDs p0.kids) (d:=(Qa.ex v5)) (Qa.toDs_eq _) hx (Qa.toD_eq v5) rfl ?_
  refine Qb 2 ?_
  obtain ⟨v6,hx,hm⟩:=Qf hm
  have hq:=QbR _ _ hx []
  refine Qr hq ?_
  refine Qb 1 (Qg (Qt ?_))
  obtain rfl:=Qq hm
  exact ⟨trivial,Qk⟩
theorem QbR:∀ x r,ZM x=some r→QaD x r:=g_ref16_Origin
def Zy (x:((List (List Int)) × Qa × (List QH) × Int)):Option ((List QH)) :=
 match x with
 | (v1,p0,v202,v203) =>
 if v203 < (v1.length:Int) then
  idx v1 v203>>=fun v603 =>
  ZM ((⟨p0.kind,p0.shape,p0.buffer,p0.starts,p0.axis,p0.amount,p0.perm,p0.kids⟩:Qa),v603)>>=fun (v604:QH) =>
  app 24 v202 ([v604]:List QH)>>=fun v605 =>
  Zy (v1,p0,v605,(W (v203+1)))
 else
 some v202
 partial_fixpoint
def QbV:((List (List Int)) × Qa × (List QH) × Int)→(List QH)→Prop:=fun x r=>match x with
 | (v1,p0,v202,v203)=>∀ st,prune 2 ((Qw (QD [1,1,1,0,1,0,0] (QE f27))).bind (env.hint 27).keepAt) st=⟨kp 25 [(1,(.ptr 0 0)),(3,(.vec 1 ((List.map QH.toD) v202))),(4,(.dat (.lst ((List.map (fun l=>Dat.lst ((List.map Qc) l))) v1)))),(5,(Qd v203))],[(.box [(Qd p0.kind),(.dat (.lst ((List.map Qc) p0.shape))),(Qd p0.buffer),(.dat (.lst ((List.map Qc) p0.starts))),(Qd p0.axis),(Qd p0.amount),(.dat (.lst ((List.map Qc) p0.perm))),(.dat (.lst (Qa.toDs p0.kids)))]),(.tok 84 v202.length)]⟩ →
  RL prog env (env.hint 27) true (QD [1,1,1,0,1,0,0] (QE f27)) 2 st (fun e s=>match r with|v602=>e=.exit 0∧∃ d,s=⟨sl d 25 [(3,(.vec 1 ((List.map QH.toD) v602)))],[(.box [(Qd p0.kind),(.dat (.lst ((List.map Qc) p0.shape))),(Qd p0.buffer),(.dat (.lst ((List.map Qc) p0.starts))),(Qd p0.axis),(Qd p0.amount),(.dat (.lst ((List.map Qc) p0.perm))),(.dat (.lst (Qa.toDs p0.kids)))]),(.tok 84 v602.length)]⟩)
theorem Qar:∀ x r,Zy x=some r→QbV x r:=by
 refine Zy.partial_correctness _ (fun Zy Qar x r hm=>?_)
 unfold QbV
 obtain ⟨v1,p0,v202,v203⟩:=x
 intro st hst
 refine RL_at hst ?_
 clear hst
 refine Qe (Qe (R_G (Qb 2 ?_)))
 refine QG (fun l=>Dat.lst ((List.map Qc) l)) v1 (es:=(List.map (fun l=>Dat.lst ((List.map Qc) l))) v1) rfl ?_
 refine Qb 1 (Qg ?_)
 refine Qx hm (rfl) (fun hm=>?_) (fun hm=>?_)
 ·refine Qs (Qe (Qz ?_))
  refine YM ?_
  refine Qb 4 ?_
  obtain ⟨v603,hx,hm⟩:=Qf hm
  refine Y2 1 (fun l=>Dat.lst ((List.map Qc) l)) v1 v203 v603 (es:=(List.map (fun l=>Dat.lst ((List.map Qc) l))) v1) (d:=(.lst ((List.map Qc) v603))) rfl hx rfl rfl ?_
  refine Qb 1 ?_
  obtain ⟨v604,hx,hm⟩:=Qf hm
  have hq:=QbR _ _ hx []
  refine Qr hq ?_
  refine Qb 1 ?_
  obtain ⟨v605,hx,hm⟩:=Qf hm
  refine YZ 84 3 24 1 QH.toD v202 ([v604]:List QH) v605 (xs:=(List.map QH.toD) v202) (es:=(List.map QH.toD) ([v604]:List QH)) (L:=(List.map QH.toD)) (fun _=>rfl) rfl rfl QH.fit hx ?_
  refine Qb 1 ?_
  refine Qg ⟨by kernel_rfl,?_⟩
  refine R_G (Qb 3 (Qg ?_))
  exact Qar _ _ hm _ (by kernel_rfl)
 refine QP ?_
 obtain rfl:=Qq hm
 exact ⟨rfl,Qm⟩
def Jk (x:Qa):Option (List QH) :=
 match x with
 | p0 =>
 X3 p0.shape>>=fun (v1:(List (List Int))) =>
 Zy (v1,p0,([]:List QH),0)>>=fun (v602:(List QH)) =>
 some v602
def QcY:Qa→(List QH)→Prop:=fun x r=>match x,r with
 | p0,r0=>∀ H,PC prog env 27 ([(Qa.ex p0)].map .dat) H (.dat (.lst ((List.map QH.toD) r0))) H
theorem Qe8:∀ x r,Jk x=some r→QcY x r:=by
 intro p0 r0 hm
 unfold Jk at hm
 unfold QcY
 intro H
 refine PC_sx (ds:=[(Qa.ex p0)]) (fn:=f27) rfl ?_
 refine Qe (R_G (Qb 2 (Qg (Qe (R_G (Qb 1 (Qg (Qe (R_G (Qb 2 ?_))))))))))
 obtain ⟨v1,hx,hm⟩:=Qf hm
 have hq:=Qe3 _ _ hx []
 refine Qr hq ?_
 refine Qb 1 (Qg (Qe (Qe (R_G (Qb 1 (Qg (Qz ?_)))))))
 obtain ⟨v602,hs,hm⟩:=Qf hm
 refine QT ?_
 refine RL_use (Qar _ _ hs) (by kernel_rfl) ?_
 clear hs
 intro e s hp
 obtain ⟨rfl,d,rfl⟩:=hp
 refine Qe (R_G (Qb 2 (Qg (Qt ?_))))
 obtain rfl:=Qq hm
 exact ⟨trivial,Qk⟩
def QaR (x:(Qv × QH)):Option Int :=
 match x with
 | (p0,p1) =>
 if p1.fill=true then
  some 0
 else
 idx p0.sources p1.buffer>>=fun v1 =>
 idx v1.value.data p1.offset>>=fun v2 =>
 some v2
def QeI:(Qv × QH)→Int→Prop:=fun x r=>match x,r with
 | (p0,p1),r0=>∀ H,PC prog env 28 ([(Qv.toD p0),(QH.toD p1)].map .dat) H (Qd r0) H
theorem QfC:∀ x r,QaR x=some r→QeI x r:=by
 intro x r0 hm
 unfold QaR at hm
 unfold QeI
 obtain ⟨p0,p1⟩:=x
 intro H
 refine PC_sx (ds:=[(Qv.toD p0),(QH.toD p1)]) (fn:=f28) rfl ?_
 refine Qe (R_G (Qb 3 (Qg (Qe (Qe (R_G (Qb 2 (Qg ?_))))))))
 refine Qx hm (QC _) (fun hm=>?_) (fun hm=>?_)
 ·refine Qe (R_G (Qb 1 (Qg (Qt ?_))))
  obtain rfl:=Qq hm
  exact ⟨trivial,Qk⟩
 refine Qs (Qe ?_)
 refine YM ?_
 refine Qb 4 ?_
 refine QF 3 Ql.toD hm rfl (fun _=>rfl) (fun v1 hm=>?_)
 refine Qb 5 ?_
 refine QF 1 Qc hm rfl (fun _=>rfl) (fun v2 hm=>?_)
 refine Qb 2 ?_
 refine Qg ⟨by kernel_rfl,?_⟩
 refine Qt ?_
 obtain rfl:=Qq hm
 exact ⟨trivial,Qk⟩
def Z8 (x:((List QH) × Qv × (List Int) × Int)):Option ((List Int)) :=
 match x with
 | (v1,p0,v202,v203) =>
 if v203 < (v1.length:Int) then
  idx v1 v203>>=fun v603 =>
  QaR (p0,v603)>>=fun (v604:Int) =>
  app 8 v202 ([v604]:List Int)>>=fun v605 =>
  Z8 (v1,p0,v605,(W (v203+1)))
 else
 some v202
 partial_fixpoint
def Qcl:((List QH) × Qv × (List Int) × Int)→(List Int)→Prop:=fun x r=>match x with
 | (v1,p0,v202,v203)=>∀ st,prune 5 ((Qw (QD [1,1,1,0,1,0,0] (QE f12))).bind (env.hint 12).keepAt) st=⟨kp 31 [(1,(.ptr 0 0)),(2,(.ptr 1 0)),(3,(.ptr 3 0)),(4,(.dat (.lst ((List.map QH.toD) v1)))),(5,(Qd v203))],[(.box [(Qd p0.core.kind),(.dat (.lst ((List.map Qc) p0.core.shape))),(Qd p0.core.buffer),(.dat (.lst ((List.map Qc) p0.core.starts))),(Qd p0.core.axis),(Qd p0.core.amount),(.dat (.lst ((List.map Qc) p0.core.perm))),(.dat (.lst (Qa.toDs p0.core.kids))),(.dat (.lst ((List.map Ql.toD) p0.sources)))]),(.box [(.dat (.lst ((List.map Qc) []))),(.dat (.lst ((List.map Qc) [])))]),(.tok 2 v202.length),(.box [(.dat (.lst ((List.map Qc) p0.core.shape))),(.vec 2 ((List.map Qc) v202))]),(.tok 2 (([]:List Int).length))]⟩ →
  RL prog env (env.hint 12) true (QD [1,1,1,0,1,0,0] (QE f12)) 5 st (fun e s=>match r with|v602=>e=.exit 0∧∃ d,s=⟨sl d 31 [(2,(.ptr 1 0)),(3,(.ptr 3 0))],[(.box [(Qd p0.core.kind),(.dat (.lst ((List.map Qc) p0.core.shape))),(Qd p0.core.buffer),(.dat (.lst ((List.map Qc) p0.core.starts))),(Qd p0.core.axis),(Qd p0.core.amount),(.dat (.lst ((List.map Qc) p0.core.perm))),(.dat (.lst (Qa.toDs p0.core.kids))),(.dat (.lst ((List.map Ql.toD) p0.sources)))]),(.box [(.dat (.lst ((List.map Qc) []))),(.dat (.lst ((List.map Qc) [])))]),(.tok 2 v602.length),(.box [(.dat (.lst ((List.map Qc) p0.core.shape))),(.vec 2 ((List.map Qc) v602))]),(.tok 2 (([]:List Int).length))]⟩)
theorem QaT:∀ x r,Z8 x=some r→Qcl x r:=by
 refine Z8.partial_correctness _ (fun Z8 QaT x r hm=>?_)
 unfold Qcl
 obtain ⟨v1,p0,v202,v203⟩:=x
 intro st hst
 refine RL_at hst ?_
 clear hst
 refine Qe (Qe (R_G (Qb 2 ?_)))
 refine QG QH.toD v1 (es:=(List.map QH.toD) v1) rfl ?_
 refine Qb 1 (Qg ?_)
 refine Qx hm (rfl) (fun hm=>?_) (fun hm=>?_)
 ·refine Qs (Qe (Qz ?_))
  refine YM ?_
  refine Qb 5 ?_
  refine QF 3 QH.toD hm rfl (fun _=>rfl) (fun v603 hm=>?_)
  refine Qb 1 ?_
  obtain ⟨v604,hx,hm⟩:=Qf hm
  have hq:=QfC _ _ hx []
  refine Qr hq ?_
  refine Qb 1 ?_
  obtain ⟨v605,hx,hm⟩:=Qf hm
  refine YZ 2 1 8 2 Qc v202 ([v604]:List Int) v605 (xs:=(List.map Qc) v202) (es:=(List.map Qc) ([v604]:List Int)) (L:=(List.map Qc)) (fun _=>rfl) rfl rfl (fun _=>rfl) hx ?_
  refine Qb 2 ?_
  refine Qg ⟨by kernel_rfl,?_⟩
  refine R_G (Qb 3 (Qg ?_))
  exact QaT _ _ hm _ (by kernel_rfl)
 refine QP ?_
 obtain rfl:=Qq hm
 exact ⟨rfl,Qm⟩
def JC (x:Qv):Option Qo :=
 match x with
 | p0 =>
 Jk (⟨p0.core.kind,p0.core.shape,p0.core.buffer,p0.core.starts,p0.core.axis,p0.core.amount,p0.core.perm,p0.core.kids⟩:Qa)>>=fun (v1:(List QH)) =>
 Z8 (v1,p0,([]:List Int),0)>>=fun (v602:(List Int)) =>
 some (⟨p0.core.shape,v602⟩:Qo)
def Qdz:Qv→Qo→Prop:=fun x r=>match x,r with
 | p0,r0=>∀ H,PC prog env 12 ([(Qv.toD p0)].map .dat) H (.dat (Qo.toD r0)) H
theorem Qfg:∀ x r,JC x=some r→Qdz x r:=by
 intro p0 r0 hm
 unfold JC at hm
 unfold Qdz
 intro H
 refine PC_sx (ds:=[(Qv.toD p0)]) (fn:=f12) rfl ?_
 refine Qe (R_G (Qb 2 (Qg (Qe (R_G (Qb 6 (Qg (Qe (R_G (Qb 2 ?_))))))))))
 obtain ⟨v1,hx,hm⟩:=Qf hm
 have hq:=Qe8 _ _ hx []
 refine Qr hq ?_
 refine Qb 1 (Qg (Qe (Qe (R_G (Qb 1 (Qg (Qz ?_)))))))
 obtain ⟨v602,hs,hm⟩:=Qf hm
 refine QT ?_
 refine RL_use (QaT _ _ hs) (by kernel_rfl) ?_
 clear hs
 intro e s hp
 obtain ⟨rfl,d,rfl⟩:=hp
 refine Qe (R_G (Qb 2 (Qg (Qt ?_))))
 obtain rfl:=Qq hm
 exact ⟨trivial,Qk⟩
def Xp (x:((List Qn) × Qh × (List Int))):Option Bool :=
 match x with
 | (p0,p1,p2) =>
 Qbs (p0,(⟨p1.kind,p1.fn,p1.axis,p1.name,p1.nums,p1.kids⟩:Qh))>>=fun ((v1,v2):(Qv × Bool)) =>
 (Qbo ()>>=fun (v4:Bool) =>
 (if v4=false then
  some true
 else
 some (!v2)
 )>>=fun (v5:Bool) =>
 if v5=true then
  some true
 else
 some (decide ((p2.length:Int) > 50))
 )>>=fun (v3:Bool) =>
 if v3=true then
  Qbo ()>>=fun (v6:Bool) =>
  some v6
 else
 Jl (⟨(⟨v1.core.kind,v1.core.shape,v1.core.buffer,v1.core.starts,v1.core.axis,v1.core.amount,v1.core.perm,v1.core.kids⟩:Qa),v1.sources⟩:Qv)>>=fun (v7:QR) =>
 YU ((⟨(⟨v1.core.kind,v1.core.shape,v1.core.buffer,v1.core.starts,v1.core.axis,v1.core.amount,v1.core.perm,v1.core.kids⟩:Qa),v1.sources⟩:Qv),(⟨v1.core.kind,v1.core.shape,v1.core.buffer,v1.core.starts,v1.core.axis,v1.core.amount,v1.core.perm,v1.core.kids⟩:Qa))>>=fun (v8:Qo) =>
 Qav ((⟨(⟨v7.core.kind,v7.core.shape,v7.core.buffer,v7.core.starts,v7.core.axis,v7.core.amount,v7.core.perm,v7.core.kids⟩:Qi),v7.sources⟩:QR),p2)>>=fun ((v9,v10):(Int × Bool)) =>
 Qa8 ((⟨v8.shape,v8.data⟩:Qo),p2)>>=fun ((v11,v12):(Int × Bool)) =>
 QaE (⟨(⟨v7.core.kind,v7.core.shape,v7.core.buffer,v7.core.starts,v7.core.axis,v7.core.amount,v7.core.perm,v7.core.kids⟩:Qi),v7.sources⟩:QR)>>=fun (v13:Qo) =>
 XI (v13,(⟨v8.shape,v8.data⟩:Qo))>>=fun (v14:Bool) =>
 (if v14=true then
  JC (⟨(⟨v1.core.kind,v1.core.shape,v1.core.buffer,v1.core.starts,v1.core.axis,v1.core.amount,v1.core.perm,v1.core.kids⟩:Qa),v1.sources⟩:Qv)>>=fun (v16:Qo) =>
  XI (v16,(⟨v8.shape,v8.data⟩:Qo))>>=fun (v17:Bool) =>
  some v17
 else
 some false
 )>>=fun (v15:Bool) =>
 (if v15=true then
  some (v9 == v11)
 else
 some false
 )>>=fun (v18:Bool) =>
 if v18=true then
  some (v10 == v12)
 else
 some false
def Qb2:((List Qn) × Qh × (List Int))→Bool→Prop:=fun x r=>match x,r with
 | (p0,p1,p2),r0=>∀ H,PC prog env 3 ([(.lst ((List.map Qn.toD) p0)),(Qh.ex p1),(.lst ((List.map Qc) p2))].map .dat) H (Qp r0) H
theorem w_law16_PsiDenotes:∀ x r,Xp x=some r→Qb2 x r:=by
 intro x r0 hm
 unfold Xp at hm
 unfold Qb2
 obtain ⟨p0,p1,p2⟩:=x
 intro H
 refine PC_sx (ds:=[(.lst ((List.map Qn.toD) p0)),(Qh.ex p1),(.lst ((List.map Qc) p2))]) (fn:=f3) rfl ?_
 refine Qe (R_G (Qb 2 (Qg (Qe (R_G (Qb 2 ?_))))))
 obtain ⟨⟨v1,v2⟩,hx,hm⟩:=Qf hm
 have hq:=QfO _ _ hx []
 refine Qr hq ?_
 refine Qb 6 (Qg (Qe (Qe ?_)))
 obtain ⟨v3,hs,hm⟩:=Qf hm
 refine Q7 (fun d=>⟨sl d 71 [(2,(.dat (.lst ((List.map Qc) p2)))),(7,(.ptr 1 0)),(31,(Qp v3))],[(.box [(Qd p1.kind),(Qd p1.fn),(Qd p1.axis),(.dat (strD p1.name)),(.dat (.lst ((List.map Qc) p1.nums))),(.dat (.lst (Qh.toDs p1.kids)))]),(.box [(Qd v1.core.kind),(.dat (.lst ((List.map Qc) v1.core.shape))),(Qd v1.core.buffer),(.dat (.lst ((List.map Qc) v1.core.starts))),(Qd v1.core.axis),(Qd v1.core.amount),(.dat (.lst ((List.map Qc) v1.core.perm))),(.dat (.lst (Qa.toDs v1.core.kids))),(.dat (.lst ((List.map Ql.toD) v1.sources)))])]⟩) ?_ (fun d=>?_)
 ·replace hm:=hs
  clear hs
  refine Qdd ?_
  obtain ⟨v4,hx,hm⟩:=Qf hm
  have hq:=QdK _ _ hx []
  refine Qr hq ?_
  refine Qb 2 ?_
  obtain ⟨v5,hs,hm⟩:=Qf hm
  refine ZS (j:=6) (fun d=>⟨sl d 71 [(2,(.dat (.lst ((List.map Qc) p2)))),(7,(.ptr 1 0)),(26,(Qp v5))],[(.box [(Qd p1.kind),(Qd p1.fn),(Qd p1.axis),(.dat (strD p1.name)),(.dat (.lst ((List.map Qc) p1.nums))),(.dat (.lst (Qh.toDs p1.kids)))]),(.box [(Qd v1.core.kind),(.dat (.lst ((List.map Qc) v1.core.shape))),(Qd v1.core.buffer),(.dat (.lst ((List.map Qc) v1.core.starts))),(Qd v1.core.axis),(Qd v1.core.amount),(.dat (.lst ((List.map Qc) v1.core.perm))),(.dat (.lst (Qa.toDs v1.core.kids))),(.dat (.lst ((List.map Ql.toD) v1.sources)))])]⟩) (fun d=>?_) (fun hJ=>?_)
  ·clear hs
   refine Qb 1 ?_
   refine Qy 27 hm (QC _) (fun hm=>?_) (fun hm=>?_)
   ·refine Qb 4 ?_
    refine Qg ⟨by kernel_rfl,?_⟩
    obtain rfl:=Qq hm
    exact Qm
   refine Qb 1 ?_
   refine QG Qc p2 (es:=(List.map Qc) p2) rfl ?_
   refine Qb 2 ?_
   refine Qg ⟨by kernel_rfl,?_⟩
   obtain rfl:=Qq hm
   exact Qm
  clear hm
  refine Qy 23 hs (ZL _) (fun hm=>?_) (fun hm=>?_)
  ·refine Qb 3 ?_
   obtain rfl:=Qq hm
   exact hJ _ _
  refine Qb 3 ?_
  obtain rfl:=Qq hm
  exact hJ _ _
 clear hs
 refine Qx hm (QC _) (fun hm=>?_) (fun hm=>?_)
 ·refine Qe (R_G ?_)
  obtain ⟨v6,hx,hm⟩:=Qf hm
  have hq:=QdK _ _ hx []
  refine Qr hq ?_
  refine Qb 1 (Qg (Qt ?_))
  obtain rfl:=Qq hm
  exact ⟨trivial,Qk⟩
 refine Qs (Qe (R_G (Qb 1 ?_)))
 obtain ⟨v7,hx,hm⟩:=Qf hm
 have hq:=Qe7 _ _ hx []
 refine Qr hq ?_
 refine Qb 2 (Qg (Qe (R_G (Qb 3 ?_))))
 obtain ⟨v8,hx,hm⟩:=Qf hm
 have hq:=QbX _ _ hx []
 refine Qr hq ?_
 refine Qb 2 (Qg (Qe (R_G (Qb 2 ?_))))
 obtain ⟨⟨v9,v10⟩,hx,hm⟩:=Qf hm
 have hq:=QeZ _ _ hx []
 refine Qr hq ?_
 refine Qb 5 (Qg (Qe (R_G (Qb 2 ?_))))
 obtain ⟨⟨v11,v12⟩,hx,hm⟩:=Qf hm
 have hq:=Qf0 _ _ hx []
 refine Qr hq ?_
 refine Qb 5 (Qg (Qe ?_))
 refine Qgd ?_
 refine Qb 1 ?_
 obtain ⟨v13,hx,hm⟩:=Qf hm
 have hq:=QfD _ _ hx []
 refine Qr hq ?_
 refine Qb 1 ?_
 obtain ⟨v14,hx,hm⟩:=Qf hm
 have hq:=QdS _ _ hx []
 refine Qr hq ?_
 refine Qb 1 ?_
 obtain ⟨v15,hs,hm⟩:=Qf hm
 refine ZS (j:=10) (fun d=>⟨sl d 71 [(11,(Qd v9)),(12,(Qp v10)),(13,(Qd v11)),(14,(Qp v12)),(60,(Qp v15))],[(.box [(Qd p1.kind),(Qd p1.fn),(Qd p1.axis),(.dat (strD p1.name)),(.dat (.lst ((List.map Qc) p1.nums))),(.dat (.lst (Qh.toDs p1.kids)))]),(.box [(Qd v1.core.kind),(.dat (.lst ((List.map Qc) v1.core.shape))),(Qd v1.core.buffer),(.dat (.lst ((List.map Qc) v1.core.starts))),(Qd v1.core.axis),(Qd v1.core.amount),(.dat (.lst ((List.map Qc) v1.core.perm))),(.dat (.lst (Qa.toDs v1.core.kids))),(.dat (.lst ((List.map Ql.toD) v1.sources)))]),(.box [(Qd v7.core.kind),(.dat (.lst ((List.map Qc) v7.core.shape))),(Qd v7.core.buffer),(.dat (.lst ((List.map Qc) v7.core.starts))),(Qd v7.core.axis),(Qd v7.core.amount),(.dat (.lst ((List.map Qc) v7.core.perm))),(.dat (.lst (Qi.toDs v7.core.kids))),(.dat (.lst ((List.map QB.toD) v7.sources)))]),(.box [(.dat (.lst ((List.map Qc) v8.shape))),(.dat (.lst ((List.map Qc) v8.data)))])]⟩) (fun d=>?_) (fun hJ=>?_)
 ·clear hs
  refine Qb 1 ?_
  obtain ⟨v18,hs,hm⟩:=Qf hm
  refine ZS (j:=15) (fun d=>⟨sl d 71 [(12,(Qp v10)),(14,(Qp v12)),(65,(Qp v18))],[(.box [(Qd p1.kind),(Qd p1.fn),(Qd p1.axis),(.dat (strD p1.name)),(.dat (.lst ((List.map Qc) p1.nums))),(.dat (.lst (Qh.toDs p1.kids)))]),(.box [(Qd v1.core.kind),(.dat (.lst ((List.map Qc) v1.core.shape))),(Qd v1.core.buffer),(.dat (.lst ((List.map Qc) v1.core.starts))),(Qd v1.core.axis),(Qd v1.core.amount),(.dat (.lst ((List.map Qc) v1.core.perm))),(.dat (.lst (Qa.toDs v1.core.kids))),(.dat (.lst ((List.map Ql.toD) v1.sources)))]),(.box [(Qd v7.core.kind),(.dat (.lst ((List.map Qc) v7.core.shape))),(Qd v7.core.buffer),(.dat (.lst ((List.map Qc) v7.core.starts))),(Qd v7.core.axis),(Qd v7.core.amount),(.dat (.lst ((List.map Qc) v7.core.perm))),(.dat (.lst (Qi.toDs v7.core.kids))),(.dat (.lst ((List.map QB.toD) v7.sources)))]),(.box [(.dat (.lst ((List.map Qc) v8.shape))),(.dat (.lst ((List.map Qc) v8.data)))])]⟩) (fun d=>?_) (fun hJ=>?_)
  ·clear hs
   refine Qb 1 ?_
   refine Qy 66 hm (QC _) (fun hm=>?_) (fun hm=>?_)
   ·refine Qb 2 ?_
    refine QL rfl (fun _=>Qgt (a:=v10) (b:=v12) (by kernel_rfl) rfl (by kernel_rfl) (by kernel_rfl)) ?_
    refine Qb 2 ?_
    refine Qg ⟨by kernel_rfl,?_⟩
    refine Qt ?_
    obtain rfl:=Qq hm
    exact ⟨trivial,Qk⟩
   refine Qb 5 ?_
   refine Qg ⟨by kernel_rfl,?_⟩
   refine Qt ?_
   obtain rfl:=Qq hm
   exact ⟨trivial,Qk⟩
  clear hm
  refine Qy 61 hs (QC _) (fun hm=>?_) (fun hm=>?_)
  ·refine Qb 4 ?_
   obtain rfl:=Qq hm
   exact hJ _ _
  refine Qb 4 ?_
  obtain rfl:=Qq hm
  exact hJ _ _
 clear hm
 refine Qy 55 hs (QC _) (fun hm=>?_) (fun hm=>?_)
 ·refine Qb 1 ?_
  obtain ⟨v16,hx,hm⟩:=Qf hm
  have hq:=Qfg _ _ hx []
  refine Qr hq ?_
  refine Qb 1 ?_
  obtain ⟨v17,hx,hm⟩:=Qf hm
  have hq:=QdS _ _ hx []
  refine Qr hq ?_
  refine Qb 1 ?_
  obtain rfl:=Qq hm
  exact hJ _ _
 refine Qb 5 ?_
 obtain rfl:=Qq hm
 exact hJ _ _
set_option linter.unusedSimpArgs false
theorem Equal_L1:∀ (s t p q:List Int),s.length=t.length→p.length=q.length→Sm (p++s).length→ZV (p++s,q++t,(p.length:Int))=some (if s=t then .inr () else .inl ())
 | [],[],p,q,_,_,hs=>by
  rw [ZV]; simp only [Ya,if_false,if_true]
 | x::s,y::t,p,q,h1,h2,hs=>by
  rw [ZV]
  have ih:=Equal_L1 s t (p++[x]) (q++[y]) (by simpa using h1) (by simp [h2]) (by rw [← QM]; exact hs)
  rw [← QM,← QM] at ih
  simp only [Zm,if_true,QS,Qj,mid_W hs,ih]
  rw [h2,QS]
  by_cases he:x=y <;> simp [he,Qj]
 | [],_::_,_,_,h,_,_=>by cases h
 | _::_,[],_,_,h,_,_=>by cases h
theorem Equal_ok (a b:List Int) (hs:Sm a.length):Ys (a,b)=some (decide (a=b)):=by
 simp only [Ys]
 by_cases h:a.length=b.length
 ·have e:=Equal_L1 a b [] [] h rfl hs
  have e2:¬ ((a.length:Int)≠(b.length:Int)):=by omega
  simp only [e2,if_false]
  have e3:ZV (a,b,0)=_:=e
  rw [e3]
  by_cases hab:a=b
  ·subst hab; simp
  ·rw [if_neg hab,decide_eq_false hab]; rfl
 ·have e2:((a.length:Int)≠(b.length:Int)):=by omega
  have e3:a≠b:=fun e=>h (by rw [e])
  rw [if_pos e2,decide_eq_false e3]

/-- the product, exactly -/
def prodI (l:List Int):Int:=l.foldl (· * ·) 1
def negB (l:List Int):Bool:=l.any fun d=>decide (d < 0)
def bigB (l:List Int):Bool:=l.any fun d=>decide (d > 65536)
def prodR (l:List Int):Int × Int:=if negB l then (0,6) else if bigB l then (0,7) else if prodI l > 65536 then (0,7) else (prodI l,0)
def checkR (l:List Int):Int:=if negB l then 6 else if l.length > 16∨bigB l=true∨prodI l > 65536 then 7 else 0
def cellsR (l:List Int):Int:=if checkR l=0 then prodI l else 0
theorem foldl_mul:∀ (l:List Int) (x:Int),l.foldl (· * ·) x=x * l.foldl (· * ·) 1
 | [],x=>by simp
 | d::l,x=>by rw [List.foldl_cons,foldl_mul l (x * d),List.foldl_cons,foldl_mul l (1 * d),Int.one_mul,Int.mul_assoc]
theorem prodI_cons (d:Int) (l:List Int):prodI (d::l)=d * prodI l:=by rw [prodI,List.foldl_cons,foldl_mul,Int.one_mul]; rfl
theorem prodI_nil:prodI []=1:=rfl
theorem prodI_append (a b:List Int):prodI (a++b)=prodI a * prodI b:=by rw [prodI,prodI,prodI,List.foldl_append,foldl_mul]
theorem prodI_pos:∀ {l:List Int},(∀ d∈l,1≤d)→1≤prodI l
 | [],_=>by simp [prodI]
 | d::l,h=>by
  have h1:=prodI_pos (l:=l) (fun x hx=>h x (List.mem_cons_of_mem _ hx))
  have h2:=h d (List.mem_cons_self ..)
  rw [prodI_cons]
  have:=Int.mul_le_mul h2 h1 (by omega) (by omega)
  omega
theorem prodI_zero {l:List Int} (h:(0:Int)∈l):prodI l=0:=by
 obtain ⟨s,t,rfl⟩:=List.append_of_mem h
 rw [prodI_append,prodI_cons]; simp
theorem negB_cons (d:Int) (l:List Int):negB (d::l)=(decide (d < 0) || negB l):=rfl
theorem bigB_cons (d:Int) (l:List Int):bigB (d::l)=(decide (d > 65536) || bigB l):=rfl

theorem Prod_L1:∀ (s p:List Int) (z:Bool),Sm (p++s).length→Zl (p++s,z,(p.length:Int))=some (if negB s then .inl () else .inr (z || s.any (· == 0)))
 | [],p,z,hs=>by
  rw [Zl]; simp only [Ya,if_false]; simp [negB]
 | x::s,p,z,hs=>by
  rw [Zl]
  have ih:=fun z=>Prod_L1 s (p++[x]) z (by rw [← QM]; exact hs)
  rw [← QM] at ih
  simp only [Zm,if_true,QS,Qj,mid_W hs,ih,negB_cons]
  by_cases hn:x < 0
  ·simp [hn]
  ·cases z <;> by_cases hz:x=0 <;> simp [hn,hz]
theorem Prod_L2:∀ (s p:List Int) (z:Bool),Sm (p++s).length→Zx (p++s,z,(p.length:Int))=some (if bigB s then .inl () else .inr ())
 | [],p,z,hs=>by
  rw [Zx]; simp only [Ya,if_false]; simp [bigB]
 | x::s,p,z,hs=>by
  rw [Zx]
  have ih:=Prod_L2 s (p++[x]) z (by rw [← QM]; exact hs)
  rw [← QM] at ih
  simp only [Zm,if_true,QS,Qj,mid_W hs,ih,bigB_cons]
  by_cases hn:x > 65536 <;> simp [hn]
theorem Prod_L3:∀ (s p:List Int) (m:Int),Sm (p++s).length→(∀ d∈s,1≤d∧d≤65536)→1≤m→m≤65536→Zz (p++s,m,(p.length:Int))=some (if m * prodI s > 65536 then .inl () else .inr (m * prodI s))
 | [],p,m,hs,hd,h1,h2=>by
  rw [Zz]; simp only [Ya,if_false,prodI_nil,Int.mul_one]
  rw [if_neg (by omega)]
 | x::s,p,m,hs,hd,h1,h2=>by
  rw [Zz]
  have hx:=hd x (List.mem_cons_self ..)
  have b1:=Int.mul_le_mul h2 hx.2 (by omega) (by omega)
  have b2:=Int.mul_le_mul h1 hx.1 (by omega) (by omega)
  have hw:W (m * x)=m * x:=W_ok (by omega) (by omega)
  have hds:∀ d∈s,1≤d∧d≤65536:=fun d h=>hd d (List.mem_cons_of_mem _ h)
  simp only [Zm,if_true,QS,Qj,mid_W hs,hw,prodI_cons]
  rw [← Int.mul_assoc]
  by_cases hn:m * x > 65536
  ·have hp:=prodI_pos (l:=s) (fun d h=>(hds d h).1)
   have:m * x * 1≤m * x * prodI s:=Int.mul_le_mul_of_nonneg_left hp (by omega)
   rw [if_pos hn,if_pos (by omega)]
  ·have ih:=Prod_L3 s (p++[x]) (m * x) (by rw [← QM]; exact hs) hds (by omega) (by omega)
   rw [← QM] at ih
   rw [if_neg hn,ih]
theorem neg_all {l:List Int} (h:negB l=false):∀ d∈l,0≤d:=fun d hd=>by
 have:=List.any_eq_false.1 h d hd
 simp at this; omega
theorem big_all {l:List Int} (h:bigB l=false):∀ d∈l,d≤65536:=fun d hd=>by
 have:=List.any_eq_false.1 h d hd
 simp at this; omega
theorem Product_ok (l:List Int) (hs:Sm l.length):Xx l=some (prodR l):=by
 have e1:Zl (l,false,0)=_:=Prod_L1 l [] false hs
 have e2:∀ z,Zx (l,z,0)=_:=fun z=>Prod_L2 l [] z hs
 simp only [Xx,e1,Qj,prodR]
 by_cases hn:negB l=true
 ·simp [hn]
 ·have hn':negB l=false:=by simpa using hn
  simp only [hn',Bool.false_eq_true,if_false,Bool.false_or,e2,Qj]
  by_cases hb:bigB l=true
  ·simp [hb]
  ·have hb':bigB l=false:=by simpa using hb
   simp only [hb',Bool.false_eq_true,if_false]
   by_cases hz:(l.any (· == 0))=true
   ·have:prodI l=0:=prodI_zero (by simpa using hz)
    simp [hz,this]
   ·have hz':l.any (· == 0)=false:=(Bool.not_eq_true _).mp hz
    have e3:Zz (l,1,0)=_:=Prod_L3 l [] 1 hs (fun d hd=>by
     have h1:=neg_all hn' d hd
     have h2:=big_all hb' d hd
     have h3:d≠0:=fun e=>by have:=List.any_eq_false.1 hz' d hd; simp [e] at this
     omega) (by omega) (by omega)
    simp only [hz',Bool.false_eq_true,if_false,e3,Qj,Int.one_mul]
    by_cases hp:prodI l > 65536 <;> simp [hp]
theorem Check_L1:∀ (s p:List Int),Sm (p++s).length→ZT (p++s,(p.length:Int))=some (if negB s then .inl () else .inr ())
 | [],p,hs=>by
  rw [ZT]; simp only [Ya,if_false]; simp [negB]
 | x::s,p,hs=>by
  rw [ZT]
  have ih:=Check_L1 s (p++[x]) (by rw [← QM]; exact hs)
  rw [← QM] at ih
  simp only [Zm,if_true,QS,Qj,mid_W hs,ih,negB_cons]
  by_cases hn:x < 0 <;> simp [hn]
theorem Check_ok (l:List Int) (hs:Sm l.length):Yg l=some (checkR l):=by
 have e1:ZT (l,0)=_:=Check_L1 l [] hs
 simp only [Yg,e1,Qj,checkR,Product_ok l hs]
 by_cases hn:negB l=true
 ·simp [hn]
 ·simp only [hn,if_false,prodR,Bool.false_eq_true]
  by_cases hl:l.length > 16
  ·have:(l.length:Int) > 16:=by omega
   simp [hl,this,Qj]
  ·have:¬ (l.length:Int) > 16:=by omega
   by_cases hb:bigB l=true
   ·simp [hl,this,hb,Qj]
   ·by_cases hp:prodI l > 65536 <;> simp [hl,this,hb,hp,Qj]
theorem Cont1_L1:∀ (s p:List Int),Sm (p++s).length→∃ r,QI (p++s,(p.length:Int))=some r∧(negB s=true→∃ j:Nat,r=.inl (j:Int))∧(negB s=false→r=.inr ())
 | [],p,hs=>by
  rw [QI]; simp only [Ya,if_false]; exact ⟨_,rfl,fun h=>(by cases h),fun _=>rfl⟩
 | x::s,p,hs=>by
  rw [QI]
  obtain ⟨r,h1,h2,h3⟩:=Cont1_L1 s (p++[x]) (by rw [← QM]; exact hs)
  rw [← QM] at h1
  simp only [Zm,if_true,QS,Qj,mid_W hs,QaA,negB_cons]
  by_cases hn:x < 0
  ·simp only [hn,decide_true,if_true]; exact ⟨_,rfl,fun _=>⟨_,rfl⟩,fun h=>by simp at h⟩
  ·simp only [hn,decide_false,Bool.false_eq_true,if_false,Bool.false_or]; exact ⟨r,h1,h2,h3⟩
theorem Cont1_ok (l:List Int) (hs:Sm l.length):QX l=some (negB l):=by
 obtain ⟨r,h1,h2,h3⟩:=Cont1_L1 l [] hs
 have e:QI (l,0)=some r:=h1
 simp only [QX,Zg,e,Qj]
 cases hn:negB l
 ·rw [h3 hn]; rfl
 ·obtain ⟨j,rfl⟩:=h2 hn; simp [Qj]
theorem Cont2_L1:∀ (s p:List Int),Sm (p++s).length→∃ r,QJ (p++s,(p.length:Int))=some r∧(bigB s=true→∃ j:Nat,r=.inl (j:Int))∧(bigB s=false→r=.inr ())
 | [],p,hs=>by
  rw [QJ]; simp only [Ya,if_false]; exact ⟨_,rfl,fun h=>(by cases h),fun _=>rfl⟩
 | x::s,p,hs=>by
  rw [QJ]
  obtain ⟨r,h1,h2,h3⟩:=Cont2_L1 s (p++[x]) (by rw [← QM]; exact hs)
  rw [← QM] at h1
  simp only [Zm,if_true,QS,Qj,mid_W hs,QaG,bigB_cons]
  by_cases hn:x > 65536
  ·simp only [hn,decide_true,if_true]; exact ⟨_,rfl,fun _=>⟨_,rfl⟩,fun h=>by simp at h⟩
  ·simp only [hn,decide_false,Bool.false_eq_true,if_false,Bool.false_or]; exact ⟨r,h1,h2,h3⟩
theorem Cont2_ok (l:List Int) (hs:Sm l.length):QY l=some (bigB l):=by
 obtain ⟨r,h1,h2,h3⟩:=Cont2_L1 l [] hs
 have e:QJ (l,0)=some r:=h1
 simp only [QY,Zf,e,Qj]
 cases hn:bigB l
 ·rw [h3 hn]; rfl
 ·obtain ⟨j,rfl⟩:=h2 hn; simp [Qj]
def errR (l:List Int):Int:=if negB l then 6 else if bigB l then 7 else 0
theorem sizecheck_ok (l:List Int) (hs:Sm l.length):JF l=some (errR l):=by
 simp only [JF,Cont1_ok l hs,Cont2_ok l hs,Qj,errR]
 by_cases h1:negB l=true
 ·simp [h1]
 ·by_cases h2:bigB l=true <;> simp [h1,h2]
theorem Index_L1 (v:Int):∀ (s p:List Int),Sm (p++s).length→∃ r,Q0 (p++s,v,(p.length:Int))=some r∧(s.any (v == ·)=true→∃ j:Nat,r=.inl (j:Int))∧(s.any (v == ·)=false→r=.inr ())
 | [],p,hs=>by
  rw [Q0]; simp only [Ya,if_false]; exact ⟨_,rfl,fun h=>(by cases h),fun _=>rfl⟩
 | x::s,p,hs=>by
  rw [Q0]
  obtain ⟨r,h1,h2,h3⟩:=Index_L1 v s (p++[x]) (by rw [← QM]; exact hs)
  rw [← QM] at h1
  simp only [Zm,if_true,QS,Qj,mid_W hs]
  by_cases hn:v=x
  ·rw [if_pos hn]; exact ⟨_,rfl,fun _=>⟨_,rfl⟩,fun h=>by simp [hn] at h⟩
  ·rw [if_neg hn]; exact ⟨r,h1,fun h=>h2 (by simpa [hn] using h),fun h=>h3 (by simpa [hn] using h)⟩
theorem Contains_ok (l:List Int) (v:Int) (hs:Sm l.length):Z2 (l,v)=some (l.any (v == ·)):=by
 obtain ⟨r,h1,h2,h3⟩:=Index_L1 v l [] hs
 have e:Q0 (l,v,0)=some r:=h1
 simp only [Z2,Y9,e,Qj]
 cases hn:l.any (v == ·)
 ·rw [h3 hn]; rfl
 ·obtain ⟨j,rfl⟩:=h2 hn; simp [Qj]
theorem Mul_ok {a b:Int} (ha:1≤a∧a≤65536) (hb:1≤b∧b≤65536):Qb5 (a,b,65536)=some (if a * b > 65536 then (0,false) else (a * b,true)):=by
 have m1:=Int.mul_le_mul ha.2 hb.2 (by omega) (by omega)
 have m2:=Int.mul_le_mul ha.1 hb.1 (by omega) (by omega)
 have hq0:(65536:Int).tdiv b=65536 / b:=Int.tdiv_eq_ediv_of_nonneg (by omega)
 have hq1:(65536:Int) / b≤65536:=Int.ediv_le_self _ (by omega)
 have hq2:0≤(65536:Int) / b:=Int.ediv_nonneg (by omega) (by omega)
 have hq:quoM 65536 b=some (65536 / b):=by
  rw [quoM,if_neg (by omega),hq0,W_ok (by omega) (by omega)]
 have hlt:(a > 65536 / b)=(a * b > 65536):=by
  have:=Int.ediv_lt_iff_lt_mul (a:=65536) (b:=a) (c:=b) (by omega)
  simp only [gt_iff_lt,eq_iff_iff]
  exact this
 simp only [Qb5,show ¬ a < 0 by omega,show ¬ b < 0 by omega,show ¬ a > 65536 by omega,show ¬ b > 65536 by omega,show b > 0 by omega,if_false,if_true,hq,Qj,hlt,decide_false,Bool.false_eq_true]
 by_cases h:a * b > 65536
 ·simp [h]
 ·simp only [h,decide_false,Qj,Bool.false_eq_true,if_false]; rw [W_ok (by omega) (by omega)]
theorem foldP_L1:∀ (s p:List Int) (m:Int),Sm (p++s).length→(∀ d∈s,1≤d∧d≤65536)→1≤m→m≤65536 →
  ∃ r,QN (p++s,m,(p.length:Int))=some r∧(m * prodI s > 65536→∃ v,r=.inl v)∧(¬ m * prodI s > 65536→r=.inr (m * prodI s))
 | [],p,m,hs,hd,h1,h2=>by
  rw [QN]; simp only [Ya,if_false,prodI_nil,Int.mul_one]
  exact ⟨_,rfl,fun h=>(by omega),fun _=>rfl⟩
 | x::s,p,m,hs,hd,h1,h2=>by
  rw [QN]
  have hx:=hd x (List.mem_cons_self ..)
  have hds:∀ d∈s,1≤d∧d≤65536:=fun d h=>hd d (List.mem_cons_of_mem _ h)
  have b2:=Int.mul_le_mul h1 hx.1 (by omega) (by omega)
  simp only [Zm,if_true,QS,Qj,mid_W hs,JE,Mul_ok ⟨h1,h2⟩ hx,prodI_cons]
  rw [← Int.mul_assoc]
  by_cases hn:m * x > 65536
  ·have hp:=prodI_pos (l:=s) (fun d h=>(hds d h).1)
   have:m * x * 1≤m * x * prodI s:=Int.mul_le_mul_of_nonneg_left hp (by omega)
   simp only [hn,if_true,Qj]
   exact ⟨_,rfl,fun _=>⟨_,rfl⟩,fun h=>absurd h (by omega)⟩
  ·obtain ⟨r,e1,e2,e3⟩:=foldP_L1 s (p++[x]) (m * x) (by rw [← QM]; exact hs) hds (by omega) (by omega)
   rw [← QM] at e1
   simp only [hn,if_false,Qj,Bool.true_eq_false]
   exact ⟨r,e1,e2,e3⟩
theorem sProduct_ok (l:List Int) (hs:Sm l.length):X1 l=some (prodR l):=by
 simp only [X1,sizecheck_ok l hs,Qj,ZZ,prodR,errR]
 by_cases hn:negB l=true
 ·simp [hn,Qj]
 ·have hn':negB l=false:=(Bool.not_eq_true _).mp hn
  by_cases hb:bigB l=true
  ·simp [hn,hb,Qj]
  ·have hb':bigB l=false:=(Bool.not_eq_true _).mp hb
   simp only [hn',hb',Bool.false_eq_true,if_false,if_true,Contains_ok l 0 hs,Qj]
   by_cases hz:l.any ((0:Int) == ·)=true
   ·have h0:(0:Int)∈l:=by
     obtain ⟨x,hx,he⟩:=List.any_eq_true.1 hz
     have:(0:Int)=x:=by simpa using he
     rw [this]; exact hx
    have:=prodI_zero h0
    simp [hz,this,Qj]
   ·have hall:∀ d∈l,1≤d∧d≤65536:=fun d hd=>by
     have h1:=neg_all hn' d hd
     have h2:=big_all hb' d hd
     have h3:d≠0:=fun e=>hz (List.any_eq_true.2 ⟨d,hd,by simp [e]⟩)
     omega
    obtain ⟨r,e1,e2,e3⟩:=foldP_L1 l [] 1 hs hall (by omega) (by omega)
    have e4:QN (l,1,0)=some r:=e1
    rw [Int.one_mul] at e2 e3
    simp only [hz,if_false,Qj,Z0,e4,ne_eq,not_true]
    by_cases hp:prodI l > 65536
    ·obtain ⟨v,rfl⟩:=e2 hp; simp [hp,Qj]
    ·rw [e3 hp]; simp [hp,Qj]
theorem shapeCheck_ok (l:List Int) (hs:Sm l.length):XD l=some (checkR l):=by
 simp only [XD,sProduct_ok l hs,Qj,prodR,checkR]
 by_cases hn:negB l=true
 ·simp [hn,Qj]
 ·by_cases hl:l.length > 16
  ·have h16:(l.length:Int) > 16:=by omega
   by_cases hb:bigB l=true
   ·simp [hn,hb,hl,h16,Qj]
   ·by_cases hp:prodI l > 65536 <;> simp [hn,hb,hp,hl,h16,Qj]
  ·have h16:¬ (l.length:Int) > 16:=by omega
   by_cases hb:bigB l=true
   ·simp [hn,hb,hl,h16,Qj]
   ·by_cases hp:prodI l > 65536 <;> simp [hn,hb,hp,hl,h16,Qj]
/-! sums of two dimensions -/
theorem Cells_ok (l:List Int) (hs:Sm l.length):YL l=some (cellsR l):=by
 simp only [YL,Check_ok l hs,Qj,Product_ok l hs,cellsR]
 by_cases hc:checkR l=0
 ·have:(prodR l).1=prodI l:=by
   unfold checkR at hc
   unfold prodR
   by_cases hn:negB l=true
   ·simp [hn] at hc
   ·by_cases hb:bigB l=true
    ·simp [hn,hb] at hc
    ·by_cases hp:prodI l > 65536
     ·simp [hn,hb,hp] at hc
     ·simp [hn,hb,hp]
  simp [hc,this]
 ·simp [hc]
def vld:List Int→List Int→Bool
 | [],[]=>true
 | n::s,x::i=>(decide (0≤x) && decide (x < n)) && vld s i
 | _,_=>false
theorem vld_len:∀ {s i:List Int},vld s i=true→s.length=i.length
 | [],[],_=>rfl
 | n::s,x::i,h=>by
  simp only [vld,Bool.and_eq_true] at h
  simp [vld_len h.2]
 | [],_::_,h=>by cases h
 | _::_,[],h=>by cases h
theorem vld_ne:∀ {s i:List Int},s.length≠i.length→vld s i=false
 | [],[],h=>absurd rfl h
 | n::s,x::i,h=>by rw [vld,vld_ne (fun e=>h (by simp [e])),Bool.and_false]
 | [],_::_,_=>rfl
 | _::_,[],_=>rfl
theorem vld_get:∀ {s i:List Int},vld s i=true→∀ k,k < s.length→0≤i.getD k 0∧i.getD k 0 < s.getD k 0
 | [],_,_,k,hk=>by cases hk
 | n::s,x::i,h,k,hk=>by
  simp only [vld,Bool.and_eq_true,decide_eq_true_eq] at h
  cases k with
  | zero=>simpa using h.1
  | succ k=>simpa using vld_get h.2 k (by simpa using hk)
 | _::_,[],h,_,_=>by cases h
theorem vld_of:∀ {s i:List Int},s.length=i.length→(∀ k,k < s.length→0≤i.getD k 0∧i.getD k 0 < s.getD k 0)→vld s i=true
 | [],[],_,_=>rfl
 | n::s,x::i,h,hg=>by
  simp only [vld,Bool.and_eq_true,decide_eq_true_eq]
  exact ⟨by simpa using hg 0 (by simp),vld_of (by simpa using h) fun k hk=>by simpa using hg (k+1) (by simpa using hk)⟩
 | [],_::_,h,_=>by cases h
 | _::_,[],h,_=>by cases h
theorem gValid_L1:∀ (s t p q:List Int),s.length=t.length→p.length=q.length→Sm (p++s).length→ZW (p++s,q++t,(p.length:Int))=some (if vld t s=true then .inr () else .inl ())
 | [],[],p,q,_,_,hs=>by
  rw [ZW]; simp only [Ya,if_false,vld,if_true]
 | x::s,n::t,p,q,h1,h2,hs=>by
  rw [ZW]
  have ih:=gValid_L1 s t (p++[x]) (q++[n]) (by simpa using h1) (by simp [h2]) (by rw [← QM]; exact hs)
  rw [← QM,← QM] at ih
  simp only [Zm,if_true,QS,Qj,mid_W hs,ih,vld]
  rw [h2,QS]
  by_cases ha:x < 0
  ·simp [ha,Qj,show ¬ 0≤x by omega]
  ·by_cases hb:x≥n
   ·simp [ha,hb,Qj,show ¬ x < n by omega]
   ·simp [ha,hb,Qj,show 0≤x by omega,show x < n by omega]
 | [],_::_,_,_,h,_,_=>by cases h
 | _::_,[],_,_,h,_,_=>by cases h
theorem gValid_ok (s i:List Int) (hs:Sm i.length):Xe (s,i)=some (vld s i):=by
 simp only [Xe]
 by_cases h:i.length=s.length
 ·have e:ZW (i,s,0)=_:=gValid_L1 i s [] [] h rfl hs
  rw [if_neg (by omega),e]
  cases vld s i <;> rfl
 ·rw [if_pos (by omega),vld_ne (fun e=>h e.symm)]
theorem rValid_L1:∀ (s t p q:List Int),s.length=t.length→p.length=q.length→Sm (p++s).length→ZX (p++s,q++t,(p.length:Int))=some (if vld s t=true then .inr () else .inl ())
 | [],[],p,q,_,_,hs=>by
  rw [ZX]; simp only [Ya,if_false,vld,if_true]
 | n::s,x::t,p,q,h1,h2,hs=>by
  rw [ZX]
  have ih:=rValid_L1 s t (p++[n]) (q++[x]) (by simpa using h1) (by simp [h2]) (by rw [← QM]; exact hs)
  rw [← QM,← QM] at ih
  simp only [Zm,if_true,QS,Qj,mid_W hs,ih,vld]
  rw [h2,QS]
  by_cases ha:x < 0
  ·simp [ha,Qj,show ¬ 0≤x by omega]
  ·by_cases hb:x≥n
   ·simp [ha,hb,Qj,show ¬ x < n by omega]
   ·simp [ha,hb,Qj,show 0≤x by omega,show x < n by omega]
 | [],_::_,_,_,h,_,_=>by cases h
 | _::_,[],_,_,h,_,_=>by cases h
theorem rValid_ok (s i:List Int) (hs:Sm s.length):XM (s,i)=some (vld s i):=by
 simp only [XM]
 by_cases h:s.length=i.length
 ·have e:ZX (s,i,0)=_:=rValid_L1 s i [] [] h rfl hs
  rw [if_neg (by omega),e]
  cases vld s i <;> rfl
 ·rw [if_pos (by omega),vld_ne h]
theorem setM_ok {l:List Int} {j:Nat} {v:Int} (h:j < l.length):setM l (j:Int) v=some (l.set j v):=by simp [setM,h]
theorem guardM_ok {p:Prop} [Decidable p] (h:p):Zo p=some ():=if_pos h
theorem mid_set {α:Type} {p s:List α} {x y:α}:(p++x::s).set p.length y=(p++[y])++s:=by simp
/-- a list, with another one added -/
def addW (l st:List Int):List Int:=List.zipWith (fun x n=>W (x+n)) l st
theorem addW_len {l st:List Int} (h:l.length=st.length):(addW l st).length=l.length:=by simp [addW,h]
theorem rWin_L1 (v3:List Int) (p1:List Int) (v4:Qa) (kd:Int) (sh:List Int) (bu:Int) (ax am:Int) (pe:List Int) (ks:List Qa):∀ (s t p q:List Int),s.length=t.length→p.length=q.length→(q++t).length=v3.length→Sm (p++s).length →
  YF (v3,⟨kd,sh,bu,p++s,ax,am,pe,ks⟩,p1,v4,q++t,(p.length:Int))=some (q++addW t s)
 | [],[],p,q,_,h2,h3,hs=>by
  rw [YF]
  have:¬ ((p.length:Int) < (v3.length:Int)):=by simp at h3; omega
  simp only [this,if_false]; simp [addW]
 | n::s,x::t,p,q,h1,h2,h3,hs=>by
  rw [YF]
  have ih:=rWin_L1 v3 p1 v4 kd sh bu ax am pe ks s t (p++[n]) (q++[W (x+n)]) (by simpa using h1) (by simp [h2]) (by simpa using h3) (by rw [← QM]; exact hs)
  rw [← QM] at ih
  have hl:((p.length:Int) < (v3.length:Int)):=by simp at h3; omega
  have hi:idx (q++x::t) (p.length:Int)=some x:=by rw [h2]; exact QS
  have hset:setM (q++x::t) (p.length:Int) (W (x+n))=some ((q++[W (x+n)])++t):=by rw [h2,setM_ok (by simp),mid_set]
  simp only [hl,if_true,guardM_ok h3,Qj,hi,QS,hset,mid_W hs,ih]
  simp [addW]
 | [],_::_,_,_,h,_,_,_=>by cases h
 | _::_,[],_,_,h,_,_,_=>by cases h
theorem gWin_L1 (q8:List Int) (q0:Int) (q1:List Int) (q2 q4 q5:Int) (q6:List Int) (q7:List Qi):∀ (s t p q:List Int),s.length=t.length→p.length=q.length→(q++t).length=q8.length→Sm (p++s).length →
  Q5 (p++s,q8,q0,q1,q2,q4,q5,q6,q7,q++t,(p.length:Int))=some (q++addW t s)
 | [],[],p,q,_,h2,h3,hs=>by
  rw [Q5]; simp only [Ya,if_false]; simp [addW]
 | n::s,x::t,p,q,h1,h2,h3,hs=>by
  rw [Q5]
  have ih:=gWin_L1 q8 q0 q1 q2 q4 q5 q6 q7 s t (p++[n]) (q++[W (x+n)]) (by simpa using h1) (by simp [h2]) (by simpa using h3) (by rw [← QM]; exact hs)
  rw [← QM] at ih
  have hi:idx (q++x::t) (p.length:Int)=some x:=by rw [h2]; exact QS
  have hset:setM (q++x::t) (p.length:Int) (W (x+n))=some ((q++[W (x+n)])++t):=by rw [h2,setM_ok (by simp),mid_set]
  simp only [Zm,if_true,guardM_ok h3,Qj,hi,QS,hset,mid_W hs,ih]
  simp [addW]
 | [],_::_,_,_,h,_,_,_=>by cases h
 | _::_,[],_,_,h,_,_,_=>by cases h
def zipP (l s:List Int) (j r:Int):Prop:=∀ a∈l.zip s,a.1=j→r≤a.2
theorem tr_L1 (v1 p0:Qa):∀ (s t p q:List Int),v1.shape=p++s→p0.perm=q++t→s.length=t.length→p.length=q.length→Sm (p++s).length →
  ∃ o,Zd (v1,p0,(p.length:Int))=some o∧(o=.inr ()→∀ x∈t,0≤x∧x < (p0.shape.length:Int))
 | [],[],p,q,e1,e2,_,h2,hs=>by
  rw [Zd]; simp only [e1,Ya,if_false]
  exact ⟨_,rfl,fun _ x h=>by cases h⟩
 | n::s,x::t,p,q,e1,e2,h1,h2,hs=>by
  rw [Zd]
  obtain ⟨o,e,ho⟩:=tr_L1 v1 p0 s t (p++[n]) (q++[x]) (by rw [e1]; simp) (by rw [e2]; simp) (by simpa using h1) (by simp [h2]) (by rw [← QM]; exact hs)
  have hi:idx (q++x::t) (p.length:Int)=some x:=by rw [h2]; exact QS
  simp only [e1,e2,Zm,if_true,hi,Qj,mid_W hs,e]
  by_cases ha:x < 0
  ·simp only [ha,if_true,Qj]; exact ⟨_,rfl,fun h=>by cases h⟩
  ·by_cases hb:x≥(p0.shape.length:Int)
   ·simp only [ha,hb,if_false,decide_true,Qj,if_true]; exact ⟨_,rfl,fun h=>by cases h⟩
   ·simp only [ha,hb,if_false,decide_false,Qj,Bool.false_eq_true]
    refine ⟨o,rfl,fun h y hy=>?_⟩
    rcases List.mem_cons.1 hy with rfl|hy
    ·omega
    ·exact ho h y hy
 | [],_::_,_,_,_,_,h,_,_=>by cases h
 | _::_,[],_,_,_,_,h,_,_=>by cases h
theorem tr_L3 (v1 p0:Qa) (j:Int):∀ (s t p q:List Int) (v:Int),v1.shape=p++s→p0.perm=q++t→s.length=t.length→p.length=q.length→Sm (p++s).length →
  ∃ r,Q1 (v1,p0,j,v,(p.length:Int))=some r∧((∀ n∈s,0≤n)→(0≤v→r≤v)∧zipP t s j r)
 | [],[],p,q,v,e1,e2,_,h2,hs=>by
  rw [Q1]; simp only [e1,Ya,if_false]
  exact ⟨_,rfl,fun _=>⟨fun _=>Int.le_refl _,fun a ha=>by cases ha⟩⟩
 | n::s,x::t,p,q,v,e1,e2,h1,h2,hs=>by
  rw [Q1]
  have ih:=fun v=>tr_L3 v1 p0 j s t (p++[n]) (q++[x]) v (by rw [e1]; simp) (by rw [e2]; simp) (by simpa using h1) (by simp [h2]) (by rw [← QM]; exact hs)
  have hi:idx (q++x::t) (p.length:Int)=some x:=by rw [h2]; exact QS
  simp only [e1,e2,Zm,if_true,hi,Qj,QS,mid_W hs]
  have new:∃ r,Q1 (v1,p0,j,n,((p++[n]).length:Int))=some r∧((∀ m∈n::s,0≤m)→r≤n∧zipP (x::t) (n::s) j r):=by
   obtain ⟨r,e,hr⟩:=ih n
   refine ⟨r,e,fun h=>?_⟩
   obtain ⟨g1,g2⟩:=hr (fun m hm=>h m (List.mem_cons_of_mem _ hm))
   have g3:=g1 (h n (List.mem_cons_self ..))
   exact ⟨g3,fun a ha=>by
    rcases List.mem_cons.1 ha with rfl|ha
    ·exact fun _=>g3
    ·exact g2 a ha⟩
  by_cases hx:x=j
  ·simp only [hx,if_true]
   by_cases hv:v < 0
   ·simp only [hv,if_true,Qj]
    obtain ⟨r,e,hr⟩:=new
    exact ⟨r,e,fun h=>⟨fun h'=>by omega,by have:=(hr h).2; rwa [hx] at this⟩⟩
   ·by_cases hn:n < v
    ·simp only [hv,hn,if_false,Qj,decide_true,if_true]
     obtain ⟨r,e,hr⟩:=new
     exact ⟨r,e,fun h=>⟨fun h'=>by have:=(hr h).1; omega,by have:=(hr h).2; rwa [hx] at this⟩⟩
    ·simp only [hv,hn,if_false,Qj,decide_false,Bool.false_eq_true]
     obtain ⟨r,e,hr⟩:=ih v
     refine ⟨r,e,fun h=>?_⟩
     obtain ⟨g1,g2⟩:=hr (fun m hm=>h m (List.mem_cons_of_mem _ hm))
     have g3:=g1 (by omega)
     exact ⟨fun _=>g3,fun a ha=>by
      rcases List.mem_cons.1 ha with rfl|ha
      ·exact fun _=>by show r≤n; omega
      ·exact g2 a ha⟩
  ·simp only [hx,if_false,Qj,Bool.false_eq_true]
   obtain ⟨r,e,hr⟩:=ih v
   refine ⟨r,e,fun h=>?_⟩
   obtain ⟨g1,g2⟩:=hr (fun m hm=>h m (List.mem_cons_of_mem _ hm))
   exact ⟨g1,fun a ha=>by
    rcases List.mem_cons.1 ha with rfl|ha
    ·exact fun h'=>absurd h' hx
    ·exact g2 a ha⟩
 | [],_::_,_,_,_,_,_,h,_,_=>by cases h
 | _::_,[],_,_,_,_,_,h,_,_=>by cases h
theorem tr_L2 (v1 p0:Qa) (hl:v1.shape.length=p0.perm.length) (hv:Sm v1.shape.length):∀ (s p:List Int),p0.shape=p++s→Sm (p++s).length →
  ∃ o,Zc (p0,v1,(p.length:Int))=some o∧(o=.inr ()→(∀ n∈v1.shape,0≤n)→∀ k,k < s.length→zipP p0.perm v1.shape ((p.length+k:Nat):Int) (s.getD k 0))
 | [],p,e1,hs=>by
  rw [Zc]; simp only [e1,Ya,if_false]
  exact ⟨_,rfl,fun _ _ k hk=>by cases hk⟩
 | n::s,p,e1,hs=>by
  rw [Zc]
  obtain ⟨r,er,hr⟩:=tr_L3 v1 p0 (p.length:Int) v1.shape p0.perm [] [] (-1) rfl rfl hl rfl hv
  obtain ⟨o,e,ho⟩:=tr_L2 v1 p0 hl hv s (p++[n]) (by rw [e1]; simp) (by rw [← QM]; exact hs)
  have er':Q1 (v1,p0,(p.length:Int),-1,0)=some r:=er
  simp only [e1,Zm,if_true,er',Qj,QS,mid_W hs,e]
  by_cases hn:r=n
  ·rw [if_neg (fun h=>h hn)]
   refine ⟨o,rfl,fun h h0 k hk=>?_⟩
   cases k with
   | zero=>rw [← hn]; exact (hr h0).2
   | succ k =>
    have:=ho h h0 k (by simpa using hk)
    simp only [List.length_append,List.length_cons,List.length_nil] at this
    rw [show p.length+(k+1)=p.length+(0+1)+k by omega]
    exact this
  ·rw [if_pos hn]; exact ⟨_,rfl,fun h=>by cases h⟩
theorem zip_get:∀ {l s:List Int} {k:Nat},k < l.length→l.length=s.length→(l.getD k 0,s.getD k 0)∈l.zip s
 | x::l,n::s,0,_,_=>by simp
 | x::l,n::s,k+1,h,h2=>by
  simp only [List.getD_cons_succ,List.zip_cons_cons]
  exact List.mem_cons_of_mem _ (zip_get (by simpa using h) (by simpa using h2))
 | [],_,_,h,_=>by cases h
 | _::_,[],_,_,h=>by cases h
/-- a transpose: each axis of the operand goes to one of the result's, which is no longer -/
theorem tr_ok (p0 v1:Qa) (hk:idx p0.kids 0=some v1) (h1:Sm v1.shape.length) (h2:Sm p0.shape.length):∃ b,Xl p0=some b∧(b=true→p0.perm.length=v1.shape.length ∧
  ((∀ n∈v1.shape,0≤n)→∀ k,k < v1.shape.length→0≤p0.perm.getD k 0∧p0.perm.getD k 0 < (p0.shape.length:Int)∧p0.shape.getD (p0.perm.getD k 0).toNat 0≤v1.shape.getD k 0)):=by
 simp only [Xl,hk,Qj]
 by_cases hl:p0.perm.length=v1.shape.length
 ·rw [if_neg (by omega)]
  obtain ⟨o,e,ho⟩:=tr_L1 v1 p0 v1.shape p0.perm [] [] rfl rfl hl.symm rfl h1
  obtain ⟨o2,e2,ho2⟩:=tr_L2 v1 p0 hl.symm h1 p0.shape [] rfl h2
  have e':Zd (v1,p0,0)=some o:=e
  have e2':Zc (p0,v1,0)=some o2:=e2
  rw [e',Qj]
  cases o with
  | inl _=>exact ⟨_,rfl,fun h=>by cases h⟩
  | inr _ =>
   simp only [e2',Qj]
   cases o2 with
   | inl _=>exact ⟨_,rfl,fun h=>by cases h⟩
   | inr _ =>
    refine ⟨_,rfl,fun _=>⟨hl,fun h0 k hk=>?_⟩⟩
    have hm:p0.perm.getD k 0∈p0.perm:=by
     rw [List.getD_eq_getElem?_getD,List.getElem?_eq_getElem (by omega)]
     exact List.getElem_mem _
    have g:=ho rfl _ hm
    refine ⟨g.1,g.2,?_⟩
    have z:=ho2 rfl h0 (p0.perm.getD k 0).toNat (by omega)
    exact z _ (zip_get (by omega) hl) (by simp only [List.length_nil,Nat.zero_add]; omega)
 ·rw [if_pos (by omega)]; exact ⟨_,rfl,fun h=>by cases h⟩
/-- the cell that a transpose steps to -/
def pick (l p:List Int):List Int:=p.map fun j=>l.getD j.toNat 0
theorem idx_getD {l:List Int} {j:Int} (h:0≤j) (h2:j < (l.length:Int)):idx l j=some (l.getD j.toNat 0):=by
 have:j.toNat < l.length:=by omega
 simp [idx,h,this]
theorem rTr_L2 (v4 p0:Qa) (p1 v3:List Int) (hp:∀ x∈p0.perm,0≤x∧x < (p1.length:Int)):∀ (s t p q:List Int) (a:List Int),v4.shape=p++s→p0.perm=q++t→s.length=t.length→p.length=q.length→(p++s).length≤1000→a.length=p.length →
  YC (v4,p0,p1,v3,a,(p.length:Int))=some (a++pick p1 t)
 | [],[],p,q,a,e1,e2,_,h2,hs,ha=>by
  rw [YC]; simp only [e1,Ya,if_false]; simp [pick]
 | n::s,x::t,p,q,a,e1,e2,h1,h2,hs,ha=>by
  rw [YC]
  have hx:=hp x (by rw [e2]; simp)
  have ih:=rTr_L2 v4 p0 p1 v3 hp s t (p++[n]) (q++[x]) (a++[p1.getD x.toNat 0]) (by rw [e1]; simp) (by rw [e2]; simp) (by simpa using h1) (by simp [h2]) (by rw [← QM]; exact hs) (by simp [ha])
  have hi:idx (q++x::t) (p.length:Int)=some x:=by rw [h2]; exact QS
  have hap:app 8 a [p1.getD x.toNat 0]=some (a++[p1.getD x.toNat 0]):=app_ok (by
   have:1002 * 8≤room:=by decide +kernel
   simp at hs ⊢; omega)
  simp only [e1,e2,Zm,if_true,hi,Qj,mid_W (Sm_of hs),idx_getD hx.1 hx.2,hap,ih]
  simp [pick]
 | [],_::_,_,_,_,_,_,h,_,_,_=>by cases h
 | _::_,[],_,_,_,_,_,h,_,_,_=>by cases h
theorem gTr_L1 (q8:List Int) (q0:Int) (q1:List Int) (q2:Int) (q3:List Int) (q4 q5:Int) (q7:List Qi):∀ (t q a:List Int),(∀ x∈t,0≤x∧x < (q8.length:Int))→(q++t).length≤1000→a.length=q.length →
  QV (q++t,q8,q0,q1,q2,q3,q4,q5,q7,a,(q.length:Int))=some (a++pick q8 t)
 | [],q,a,_,hs,ha=>by
  rw [QV]; simp only [Ya,if_false]; simp [pick]
 | x::t,q,a,hp,hs,ha=>by
  rw [QV]
  have hx:=hp x (List.mem_cons_self ..)
  have ih:=gTr_L1 q8 q0 q1 q2 q3 q4 q5 q7 t (q++[x]) (a++[q8.getD x.toNat 0]) (fun y hy=>hp y (List.mem_cons_of_mem _ hy)) (by rw [← QM]; exact hs) (by simp [ha])
  rw [← QM] at ih
  have hap:app 8 a [q8.getD x.toNat 0]=some (a++[q8.getD x.toNat 0]):=app_ok (by
   have:1002 * 8≤room:=by decide +kernel
   simp at hs ⊢; omega)
  simp only [Zm,if_true,QS,Qj,mid_W (Sm_of hs),idx_getD hx.1 hx.2,hap,ih]
  simp [pick]
def dotp:List Int→List Int→Int
 | _::s,x::i=>x * prodI s+dotp s i
 | _,_=>0
def strd:List Int→List Int
 | []=>[]
 | _::s=>prodI s::strd s
def dig:List Int→Int→List Int
 | [],_=>[]
 | _::s,o=>o / prodI s::dig s (o % prodI s)
theorem strd_len:∀ s:List Int,(strd s).length=s.length
 | []=>rfl
 | _::s=>by simp [strd,strd_len s]
theorem dig_len:∀ (s:List Int) (o:Int),(dig s o).length=s.length
 | [],_=>rfl
 | _::s,o=>by simp [dig,dig_len s]
theorem vld_pos:∀ {s i:List Int},vld s i=true→∀ n∈s,1≤n
 | n::s,x::i,h,m,hm=>by
  simp only [vld,Bool.and_eq_true,decide_eq_true_eq] at h
  rcases List.mem_cons.1 hm with rfl|hm
  ·omega
  ·exact vld_pos h.2 m hm
 | [],_,_,m,hm=>by cases hm
 | _::_,[],h,_,_=>by cases h
theorem dotp_range:∀ {s i:List Int},vld s i=true→0≤dotp s i∧dotp s i < prodI s
 | [],[],_=>by simp [dotp,prodI]
 | n::s,x::i,h=>by
  simp only [vld,Bool.and_eq_true,decide_eq_true_eq] at h
  obtain ⟨h1,h2⟩:=dotp_range h.2
  have hp:=prodI_pos (vld_pos h.2)
  rw [dotp,prodI_cons]
  have a1:0≤x * prodI s:=Int.mul_nonneg h.1.1 (by omega)
  have a2:(x+1) * prodI s≤n * prodI s:=Int.mul_le_mul_of_nonneg_right (by omega) (by omega)
  rw [Int.add_mul,Int.one_mul] at a2
  omega
 | [],_::_,h=>by cases h
 | _::_,[],h=>by cases h
theorem prod_le {a b:List Int} (ha:∀ n∈a,1≤n) (hb:∀ n∈b,1≤n):prodI b≤prodI (a++b):=by
 rw [prodI_append]
 have h1:=prodI_pos ha
 have h2:=prodI_pos hb
 have:=Int.mul_le_mul_of_nonneg_right h1 (show 0≤prodI b by omega)
 omega
theorem rOff_L1:∀ (s t p q:List Int) (a:Int),vld s t=true→p.length=q.length→Sm (p++s).length→0≤a→(a+1) * prodI s≤65536 →
  ZK (p++s,q++t,a,(p.length:Int))=some (a * prodI s+dotp s t)
 | [],[],p,q,a,_,h2,hs,h3,h4=>by
  rw [ZK]; simp only [Ya,if_false]; simp [dotp,prodI]
 | n::s,x::t,p,q,a,hv,h2,hs,h3,h4=>by
  rw [ZK]
  simp only [vld,Bool.and_eq_true,decide_eq_true_eq] at hv
  have hp:=prodI_pos (vld_pos hv.2)
  rw [prodI_cons] at h4
  have e1:(a+1) * (n * prodI s)=(a * n+n) * prodI s:=by rw [← Int.mul_assoc,Int.add_mul,Int.one_mul]
  have b1:(a * n+x+1) * prodI s≤(a * n+n) * prodI s:=Int.mul_le_mul_of_nonneg_right (by omega) (by omega)
  have b0:0≤a * n:=Int.mul_nonneg h3 (by omega)
  have b2:(a * n+n) * 1≤(a * n+n) * prodI s:=Int.mul_le_mul_of_nonneg_left (by omega) (by omega)
  have w1:W (a * n)=a * n:=W_ok (by omega) (by omega)
  have w2:W (a * n+x)=a * n+x:=W_ok (by omega) (by omega)
  have ih:=rOff_L1 s t (p++[n]) (q++[x]) (a * n+x) hv.2 (by simp [h2]) (by rw [← QM]; exact hs) (by omega) (by omega)
  rw [← QM,← QM] at ih
  have hi:idx (q++x::t) (p.length:Int)=some x:=by rw [h2]; exact QS
  simp only [Zm,if_true,QS,hi,Qj,mid_W hs,w1,w2,ih,dotp,prodI_cons]
  rw [Int.add_mul,Int.mul_assoc,Int.add_assoc]
 | [],_::_,_,_,_,h,_,_,_,_=>by cases h
 | _::_,[],_,_,_,h,_,_,_,_=>by cases h
theorem rOffset_ok {s i:List Int} (h:vld s i=true) (hp:prodI s≤65536) (hs:Sm s.length):Yf (s,i)=some (dotp s i):=by
 have e:ZK (s,i,0,0)=some (0 * prodI s+dotp s i):=rOff_L1 s i [] [] 0 h rfl hs (by omega) (by simpa using hp)
 simp only [Yf,rValid_ok s i hs,h,Qj,Bool.true_eq_false,if_false,e,Int.zero_mul,Int.zero_add]
theorem gDot_L1:∀ (s t p q:List Int) (a:Int),vld s t=true→p.length=q.length→Sm (p++s).length→0≤a→a+dotp s t≤65536→prodI s≤65536 →
  Yd (q++t,p++strd s,a,(p.length:Int))=some (a+dotp s t)
 | [],[],p,q,a,_,h2,hs,h3,h4,_=>by
  rw [Yd]
  have:¬ ((p.length:Int) < (if ((q++[]).length:Int) < ((p++strd []).length:Int) then ((q++[]).length:Int) else ((p++strd []).length:Int))):=by
   simp [strd,h2]
  simp only [this,if_false]; simp [dotp]
 | n::s,x::t,p,q,a,hv,h2,hs,h3,h4,h5=>by
  rw [Yd]
  simp only [vld,Bool.and_eq_true,decide_eq_true_eq] at hv
  have hl:=vld_len hv.2
  have hp:=prodI_pos (vld_pos hv.2)
  obtain ⟨r1,r2⟩:=dotp_range hv.2
  rw [dotp] at h4
  rw [prodI_cons] at h5
  have c1:0≤x * prodI s:=Int.mul_nonneg hv.1.1 (by omega)
  have c2:1 * prodI s≤n * prodI s:=Int.mul_le_mul_of_nonneg_right (by omega) (by omega)
  have this:((p.length:Int) < (if ((q++x::t).length:Int) < ((p++strd (n::s)).length:Int) then ((q++x::t).length:Int) else ((p++strd (n::s)).length:Int))):=by
   simp only [List.length_append,List.length_cons,strd_len,h2]; split <;> omega
  have hi:idx (q++x::t) (p.length:Int)=some x:=by rw [h2]; exact QS
  have hi2:idx (p++strd (n::s)) (p.length:Int)=some (prodI s):=QS
  have w1:W (prodI s * x)=x * prodI s:=by rw [Int.mul_comm,W_ok (by omega) (by omega)]
  have w2:W (a+x * prodI s)=a+x * prodI s:=W_ok (by omega) (by omega)
  have ih:=gDot_L1 s t (p++[prodI s]) (q++[x]) (a+x * prodI s) hv.2 (by simp [h2]) (by have:=hs; simp at this ⊢; unfold Sm at *; omega) (by omega) (by omega) (by omega)
  rw [← QM,← QM] at ih
  have w3:W ((p.length:Int)+1)=((p++[prodI s]).length:Int):=by
   unfold Sm at hs; simp at hs
   rw [W_ok (by omega) (by omega)]; simp
  simp only [this,if_true,hi,hi2,Qj,w1,w2,w3]
  have ih':Yd (q++x::t,p++strd (n::s),a+x * prodI s,((p++[prodI s]).length:Int))=_:=ih
  rw [ih',dotp,Int.add_assoc]
 | [],_::_,_,_,_,h,_,_,_,_,_=>by cases h
 | _::_,[],_,_,_,h,_,_,_,_,_=>by cases h
theorem str_L1 (s v2:List Int) (hv2:v2.length=s.length) (hs:s.length≤1000) (hpos:∀ n∈s,1≤n) (hP:prodI s≤65536):∀ (m:Nat) (a b:List Int),a.length=m→s=a++b →
  ZO (s,v2,List.replicate a.length 0++strd b,prodI b,(b.length:Int))=some (strd s)
 | 0,a,b,ha,e=>by
  obtain rfl:=List.eq_nil_of_length_eq_zero ha
  rw [ZO]
  have:¬ ((b.length:Int) < (s.length:Int)):=by rw [e]; simp
  simp only [this,if_false]; rw [e]; rfl
 | m+1,a,b,ha,e=>by
  rcases List.eq_nil_or_concat a with rfl|⟨a',n,rfl⟩
  ·simp at ha
  ·simp only [List.concat_eq_append] at ha e ⊢
   have ha':a'.length=m:=by simpa using ha
   rw [ZO]
   have hl:s.length=a'.length+1+b.length:=by rw [e]; simp; omega
   have ht:((b.length:Int) < (s.length:Int)):=by omega
   have w:W (W ((s.length:Int) - 1) - (b.length:Int))=(a'.length:Int):=by
    rw [show W ((s.length:Int) - 1)=(s.length:Int) - 1 from W_ok (by omega) (by omega),W_ok (by omega) (by omega)]; omega
   have e':s=a'++(n::b):=by rw [e]; simp
   have hg:(List.replicate (a'++[n]).length (0:Int)++strd b).length=v2.length:=by simp [strd_len,hv2,hl]
   have er:List.replicate (a'++[n]).length (0:Int)++strd b=List.replicate a'.length 0++0::strd b:=by
    rw [List.length_append,List.length_singleton,List.replicate_succ',List.append_assoc]; rfl
   have hj:a'.length < (List.replicate (a'++[n]).length (0:Int)++strd b).length:=by simp; omega
   have hset:(List.replicate (a'++[n]).length (0:Int)++strd b).set a'.length (prodI b)=List.replicate a'.length 0++strd (n::b):=by
    rw [er]
    have:=mid_set (p:=List.replicate a'.length (0:Int)) (s:=strd b) (x:=0) (y:=prodI b)
    simp only [List.length_replicate] at this
    rw [this,← QM]; rfl
   have hidx:idx s (a'.length:Int)=some n:=by rw [e']; exact QS
   have hposb:∀ k∈n::b,1≤k:=fun k hk=>hpos k (by rw [e']; exact List.mem_append_right _ hk)
   have hposa:∀ k∈a',1≤k:=fun k hk=>hpos k (by rw [e']; exact List.mem_append_left _ hk)
   have hle:prodI (n::b)≤65536:=by
    have:=prod_le hposa hposb
    rw [← e'] at this; omega
   have hge:=prodI_pos hposb
   have w2:W (prodI b * n)=prodI (n::b):=by rw [prodI_cons,Int.mul_comm,W_ok (by rw [← prodI_cons]; omega) (by rw [← prodI_cons]; omega)]
   have w3:W ((b.length:Int)+1)=((n::b).length:Int):=by rw [W_ok (by omega) (by omega)]; simp
   have ih:=str_L1 s v2 hv2 hs hpos hP m a' (n::b) ha' e'
   simp only [ht,if_true,w,guardM_ok hg,Qj,idx_ok hj,setM_ok hj,hset,hidx,w2,w3]
   exact ih
theorem checkR_ok {s:List Int} (h:checkR s=0):s.length≤16∧prodI s≤65536∧∀ n∈s,0≤n∧n≤65536:=by
 unfold checkR at h
 by_cases hn:negB s=true
 ·rw [if_pos hn] at h; cases h
 ·rw [if_neg hn] at h
  by_cases h2:s.length > 16∨bigB s=true∨prodI s > 65536
  ·rw [if_pos h2] at h; cases h
  ·have hn':negB s=false:=by simpa using hn
   have hb:bigB s=false:=by
    cases hb:bigB s with
    | false=>rfl
    | true=>exact absurd (Or.inr (Or.inl hb)) h2
   refine ⟨by omega,by omega,fun n hm=>⟨neg_all hn' n hm,big_all hb n hm⟩⟩
theorem gCells_ok (s:List Int) (hs:Sm s.length):YN s=some (cellsR s):=by
 simp only [YN,shapeCheck_ok s hs,Qj,cellsR,sProduct_ok s hs]
 by_cases h:checkR s=0
 ·obtain ⟨h1,h2,h3⟩:=checkR_ok h
  have hn:negB s=false:=by
   cases hn:negB s with
   | false=>rfl
   | true=>unfold checkR at h; rw [if_pos hn] at h; cases h
  have hb:bigB s=false:=by
   cases hb:bigB s with
   | false=>rfl
   | true=>unfold checkR at h; rw [if_neg (by simp [hn]),if_pos (Or.inr (Or.inl hb))] at h; cases h
  simp [h,prodR,hn,hb,show ¬ prodI s > 65536 by omega]
 ·simp [h]
theorem strides_ok {s:List Int} (hc:checkR s=0) (hpos:∀ n∈s,1≤n):Jj s=some (strd s):=by
 obtain ⟨h1,h2,h3⟩:=checkR_ok hc
 have hp:=prodI_pos hpos
 have hm:makeM 8 (s.length:Int) (0:Int)=some (List.replicate s.length 0):=by
  have:((s.length:Int) * 8≤(room:Int)):=by
   have:(1000:Nat) * 8≤room:=by decide +kernel
   omega
  simp [makeM,this]; omega
 have e:=str_L1 s (List.replicate s.length 0) (by simp) (by omega) hpos h2 s.length s [] rfl (by simp)
 simp only [strd,List.append_nil,prodI_nil,List.length_nil,Int.natCast_zero] at e
 simp only [Jj,shapeCheck_ok s (Sm_of (show s.length≤1000 by omega)),Qj,hc,hm,gCells_ok s (Sm_of (show s.length≤1000 by omega)),cellsR,if_true,ne_eq,not_true,if_false,show ¬ prodI s=0 by omega,e]
 rw [guardM_ok (by simp [strd_len])]; rfl
theorem layout_ok {s:List Int} (hc:checkR s=0) (hpos:∀ n∈s,1≤n):Xg s=some ⟨strd s,s⟩:=by
 simp only [Xg,strides_ok hc hpos,Qj]
theorem gOffset_ok {s i:List Int} (h:vld s i=true) (hc:checkR s=0):XV (s,i)=some (dotp s i,true):=by
 obtain ⟨h1,h2,h3⟩:=checkR_ok hc
 obtain ⟨r1,r2⟩:=dotp_range h
 have hl:=vld_len h
 have e:=gDot_L1 s i [] [] 0 h rfl (Sm_of (show s.length≤1000 by omega)) (by omega) (by omega) h2
 have e':Yd (i,strd s,0,0)=some (0+dotp s i):=e
 simp only [XV,gValid_ok s i (Sm_of (show i.length≤1000 by omega)),h,Qj,Bool.true_eq_false,if_false,layout_ok hc (vld_pos h),XO,Qcg,e',Int.zero_add]
theorem dm {o P n:Int} (ho:0≤o) (hP:0≤P) (hn:0≤n):(o % (P * n)) / n=(o / n) % P:=by
 obtain ⟨o',rfl⟩:=Int.eq_ofNat_of_zero_le ho
 obtain ⟨P',rfl⟩:=Int.eq_ofNat_of_zero_le hP
 obtain ⟨n',rfl⟩:=Int.eq_ofNat_of_zero_le hn
 have:=Nat.mod_mul_left_div_self o' n' P'
 exact_mod_cast this
theorem mm {o P n:Int}:(o % (P * n)) % n=o % n:=Int.emod_emod_of_dvd o (Int.dvd_mul_left P n)
theorem dig_snoc:∀ (a:List Int) (n o:Int),(∀ m∈a,1≤m)→1≤n→0≤o→o < prodI (a++[n])→dig (a++[n]) o=dig a (o / n)++[o % n]
 | [],n,o,_,h,ho,ho2=>by
  have:prodI ([]++[n])=n:=by simp [prodI]
  rw [this] at ho2
  simp only [List.nil_append,dig,prodI_nil,Int.ediv_one]
  rw [Int.emod_eq_of_lt ho ho2]
 | m::a,n,o,h1,h,ho,ho2=>by
  have hp:=prodI_pos (fun k hk=>h1 k (List.mem_cons_of_mem _ hk))
  have hP:prodI (a++[n])=prodI a * n:=by rw [prodI_append,prodI_cons,prodI_nil,Int.mul_one]
  have hpos:0 < prodI a * n:=Int.mul_pos (by omega) (by omega)
  have ih:=dig_snoc a n (o % prodI (a++[n])) (fun k hk=>h1 k (List.mem_cons_of_mem _ hk)) h (Int.emod_nonneg _ (by rw [hP]; omega)) (Int.emod_lt_of_pos _ (by rw [hP]; exact hpos))
  rw [hP] at ih
  simp only [List.cons_append,dig]
  rw [hP,ih,dm ho (by omega) (by omega),mm,Int.mul_comm (prodI a) n,← Int.ediv_ediv_of_nonneg (by omega:0≤n)]
theorem vld_dig:∀ {s:List Int} {o:Int},(∀ n∈s,1≤n)→0≤o→o < prodI s→vld s (dig s o)=true
 | [],_,_,_,_=>rfl
 | n::s,o,h,h1,h2=>by
  have hp:=prodI_pos (fun k hk=>h k (List.mem_cons_of_mem _ hk))
  rw [prodI_cons] at h2
  simp only [dig,vld,Bool.and_eq_true,decide_eq_true_eq]
  exact ⟨⟨Int.ediv_nonneg h1 (by omega),Int.ediv_lt_of_lt_mul (by omega) h2⟩,vld_dig (fun k hk=>h k (List.mem_cons_of_mem _ hk)) (Int.emod_nonneg _ (by omega)) (Int.emod_lt_of_pos _ (by omega))⟩
theorem quoM_ok {a b:Int} (ha:0≤a) (hb:1≤b) (h:a≤9223372036854775807):quoM a b=some (a / b):=by
 have h1:a / b≤a:=Int.ediv_le_self _ ha
 have h2:0≤a / b:=Int.ediv_nonneg ha (by omega)
 rw [quoM,if_neg (by omega),Int.tdiv_eq_ediv_of_nonneg ha,W_ok (by omega) (by omega)]
theorem remM_ok {a b:Int} (ha:0≤a) (hb:1≤b):remM a b=some (a % b):=by
 rw [remM,if_neg (by omega),Int.tmod_eq_emod_of_nonneg ha]
theorem rIdx_L1 (s v1:List Int) (hv:v1.length=s.length) (hs:s.length≤1000) (hpos:∀ n∈s,1≤n):∀ (m:Nat) (a b d:List Int) (o:Int),a.length=m→s=a++b→d.length=b.length→0≤o→o < prodI a→o≤65536 →
  Yl (s,v1,List.replicate a.length 0++d,o,(a.length:Int) - 1)=some (dig a o++d)
 | 0,a,b,d,o,ha,e,hd,h1,h2,h3=>by
  obtain rfl:=List.eq_nil_of_length_eq_zero ha
  rw [Yl]
  have:¬ ((([]:List Int).length:Int) - 1≥0):=by simp
  simp only [this,if_false]; rfl
 | m+1,a,b,d,o,ha,e,hd,h1,h2,h3=>by
  rcases List.eq_nil_or_concat a with rfl|⟨a',n,rfl⟩
  ·simp at ha
  ·simp only [List.concat_eq_append] at ha e h2 ⊢
   have ha':a'.length=m:=by simpa using ha
   rw [Yl]
   have hl:s.length=a'.length+1+b.length:=by rw [e]; simp; omega
   have hj0:(((a'++[n]).length:Nat):Int) - 1=(a'.length:Int):=by simp
   have e':s=a'++(n::b):=by rw [e]; simp
   have hg:(List.replicate (a'++[n]).length (0:Int)++d).length=v1.length:=by simp [hv,hl,hd]
   have er:List.replicate (a'++[n]).length (0:Int)++d=List.replicate a'.length 0++0::d:=by
    rw [List.length_append,List.length_singleton,List.replicate_succ',List.append_assoc]; rfl
   have hj:a'.length < (List.replicate (a'++[n]).length (0:Int)++d).length:=by simp; omega
   have hset:(List.replicate (a'++[n]).length (0:Int)++d).set a'.length (o % n)=List.replicate a'.length 0++(o % n::d):=by
    rw [er]
    have:=mid_set (p:=List.replicate a'.length (0:Int)) (s:=d) (x:=0) (y:=o % n)
    simp only [List.length_replicate] at this
    rw [this,← QM]
   have hidx:idx s (a'.length:Int)=some n:=by rw [e']; exact QS
   have hn:1≤n:=hpos n (by rw [e']; simp)
   have hposa:∀ k∈a',1≤k:=fun k hk=>hpos k (by rw [e']; exact List.mem_append_left _ hk)
   have h2':o < prodI a' * n:=by rwa [prodI_append,prodI_cons,prodI_nil,Int.mul_one] at h2
   have q1:o / n < prodI a':=Int.ediv_lt_of_lt_mul (by omega) h2'
   have q0:0≤o / n:=Int.ediv_nonneg h1 (by omega)
   have q2:o / n≤o:=Int.ediv_le_self _ h1
   have w3:W ((a'.length:Int) - 1)=(a'.length:Int) - 1:=W_ok (by omega) (by omega)
   have ih:=rIdx_L1 s v1 hv hs hpos m a' (n::b) (o % n::d) (o / n) ha' e' (by simp [hd]) q0 q1 (by omega)
   have ht:(a'.length:Int)≥0:=by omega
   simp only [hj0,ht,if_true,hidx,Qj,remM_ok h1 hn,quoM_ok h1 hn (by omega),guardM_ok hg,idx_ok hj,setM_ok hj,hset,w3]
   rw [ih,dig_snoc a' n o hposa hn h1 h2]; simp
theorem make_ok {n:Nat} (h:n≤1000):makeM 8 (n:Int) (0:Int)=some (List.replicate n 0):=by
 have:((n:Int) * 8≤(room:Int)):=by
  have:(1000:Nat) * 8≤room:=by decide +kernel
  omega
 simp [makeM,this]; omega
theorem rIndex_ok {s:List Int} {o:Int} (hs:s.length≤1000) (hpos:∀ n∈s,1≤n) (h1:0≤o) (h2:o < prodI s) (h3:o≤65536):Qaa (s,o)=some (dig s o):=by
 have e:=rIdx_L1 s (List.replicate s.length 0) (by simp) hs hpos s.length s [] [] o rfl (by simp) rfl h1 h2 h3
 simp only [List.append_nil] at e
 simp only [Qaa,make_ok hs,Qj,W_ok (show -9223372036854775808≤(s.length:Int) - 1 by omega) (by omega),e]
 rw [guardM_ok (by simp [dig_len])]; rfl
theorem gIdx_L1 (S D v1:List Int):∀ (t p P q:List Int) (o:Int),S=P++strd t→P.length=p.length→q.length=p.length→(q++List.replicate t.length 0).length=v1.length→(p++t).length≤1000→(∀ n∈t,1≤n)→0≤o→o≤65536 →
  Ze (⟨S,D⟩,v1,q++List.replicate t.length 0,o,(p.length:Int))=some (q++dig t o)
 | [],p,P,q,o,e,h1,h2,h3,h4,h5,h6,h7=>by
  rw [Ze]
  have:¬ ((p.length:Int) < (S.length:Int)):=by rw [e]; simp [strd,h1]
  simp only [this,if_false]; rfl
 | n::t,p,P,q,o,e,h1,h2,h3,h4,h5,h6,h7=>by
  rw [Ze]
  have hpos:∀ k∈t,1≤k:=fun k hk=>h5 k (List.mem_cons_of_mem _ hk)
  have hp:=prodI_pos hpos
  have ht:((p.length:Int) < (S.length:Int)):=by rw [e]; simp [strd,h1]; omega
  have hi:idx S (p.length:Int)=some (prodI t):=by rw [e,← h1]; exact QS
  have er:q++List.replicate (n::t).length (0:Int)=q++0::List.replicate t.length 0:=by rw [List.length_cons,List.replicate_succ]
  have hj:p.length < (q++List.replicate (n::t).length (0:Int)).length:=by simp; omega
  have hset:(q++List.replicate (n::t).length (0:Int)).set p.length (o / prodI t)=(q++[o / prodI t])++List.replicate t.length 0:=by rw [er,← h2,mid_set]
  have w:W ((p.length:Int)+1)=((p++[n]).length:Int):=by
   simp at h4
   rw [W_ok (by omega) (by omega)]; simp
  have r1:=Int.emod_nonneg o (show prodI t≠0 by omega)
  have r2:o % prodI t≤o:=by
   have:=Int.emod_add_mul_ediv o (prodI t)
   have:0≤prodI t * (o / prodI t):=Int.mul_nonneg (by omega) (Int.ediv_nonneg h6 (by omega))
   omega
  have ih:=gIdx_L1 S D v1 t (p++[n]) (P++[prodI t]) (q++[o / prodI t]) (o % prodI t) (by rw [e]; simp [strd]) (by simp [h1]) (by simp [h2]) (by simp at h3 ⊢; omega) (by rw [← QM]; exact h4) hpos r1 (by omega)
  simp only [ht,if_true,hi,Qj,quoM_ok h6 hp (by omega),guardM_ok h3,idx_ok hj,setM_ok hj,hset,remM_ok h6 hp,w,ih,dig]
  simp
theorem gIndex_ok {s:List Int} {o:Int} (hc:checkR s=0) (hpos:∀ n∈s,1≤n) (h1:0≤o) (h2:o < prodI s):Xc (s,o)=some (dig s o,true):=by
 obtain ⟨c1,c2,c3⟩:=checkR_ok hc
 have e:=gIdx_L1 (strd s) s (List.replicate s.length 0) s [] [] [] o (by simp) rfl rfl (by simp) (by simp; omega) hpos h1 (by omega)
 simp only [List.nil_append,List.length_nil,Int.natCast_zero] at e
 have e1:¬ o < 0:=by omega
 have e2:¬ o≥prodI s:=by omega
 simp only [Xc,e1,if_false,gCells_ok s (Sm_of (show s.length≤1000 by omega)),Qj,cellsR,hc,if_true,e2,decide_false,Bool.false_eq_true,layout_ok hc hpos,XB,make_ok (show s.length≤1000 by omega),e]
 rw [guardM_ok (by simp [dig_len])]; rfl
mutual
def szC:Qa→Nat
 | ⟨_,_,_,_,_,_,_,kids⟩=>1+szCs kids
def szCs:List Qa→Nat
 | []=>0
 | k::ks=>szC k+szCs ks
end
mutual
def smC:Qa→Prop
 | ⟨_,shape,_,starts,_,_,perm,kids⟩=>shape.length≤40∧starts.length≤40∧perm.length≤40∧kids.length≤600∧smCs kids
def smCs:List Qa→Prop
 | []=>True
 | k::ks=>smC k∧smCs ks
end
theorem szC_pos:∀ c:Qa,1≤szC c
 | ⟨_,_,_,_,_,_,_,kids⟩=>by rw [szC]; omega
theorem szCs_len:∀ l:List Qa,l.length≤szCs l
 | []=>Nat.zero_le _
 | k::ks=>by have:=szCs_len ks; have:=szC_pos k; rw [szCs]; simp only [List.length_cons]; omega
mutual
theorem left_ok:∀ (c:Qa) (n:Int),0≤n→n≤600→∃ r,Jc (c,n)=some r∧-1≤r∧r≤n - 1∧(0≤r→r+szC c≤n∧smC c)
 | ⟨k,sh,b,st,ax,am,pe,ks⟩,n,h1,h2=>by
  rw [Jc]
  simp only []
  have w:W (n - 1)=n - 1:=W_ok (by omega) (by omega)
  obtain ⟨r,e,i1,i2,i3⟩:=left_loop ks [] (n - 1) k sh b st ax am pe (by omega) (by simp; omega)
  simp only [List.nil_append,List.length_nil,Int.natCast_zero] at e
  by_cases c1:(sh.length:Int) > 40
  ·exact ⟨-1,by simp only [c1,if_true,if_false,Qj,decide_true,decide_false,Bool.false_eq_true],by omega,by omega,by omega⟩
  ·by_cases c2:(st.length:Int) > 40
   ·exact ⟨-1,by simp only [c1,c2,if_true,if_false,Qj,decide_true,decide_false,Bool.false_eq_true],by omega,by omega,by omega⟩
   ·by_cases c3:(pe.length:Int) > 40
    ·exact ⟨-1,by simp only [c1,c2,c3,if_true,if_false,Qj,decide_true,decide_false,Bool.false_eq_true],by omega,by omega,by omega⟩
    ·refine ⟨r,by simp only [c1,c2,c3,w,e,if_true,if_false,Qj,decide_true,decide_false,Bool.false_eq_true],i1,i2,fun h=>?_⟩
     have:=i3 h
     have hl:=szCs_len ks
     rw [szC,smC]
     exact ⟨by omega,by omega,by omega,by omega,by omega,this.2⟩
theorem left_loop:∀ (s p:List Qa) (n:Int) (k:Int) (sh:List Int) (b:Int) (st:List Int) (ax am:Int) (pe:List Int),-1≤n→(p.length:Int)+n≤600 →
  ∃ r,ZR (⟨k,sh,b,st,ax,am,pe,p++s⟩,n,(p.length:Int))=some r∧-1≤r∧r≤n∧(0≤r→r+szCs s≤n∧smCs s)
 | [],p,n,k,sh,b,st,ax,am,pe,h1,h2=>by
  rw [ZR]
  simp only [Ya,if_false,Qj,Bool.false_eq_true]
  exact ⟨n,rfl,h1,by omega,fun h=>⟨by rw [szCs]; omega,trivial⟩⟩
 | x::s,p,n,k,sh,b,st,ax,am,pe,h1,h2=>by
  rw [ZR]
  simp only [Zm,if_true,Qj]
  by_cases hn:n≥0
  ·rw [decide_eq_true hn]
   obtain ⟨r,e,i1,i2,i3⟩:=left_ok x n hn (by omega)
   obtain ⟨r',e',j1,j2,j3⟩:=left_loop s (p++[x]) r k sh b st ax am pe i1 (by simp; omega)
   rw [← QM] at e'
   have w:W ((p.length:Int)+1)=((p++[x]).length:Int):=by rw [W_ok (by omega) (by omega)]; simp
   simp only [if_true,QS,Qj,e,w,e']
   refine ⟨r',rfl,j1,by omega,fun h=>?_⟩
   have a:=j3 h
   have b:=i3 (by omega)
   rw [szCs,smCs]
   exact ⟨by omega,b.2,a.2⟩
  ·rw [decide_eq_false hn]
   simp only [Bool.false_eq_true,if_false]
   exact ⟨n,rfl,h1,by omega,fun h=>by omega⟩
end
theorem Few_ok (c:Qa) (n:Int) (h1:0≤n) (h2:n≤600):∃ b,Qbr (c,n)=some b∧(b=true→smC c∧(szC c:Int)≤n):=by
 obtain ⟨r,e,_,_,h⟩:=left_ok c n h1 h2
 refine ⟨decide (r≥0),by simp only [Qbr,e,Qj],fun hb=>?_⟩
 have h0:0≤r:=by simpa using hb
 have:=h h0
 exact ⟨this.2,by omega⟩
mutual
def conv:Qa→Qi
 | ⟨k,sh,b,st,ax,am,pe,ks⟩=>⟨k,sh,b,st,ax,am,pe,convs ks⟩
def convs:List Qa→List Qi
 | []=>[]
 | k::ks=>conv k::convs ks
end
mutual
theorem Core_ok:∀ (c:Qa),smC c→Jg c=some (conv c)
 | ⟨k,sh,b,st,ax,am,pe,ks⟩,h=>by
  rw [smC] at h
  rw [Jg]
  have e:=Core_loop ks [] [] k sh b st ax am pe h.2.2.2.2 rfl (by simp; omega)
  simp only [List.nil_append,List.length_nil,Int.natCast_zero] at e
  simp only [e,Qj,conv]
theorem Core_loop:∀ (s p:List Qa) (q:List Qi) (k:Int) (sh:List Int) (b:Int) (st:List Int) (ax am:Int) (pe:List Int),smCs s→q.length=p.length→p.length+s.length≤600 →
  ZP (⟨k,sh,b,st,ax,am,pe,p++s⟩,q,(p.length:Int))=some (q++convs s)
 | [],p,q,k,sh,b,st,ax,am,pe,h1,h2,h3=>by
  rw [ZP]
  simp only [Ya,if_false,convs]
  rw [List.append_nil]
 | x::s,p,q,k,sh,b,st,ax,am,pe,h1,h2,h3=>by
  rw [ZP]
  rw [smCs] at h1
  have e:=Core_ok x h1.1
  simp only [List.length_cons] at h3
  have e':=Core_loop s (p++[x]) (q++[conv x]) k sh b st ax am pe h1.2 (by simp [h2]) (by simp; omega)
  rw [← QM] at e'
  have w:W ((p.length:Int)+1)=((p++[x]).length:Int):=by rw [W_ok (by omega) (by omega)]; simp
  have ha:app 128 q [conv x]=some (q++[conv x]):=app_ok (by
   have:602 * 128≤room:=by decide +kernel
   simp only [List.length_cons,List.length_nil]
   omega)
  simp only [Zm,if_true,QS,Qj,e,ha,w,e',convs,List.append_assoc,List.singleton_append]
end
theorem Equal_ok' (a b:List Int) (hs:Sm b.length):Ys (a,b)=some (decide (a=b)):=by
 by_cases h:a.length=b.length
 ·exact Equal_ok a b (by rw [h]; exact hs)
 ·have e2:((a.length:Int)≠(b.length:Int)):=by omega
  have e3:a≠b:=fun e=>h (by rw [e])
  simp only [Ys]
  rw [if_pos e2,decide_eq_false e3]
theorem idx_zero {α:Type} {l:List α} {k:α} {r:List α} (h:l=k::r):idx l 0=some k:=by subst h; rfl
theorem idx_one {α:Type} {l:List α} {k k2:α} {r:List α} (h:l=k::k2::r):idx l 1=some k2:=by subst h; rfl
theorem alike_ok (p0 k:Qa) (r:List Qa) (hk:p0.kids=k::r) (hs:Sm p0.shape.length):∃ b,Jp p0=some b∧(b=true→k.shape=p0.shape∧0≤p0.axis∧p0.axis < (p0.shape.length:Int)):=by
 simp only [Jp,idx_zero hk,Qj,Equal_ok' _ _ hs]
 by_cases h1:k.shape=p0.shape
 ·by_cases h2:p0.axis≥0
  ·by_cases h3:p0.axis < (p0.shape.length:Int)
   ·exact ⟨true,by simp [h1,h2,h3],fun _=>⟨h1,h2,h3⟩⟩
   ·exact ⟨false,by simp [h1,h2,h3],fun h=>by cases h⟩
  ·exact ⟨false,by simp [h1,h2],fun h=>by cases h⟩
 ·exact ⟨false,by simp [h1],fun h=>by cases h⟩
/-- the axes of a catenation -/
def catA (ax:Int) (s a b:List Int) (k:Nat):Prop:=((k:Int)=ax→s.getD k 0=W (a.getD k 0+b.getD k 0))∧((k:Int)≠ax→a.getD k 0=b.getD k 0∧a.getD k 0=s.getD k 0)
theorem get_mid {p s:List Int} {x:Int}:(p++x::s).getD p.length 0=x:=by simp
theorem join_L1 (v1 p0 v2:Qa):∀ (a b s p q u:List Int),v1.shape=p++a→v2.shape=q++b→p0.shape=u++s→a.length=b.length→a.length=s.length→p.length=q.length→p.length=u.length→Sm (p++a).length →
  ∃ o,ZI (v1,p0,v2,(p.length:Int))=some o∧(o=.inr ()→∀ k,p.length≤k→k < v1.shape.length→catA p0.axis p0.shape v1.shape v2.shape k)
 | [],b,s,p,q,u,e1,e2,e3,_,_,_,_,hs=>by
  rw [ZI]; simp only [e1,Ya,if_false]
  exact ⟨_,rfl,fun _ k h1 h2=>by simp at h2; omega⟩
 | x::a,y::b,z::s,p,q,u,e1,e2,e3,h1,h2,h3,h4,hs=>by
  rw [ZI]
  obtain ⟨o,e,ho⟩:=join_L1 v1 p0 v2 a b s (p++[x]) (q++[y]) (u++[z]) (by rw [e1]; simp) (by rw [e2]; simp) (by rw [e3]; simp) (by simpa using h1) (by simpa using h2) (by simp [h3]) (by simp [h4]) (by rw [← QM]; exact hs)
  have i1:idx v1.shape (p.length:Int)=some x:=by rw [e1]; exact QS
  have i2:idx v2.shape (p.length:Int)=some y:=by rw [e2,h3]; exact QS
  have i3:idx p0.shape (p.length:Int)=some z:=by rw [e3,h4]; exact QS
  have g1:v1.shape.getD p.length 0=x:=by rw [e1]; exact get_mid
  have g2:v2.shape.getD p.length 0=y:=by rw [e2,h3]; exact get_mid
  have g3:p0.shape.getD p.length 0=z:=by rw [e3,h4]; exact get_mid
  have ht:((p.length:Int) < (v1.shape.length:Int)):=by rw [e1]; exact Zm
  have w:W ((p.length:Int)+1)=((p++[x]).length:Int):=mid_W hs
  have fin:∀ c:catA p0.axis p0.shape v1.shape v2.shape p.length,o=.inr ()→∀ k,p.length≤k→k < v1.shape.length→catA p0.axis p0.shape v1.shape v2.shape k:=fun c h k hk hk2=>by
   by_cases hkp:k=p.length
   ·rw [hkp]; exact c
   ·exact ho h k (by simp; omega) hk2
  simp only [ht,if_true,i1,i2,i3,Qj,w,e]
  by_cases ha:(p.length:Int)=p0.axis
  ·simp only [ha,if_true,Qj,ne_eq,not_true,if_false]
   by_cases hz:z=W (x+y)
   ·refine ⟨o,by simp [hz],fin ⟨fun _=>by rw [g1,g2,g3]; exact hz,fun h=>absurd ha h⟩⟩
   ·exact ⟨.inl (),by simp [hz],fun h=>by cases h⟩
  ·simp only [ha,if_false,Qj,ne_eq,not_false_eq_true,if_true,Bool.false_eq_true]
   by_cases hx:x=y
   ·by_cases hz:x=z
    ·refine ⟨o,by simp [← hx,← hz],fin ⟨fun h=>absurd h ha,fun _=>by rw [g1,g2,g3]; exact ⟨hx,hz⟩⟩⟩
    ·exact ⟨.inl (),by simp [← hx,hz],fun h=>by cases h⟩
   ·exact ⟨.inl (),by simp [hx],fun h=>by cases h⟩
 | _::_,[],_,_,_,_,_,_,_,h,_,_,_,_=>by cases h
 | _::_,_::_,[],_,_,_,_,_,_,_,h,_,_,_=>by cases h
theorem joined_ok (p0 v1 v2:Qa) (r:List Qa) (hk:p0.kids=v1::v2::r) (hs:Sm v1.shape.length):∃ b,JD p0=some b∧(b=true→v1.shape.length=v2.shape.length∧v1.shape.length=p0.shape.length ∧
  0≤p0.axis∧p0.axis < (v1.shape.length:Int)∧∀ k,k < v1.shape.length→catA p0.axis p0.shape v1.shape v2.shape k):=by
 simp only [JD,idx_zero hk,idx_one hk,Qj]
 by_cases h1:v1.shape.length=v2.shape.length
 ·by_cases h2:v1.shape.length=p0.shape.length
  ·by_cases h3:p0.axis < 0
   ·exact ⟨false,by simp [h1,h2,← h2,h3],fun h=>by cases h⟩
   ·by_cases h4:p0.axis≥(v1.shape.length:Int)
    ·refine ⟨false,?_,fun h=>by cases h⟩
     have c1:(v1.shape.length:Int)=(v2.shape.length:Int):=by omega
     have c2:((v1.shape.length:Int) != (p0.shape.length:Int))=false:=by simp [h2]
     simp only [ne_eq,c1,not_true,if_false,Qj,Bool.false_eq_true,decide_eq_false h3]
     rw [← c1]
     simp only [c2,Qj,Bool.false_eq_true,if_false,decide_eq_true h4,if_true]
    ·obtain ⟨o,e,ho⟩:=join_L1 v1 p0 v2 v1.shape v2.shape p0.shape [] [] [] rfl rfl rfl h1 h2 rfl rfl hs
     have e':ZI (v1,p0,v2,0)=some o:=e
     have c1:¬ ((v1.shape.length:Int)≠(v2.shape.length:Int)):=by omega
     have c2:((v1.shape.length:Int) != (p0.shape.length:Int))=false:=by simp [h2]
     have m:∀ f:Unit ⊕ Unit→Option Bool,f o=(if o.isRight then f (.inr ()) else f (.inl ())):=fun f=>by cases o <;> rfl
     simp only [c1,if_false,c2,Qj,Bool.false_eq_true,decide_eq_false h3,decide_eq_false h4,e']
     cases o with
     | inl _=>exact ⟨_,rfl,fun h=>by cases h⟩
     | inr _=>exact ⟨_,rfl,fun _=>⟨h1,h2,by omega,by omega,fun k hk=>ho rfl k (Nat.zero_le _) hk⟩⟩
  ·refine ⟨false,?_,fun h=>by cases h⟩
   have c1:¬ ((v1.shape.length:Int)≠(v2.shape.length:Int)):=by omega
   have c2:((v1.shape.length:Int) != (p0.shape.length:Int))=true:=by simp; omega
   simp only [c1,if_false,Qj,c2,if_true]
 ·refine ⟨false,?_,fun h=>by cases h⟩
  have c1:((v1.shape.length:Int)≠(v2.shape.length:Int)):=by omega
  simp only [if_pos c1,Qj,if_true]
theorem ite_some {α:Type} {p:Prop} [Decidable p] {a b:α}:(if p then some a else some b)=some (if p then a else b):=by split <;> rfl
structure nodeF (c:Qa):Prop where
 kind:1≤c.kind∧c.kind≤7
 kids:(c.kids.length:Int)=if c.kind=7 then 2 else if c.kind=1 then 0 else 1
 chk:checkR c.shape=0
 win:c.kind=2→c.starts.length=c.shape.length∧(∀ x∈c.starts,-65536≤x∧x≤65536)∧∀ k r,c.kids=k::r→k.shape.length=c.shape.length
 rev:c.kind=3∨c.kind=4→∀ k r,c.kids=k::r→k.shape=c.shape∧0≤c.axis∧c.axis < (c.shape.length:Int)
 rot:c.kind=4→0≤c.amount∧(c.amount=0∨c.amount < c.shape.getD c.axis.toNat 0)
 tra:c.kind=5→∀ k r,c.kids=k::r→c.perm.length=k.shape.length ∧
  ((∀ n∈k.shape,0≤n)→∀ j,j < k.shape.length→0≤c.perm.getD j 0∧c.perm.getD j 0 < (c.shape.length:Int)∧c.shape.getD (c.perm.getD j 0).toNat 0≤k.shape.getD j 0)
 cat:c.kind=7→∀ k k2 r,c.kids=k::k2::r→k.shape.length=k2.shape.length∧k.shape.length=c.shape.length∧0≤c.axis∧c.axis < (k.shape.length:Int)∧∀ j,j < k.shape.length→catA c.axis c.shape k.shape k2.shape j
theorem nodeW_L1 (c:Qa):∀ (s p:List Int),c.starts=p++s→Sm (p++s).length→∃ o,Yh (c,(p.length:Int))=some o∧(o=.inr ()→∀ x∈s,-65536≤x∧x≤65536)
 | [],p,e1,hs=>by
  rw [Yh]; simp only [e1,Ya,if_false]
  exact ⟨_,rfl,fun _ x h=>by cases h⟩
 | x::s,p,e1,hs=>by
  rw [Yh]
  obtain ⟨o,e,ho⟩:=nodeW_L1 c s (p++[x]) (by rw [e1]; simp) (by rw [← QM]; exact hs)
  simp only [e1,Zm,if_true,QS,Qj,mid_W hs,e]
  by_cases ha:x < -65536
  ·exact ⟨.inl (),by simp [ha,Qj],fun h=>by cases h⟩
  ·by_cases hb:x > 65536
   ·exact ⟨.inl (),by simp [ha,hb,Qj],fun h=>by cases h⟩
   ·refine ⟨o,by simp [ha,hb,Qj],fun h y hy=>?_⟩
    rcases List.mem_cons.1 hy with rfl|hy
    ·omega
    ·exact ho h y hy
theorem kids_one {c:Qa} (h:(c.kids.length:Int)=1):∃ k,c.kids=[k]:=by
 match hk:c.kids,h with
 | [k],_=>exact ⟨k,rfl⟩
 | [],h=>simp at h
 | _::_::_,h=>simp at h; omega
theorem kids_two {c:Qa} (h:(c.kids.length:Int)=2):∃ k k2,c.kids=[k,k2]:=by
 match hk:c.kids,h with
 | [k,k2],_=>exact ⟨k,k2,rfl⟩
 | [],h=>simp at h
 | [_],h=>simp at h
 | _::_::_::_,h=>simp at h; omega
theorem ex_if {B:Bool} {R:Option Bool} {F:Prop} (h:B=false→∃ b,R=some b∧(b=true→F)):∃ b,(if B=true then some false else R)=some b∧(b=true→F):=by
 cases B with
 | true=>exact ⟨false,rfl,fun h=>by cases h⟩
 | false=>exact h rfl
theorem node_ok (c:Qa) (bs:List (List Int)) (h1:c.shape.length≤40) (h2:c.starts.length≤40) (h4:∀ k∈c.kids,k.shape.length≤40) :
  ∃ b,Jh (c,bs)=some b∧(b=true→nodeF c):=by
 have hS:Sm c.shape.length:=Sm_of (show c.shape.length≤1000 by omega)
 simp only [Jh,ite_some,Qj,Check_ok _ hS]
 refine ex_if fun g3=>?_
 have k1:¬ c.kind < 1:=fun h=>by simp [h] at g3
 have k7:¬ c.kind > 7:=fun h=>by simp [h] at g3
 have kl:(c.kids.length:Int)=if c.kind=7 then 2 else if c.kind=1 then 0 else 1:=Decidable.byContradiction fun h=>by simp [h] at g3
 have kc:checkR c.shape=0:=Decidable.byContradiction fun h=>by simp [h] at g3
 clear g3
 refine ex_if fun g7=>?_
 clear g7
 by_cases c1:c.kind=1
 ·rw [if_pos c1]
  have hn:nodeF c:=⟨by omega,kl,kc,by omega,by omega,by omega,by omega,by omega⟩
  by_cases hb:0≤c.buffer∧c.buffer < (bs.length:Int)
  ·have hb':(if c.buffer≥0 then decide (c.buffer < (bs.length:Int)) else false)=true:=by simp [hb]
   rw [if_pos hb']
   have hi:c.buffer.toNat < bs.length:=by omega
   have:idx bs c.buffer=some bs[c.buffer.toNat]:=by simp [idx,hb.1,hi]
   simp only [this,Qj,Equal_ok' _ _ hS]
   exact ⟨_,rfl,fun _=>hn⟩
  ·have hb':¬ (if c.buffer≥0 then decide (c.buffer < (bs.length:Int)) else false)=true:=by
    by_cases h0:c.buffer≥0
    ·simp only [h0,if_true,decide_eq_true_eq]; omega
    ·simp [h0]
   rw [if_neg hb']
   exact ⟨_,rfl,fun h=>by cases h⟩
 rw [if_neg c1]
 by_cases c2:c.kind=2
 ·rw [if_pos c2]
  obtain ⟨k,hk⟩:=kids_one (c:=c) (by rw [kl,if_neg (by omega),if_neg c1])
  obtain ⟨o,e,ho⟩:=nodeW_L1 c c.starts [] rfl (Sm_of (show ([]++c.starts).length≤1000 by simp; omega))
  have e':Yh (c,0)=some o:=e
  rw [e',Qj]
  cases o with
  | inl _=>exact ⟨_,rfl,fun h=>by cases h⟩
  | inr _ =>
   simp only [idx_zero hk,Qj]
   by_cases hl:(c.starts.length:Int)=(c.shape.length:Int)
   ·rw [if_pos hl]
    refine ⟨_,rfl,fun h=>⟨by omega,kl,kc,fun _=>⟨by omega,ho rfl,fun k' r hk'=>?_⟩,by omega,by omega,by omega,by omega⟩⟩
    rw [hk] at hk'
    cases hk'
    simp at h; omega
   ·rw [if_neg hl]; exact ⟨_,rfl,fun h=>by cases h⟩
 rw [if_neg c2]
 by_cases c3:c.kind=3
 ·rw [if_pos c3]
  obtain ⟨k,hk⟩:=kids_one (c:=c) (by rw [kl,if_neg (by omega),if_neg c1])
  obtain ⟨b,e,hb⟩:=alike_ok c k [] hk hS
  rw [e,Qj]
  exact ⟨_,rfl,fun h=>⟨by omega,kl,kc,by omega,fun _ k' r hk'=>by rw [hk] at hk'; cases hk'; exact hb h,by omega,by omega,by omega⟩⟩
 rw [if_neg c3]
 by_cases c4:c.kind=4
 ·rw [if_pos c4]
  obtain ⟨k,hk⟩:=kids_one (c:=c) (by rw [kl,if_neg (by omega),if_neg c1])
  obtain ⟨b,e,hb⟩:=alike_ok c k [] hk hS
  rw [e,Qj]
  cases b with
  | false=>exact ⟨false,by simp,fun h=>by cases h⟩
  | true =>
   obtain ⟨a1,a2,a3⟩:=hb rfl
   have hr:c.kind=3∨c.kind=4→∀ k r,c.kids=k::r→k.shape=c.shape∧0≤c.axis∧c.axis < (c.shape.length:Int):=fun _ k' r hk'=>by rw [hk] at hk'; cases hk'; exact ⟨a1,a2,a3⟩
   by_cases hm:c.amount≥0
   ·simp only [if_true,decide_eq_true hm]
    by_cases h0:c.amount=0
    ·rw [if_pos h0]
     exact ⟨_,rfl,fun h=>⟨by omega,kl,kc,by omega,hr,fun _=>⟨hm,Or.inl h0⟩,by omega,by omega⟩⟩
    ·rw [if_neg h0]
     simp only [idx_getD a2 a3,Qj]
     exact ⟨_,rfl,fun h=>⟨by omega,kl,kc,by omega,hr,fun _=>⟨hm,Or.inr (by simpa using h)⟩,by omega,by omega⟩⟩
   ·simp only [if_true,decide_eq_false hm,Bool.false_eq_true,if_false]
    exact ⟨_,rfl,fun h=>by cases h⟩
 rw [if_neg c4]
 by_cases c5:c.kind=5
 ·rw [if_pos c5]
  obtain ⟨k,hk⟩:=kids_one (c:=c) (by rw [kl,if_neg (by omega),if_neg c1])
  have hks:=h4 k (by rw [hk]; simp)
  obtain ⟨b,e,hb⟩:=tr_ok c k (idx_zero hk) (Sm_of (show k.shape.length≤1000 by omega)) hS
  rw [e,Qj]
  exact ⟨_,rfl,fun h=>⟨by omega,kl,kc,by omega,by omega,by omega,fun _ k' r hk'=>by rw [hk] at hk'; cases hk'; exact hb h,by omega⟩⟩
 rw [if_neg c5]
 by_cases c7:c.kind=7
 ·rw [if_pos c7]
  obtain ⟨k,k2,hk⟩:=kids_two (c:=c) (by rw [kl,if_pos c7])
  have hks:=h4 k (by rw [hk]; simp)
  obtain ⟨b,e,hb⟩:=joined_ok c k k2 [] hk (Sm_of (show k.shape.length≤1000 by omega))
  rw [e,Qj]
  exact ⟨_,rfl,fun h=>⟨by omega,kl,kc,by omega,by omega,by omega,by omega,fun _ k' k2' r hk'=>by rw [hk] at hk'; cases hk'; exact hb h⟩⟩
 ·rw [if_neg c7]
  exact ⟨_,rfl,fun _=>⟨by omega,kl,kc,by omega,by omega,by omega,by omega,by omega⟩⟩
end Go.Proofs.Tryz
