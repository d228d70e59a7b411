/-
 Models of functions, their walks, and plain laws.
-/
import Derived.Test.YtokglhlanejjjaaGreatDoorKPsiElabA
namespace Go.Proofs.Tryz
open Go Go.Pm
set_option linter.all false
set_option maxHeartbeats 2000000
set_option maxRecDepth 2000
def QbV (x:(QP × Int × (List Int))):Option (Qr × Int) :=
 match x with
 | (p0,p1,p2) =>
 Qe9 p0>>=fun (v1,v2) =>
 if v2≠0 then
  Zx v2>>=fun (v3,v4) =>
  some (v3,v4)
 else
 QaP (p1,p2)>>=fun (v5,v6) =>
 if v6≠0 then
  Zx v6>>=fun (v7,v8) =>
  some (v7,v8)
 else
 if v5 < 0 then
  (
  XU (p2,p0.values,p0.scalar)>>=fun out =>
  match out with
  | .inl v9 =>
   some ((⟨([]:(List Int)),([]:(List Int)),([]:(List Int)),([]:(List Int)),0,0,([]:(List Int))⟩:Qr),v9)
  | .inr ((v10,v11)) =>
   some ((⟨([]:(List Int)),v10,v11,([]:(List Int)),(-1),0,([]:(List Int))⟩:Qr),0)
  )
 else
 idx p2 v5>>=fun v12 =>
 Jr (v1,v12)>>=fun v13 =>
 Xw (v5,v13)>>=fun (v14,v15) =>
 (
 XT (p2,p0.values,p0.scalar,v14,v15)>>=fun out =>
 match out with
 | .inl v16 =>
  some ((⟨([]:(List Int)),([]:(List Int)),([]:(List Int)),([]:(List Int)),0,0,([]:(List Int))⟩:Qr),v16)
 | .inr ((v17,v18)) =>
  some ((⟨([]:(List Int)),v17,v18,([]:(List Int)),v14,v15,([]:(List Int))⟩:Qr),0)
 )
theorem QhL {p0 p1 p2 r0 r1} (hm:QbV (p0,p1,p2)=some (r0,r1)):FQ 147 [(QP.toD p0),(Qf p1),(Lb p2)] (.tup [(.dat (Qr.toD r0)),(Qe r1)]):=by
 unfold QbV at hm
 exact fp (fn:=f147) rfl (ge 3 (gr 1 (bi2 hm fun v1 v2 hx hm=>cp (QiS hx) (re 5 (Qi (ge 2 (rix hm (fun hm=>gr 1 (bi2 hm fun v3 v4 hx hm=>cp (Z9 hx) (re 4 (Qj zf)))) (fun hm=>Qk (gr 2 (bi2 hm fun v5 v6 hx hm=>cp (Qf7 hx) (re 5 (Qi (ge 2 (rix hm (fun hm=>gr 1 (bi2 hm fun v7 v8 hx hm=>cp (Z9 hx) (re 4 (Qj zf)))) (fun hm=>Qk (Qi (ge 2 (ri hm (fun hm=>gr 2 (bs hm (fun v9 hx hm=>QM (Qey hx) (re 4 (Qj zf))) fun ⟨v10,v11⟩ hx hm=>QM (Qey hx) (re 4 (Qj (by obtain ⟨rfl,rfl⟩:=QgS hm; exact ⟨trivial,ZT [(.agg [Ea,(.ms 3 1 0 v10.length v10.length),(.ms 4 1 0 v11.length v11.length),Ea,(Qe (-1)),(Qe 0),Ea]),(Qe 0)] kr (po_tup (ps_cons (p1_agg (pc_cons kr (pc_cons (pc_ms (e:=3) Qf v10 rfl zY kr) (pc_cons (pc_ms (e:=3) Qf v11 rfl zY kr) (pc_cons kr (pc_cons kr (pc_cons kr (pc_cons kr pc_nil)))))))) (ps_cons kr ps_nil)))⟩))))) (fun hm=>Qk (gr 6 (QV 1 Qf hm fun v12 hm=>Qd 1 (bi hm fun v13 hx hm=>cp (Qgh hx) (bi2 hm fun v14 v15 hx hm=>cp (Qfg hx) (Qd 1 (bs hm (fun v16 hx hm=>QM (Qeu hx) (re 4 (Qj zf))) fun ⟨v17,v18⟩ hx hm=>QM (Qeu hx) (re 4 (Qj (by obtain ⟨rfl,rfl⟩:=QgS hm; exact ⟨trivial,ZT [(.agg [Ea,(.ms 4 1 0 v17.length v17.length),(.ms 5 1 0 v18.length v18.length),Ea,(Qe v14),(Qe v15),Ea]),(Qe 0)] kr (po_tup (ps_cons (p1_agg (pc_cons kr (pc_cons (pc_ms (e:=3) Qf v17 rfl zY kr) (pc_cons (pc_ms (e:=3) Qf v18 rfl zY kr) (pc_cons kr (pc_cons kr (pc_cons kr (pc_cons kr pc_nil)))))))) (ps_cons kr ps_nil)))⟩))))))))))))))))))))))))))))
def Xm (x:(Int × (List Int) × Bool × Int × (List Int) × Nat)):Option (((List Int) × Int × Int)) :=
 match x with
 | (q0,q1,q2,q3,q4,q5) =>
 (if q0 < 0 then
  some true
 else
 some (decide (q0≥q3))
 )>>=fun (v1:Bool) =>
 if v1=true then
  some (q4,0,6)
 else
 some ((insK q4 q0),q0,0)
theorem Qeh {q0 q1 q2 q3 q4 q5 v5001 v5002 v5003} (hm:Xm (q0,q1,q2,q3,q4,q5)=some (v5001,v5002,v5003)):PC prog env 198 [(Qe q0),(.ptr 1 0),(.ptr 3 0)] (QaA q1 q2 q3 q4 q5) (.tup [(Qe v5002),(Qe v5003)]) (QaA q1 q2 q3 v5001 q5):=by
 unfold Xm at hm;exact PC_sxB (fn:=f198) rfl (ge 2 (Qi (Qi (bi hm fun v1 hs hm=>QY (fun d=>⟨sl d 16 [(0,(Qe q0)),(2,(.ptr 3 0)),(12,(Qm v1))],(QaA q1 q2 q3 q4 q5)⟩) (have hm:=hs;R_G (Qd 3 (gs 8 hm (fun hm=>re 4 zf) (fun hm=>re 4 zf)))) (fun d=>rib hm (fun hm=>ge 2 (Qj zf)) (fun hm=>Qk (gr 2 (ZR (fun H=>H.set 2 (.map (setE .i64 (Qfw true) (insK q4 q0)))) rfl kr (fun _=>Qi8 (i:=2) (kt:=3) (e:=4) (ik:=.i64) (l:=q4) (n:=q0) (v:=(Qfw true)) kr kr rfl kr kr kr kr) (Yf (ge 3 (Qj zf)))))))))))
def QJ (x:((List Int) × (List Int) × Bool × Int × (List Int) × (List Int) × Int)):Option (((List Int) × Int × Nat) ⊕ ((List Int) × (List Int))) :=
 match x with
 | (q0,q1,q2,q3,v201,v202,v203) =>
 if v203 < (q0.length:Int) then
  idx q0 v203>>=fun v606 =>
  Xm (v606,q1,q2,q3,v201,v202.length)>>=fun (v607,v608,v609) =>
  if v609≠0 then
   some (Sum.inl (v607,v609,v202.length))
  else
  app 8 v202 ([v608]:List Int)>>=fun v610 =>
  QJ (q0,q1,q2,q3,v607,v610,(W (v203+1)))
 else
 some (Sum.inr (v201,v202))
 partial_fixpoint
theorem YR:∀ x r,QJ x=some r→match x with|(q0,q1,q2,q3,v201,v202,v203)=>LQ f197 197 [1,1,0,1,0,0] 5 ⟨kp 35 [(1,(.fn 198 [(.ptr 1 0),(.ptr 3 0)])),(6,(.vec 4 ((List.map Qf) v202))),(14,(La q0)),(15,(Qe (q0.length:Int))),(16,(Qe v203))],(QaA q1 q2 q3 v201 v202.length)⟩ (P2 .ret (fun (v601,v602,v603) d=>⟨sl d 35 [(4,Ea),(5,(Qe v602))],(QaA q1 q2 q3 v601 v603)⟩) (.exit 0) (fun (v604,v605) d=>⟨sl d 35 [(6,(.vec 4 ((List.map Qf) v605)))],(QaA q1 q2 q3 v604 v605.length)⟩) r):=by
 refine QJ.partial_correctness _ (fun QJ YR x r hm=>?_);obtain ⟨q0,q1,q2,q3,v201,v202,v203⟩:=x;exact lp (ge 1 (Qi (ri hm (fun hm=>Qk (Qi (Qn (Qi (R_G (QV 1 Qf hm fun v606 hm=>re 2 (gr 2 (bi3 hm fun v607 v608 v609 hx hm=>QM (Qeh hx) (re 5 (Qi (ge 2 (rix hm (fun hm=>ge 3 (Qj zf)) (fun hm=>Qk (R_G (Qd 3 (bi hm fun v610 hx hm=>Y9 3 1 8 4 Qf v202 ([v608]:List Int) v610 (xs:=(List.map Qf) v202) (es:=(List.map Qf) ([v608]:List Int)) (L:=(List.map Qf)) zY rfl rfl zY hx (re 1 (R_G (re 2 (YR _ _ hm _ (prune_of2 (QaA q1 q2 q3 v607 v610.length) (fun _=>(pg_cons kr (pg_cons kr (pg_cons (purge_set _ _ _ _ _) (pg_cons kr (pg_cons kr pg_nil)))))) rfl))))))))))))))))))))) (fun hm=>QE zf))))
def Ye (x:((List Int) × (List Int) × Bool × Int)):Option (((List Int) × Int × Nat) ⊕ ((List Int) × (List Int))) :=
 match x with
 | (q0,q1,q2,q3) =>
 QS (0≤(q0.length:Int)∧(q0.length:Int) * (8:Int)≤(room:Int)∧(q0.length:Int)≤9223372036854775807)>>=fun _ =>
 (
 QJ (q0,q1,q2,q3,([]:List Int),([]:List Int),0)>>=fun out =>
 match out with
 | .inl (v601,v602,v603) =>
  some (Sum.inl (v601,v602,v603))
 | .inr ((v604,v605)) =>
  some (Sum.inr (v604,v605))
 )
theorem JP {q0 q1 q2 q3 r} (hm:Ye (q0,q1,q2,q3)=some r):PC prog env 197 [(La q0),(.fn 198 [(.ptr 1 0),(.ptr 3 0)])] [(QT q1 q2),(.box [(Qe q3)]),(.map (setE .i64 (Qfw true) ([]:List Int))),(.box [(.mapv 2)])] (match r with|.inl (v5001,v5002,v5003)=>(.tup [Ea,(Qe v5002)])|.inr ((v5004,v5005))=>(.tup [(.vec 4 ((List.map Qf) v5005)),(Qe 0)])) (match r with|.inl (v5001,v5002,v5003)=>(QaA q1 q2 q3 v5001 v5003)|.inr ((v5004,v5005))=>(QaA q1 q2 q3 v5004 v5005.length)):=by
 unfold Ye at hm;exact PC_sxB (fn:=f197) rfl (ge 2 (gr 1 (QH Qf q0 (gi hm fun hx hm=>ZR (v:=.vec 4 []) (fun H=>H++[.tok 3 0]) rfl kr (by intro K hk; exact Qic 4 (n:=(q0.length:Int)) (j:=0) (os:=[]) (bytes:=8) (z:=(Qf 0)) hx kr kr kr kr kr kr rfl kr kr hk) (re 1 (Qi (gr 1 (QH Qf q0 (re 1 (Qn (ru2 hm (YR _) (fun ⟨v601,v602,v603⟩ d hm=>zf) (fun ⟨v604,v605⟩ d hm=>ge 3 (Qj zf)) (hst:=(prune_of2 (Qjf q1 q2 q3) (fun _=>(pg_cons kr (pg_cons kr (pg_cons (purge_set _ _ _ _ _) (pg_cons kr (pg_cons kr pg_nil)))))) rfl)))))))))))))
def Zh (x:((List Int) × Int × Int)):Option (Int) :=
 match x with
 | (p0,v202,v203) =>
 if v203 < (p0.length:Int) then
  idx p0 v203>>=fun v603 =>
  Zh (p0,(if v202 < v603 then v603 else v202),(W (v203+1)))
 else
 some v202
 partial_fixpoint
theorem Qad:∀ x r,Zh x=some r→match x with|(p0,v202,v203)=>LQ f199 199 [1,1,1,0,1,0,0] 0 ⟨kp 25 [(0,(La p0)),(3,(Qe v202)),(4,(Qe v203))],[]⟩ (P1 (.exit 0) (fun v602 d=>⟨sl d 25 [(3,(Qe v602))],[]⟩) r):=by
 refine Zh.partial_correctness _ (fun Zh Qad x r hm=>?_);obtain ⟨p0,v202,v203⟩:=x;exact lp (Qi (gr 2 (QH Qf p0 (re 1 (ri hm (fun hm=>Qk (Qi (Qn (R_G (Qd 3 (QV 1 Qf hm fun v603 hm=>Qd 1 (QG rfl (fun _=>QgZ (k:=.i64) (m:=v202) (n:=v603) rfl kr kr) (re 1 (R_G (re 3 (Qad _ _ hm _ kr))))))))))) (fun hm=>QE zf))))))
def Y5 (x:(List Int)):Option Int :=
 match x with
 | p0 =>
 if (p0.length:Int) < 1 then
  none
 else
 idx p0 0>>=fun v1 =>
 Zh (p0,v1,1)>>=fun v602 =>
 some v602
theorem Qdt {p0 r0} (hm:Y5 p0=some r0):FQ 199 [(Lb p0)] (Qe r0):=by
 unfold Y5 at hm;exact fp (fn:=f199) rfl (ge 1 (Qi (gr 1 (QH Qf p0 (re 1 (ri hm (fun hm=>R_G ((Qhk hm).elim)) (fun hm=>Qk (gr 1 (QV 1 Qf hm fun v1 hm=>re 2 (Qi (ge 1 (Qn (ru1 hm (Qad _) fun v602 d hm=>ge 2 (Qj zf))))))))))))))
def Js (x:(QP × Int)):Option ((List Int) × Int) :=
 match x with
 | (p0,p1) =>
 J9 (p0,p1)>>=fun (v1,v2) =>
 if v2≠0 then
  some (([]:(List Int)),v2)
 else
 (
 Ye (v1,p0.values,p0.scalar,p1)>>=fun out =>
 match out with
 | .inl (v3,v4,v5) =>
  ((if v4=0 then
   some (decide (p1 > 0))
  else
  some false
  )>>=fun (v9:Bool) =>
  if v9=true then
   Y5 ([]:(List Int))>>=fun v10 =>
   some ((v3.length:Int) != (W (v10+1)))
  else
  some false
  )>>=fun (v8:Bool) =>
  if v8=true then
   some (([]:(List Int)),6)
  else
  some (([]:(List Int)),v4)
 | .inr ((v6,v7)) =>
  (if p1 > 0 then
   Y5 v7>>=fun v12 =>
   some ((v6.length:Int) != (W (v12+1)))
  else
  some false
  )>>=fun (v11:Bool) =>
  if v11=true then
   some (([]:(List Int)),6)
  else
  some (v7,0)
 )
theorem Qgi {p0 p1 r0 r1} (hm:Js (p0,p1)=some (r0,r1)):FQ 183 [(QP.toD p0),(Qf p1)] (.tup [(La r0),(Qe r1)]):=by
 unfold Js at hm
 exact fp (fn:=f183) rfl (ge 4 (gr 2 (bi2 hm fun v1 v2 hx hm=>cp (QfQ hx) (re 5 (Qi (ge 2 (rix hm (fun hm=>ge 3 (Qj zf)) (fun hm=>Qk (gr 1 (re 2 (gr 2 (bs hm (fun ⟨v3,v4,v5⟩ hx hm=>QM (JP hx) (re 5 (Qi (Qi (bi hm fun v8 hs hm=>QY (fun d=>⟨sl d 42 [(7,(Qe v4)),(9,Ea),(39,(Qm v8))],(QaA p0.values p0.scalar p1 v3 v5)⟩) (have hm:=hs;Qdg (Qd 3 (bi hm fun v9 hs hm=>ZH (j:=6) (fun d=>⟨sl d 42 [(7,(Qe v4)),(8,(.ptr 3 0)),(9,Ea),(31,(Qm v9))],(QaA p0.values p0.scalar p1 v3 v5)⟩) (fun d=>Qd 1 (gsb 32 hm (fun hm=>Qd 1 (QG rfl (fun _=>Qid (kt:=3) (e:=4) (i:=2) (kk:=.i64) (v:=(Qfw true)) (l:=v3) kr rfl kr kr) (Qd 1 (bi hm fun v10 hx hm=>cp (Qdt hx) (re 3 ⟨kr,zf⟩))))) (fun hm=>re 7 ⟨kr,zf⟩))) (fun hJ=>gsq 28 hs (fun hm=>Qd 3 zf) (fun hm=>Qd 3 zf))))) (fun d=>rib hm (fun hm=>ge 2 (Qj zf)) (fun hm=>Qk (ge 4 (Qj zf))))))))) fun ⟨v6,v7⟩ hx hm=>QM (JP hx) (re 5 (Qi (Qi (bi hm fun v11 hs hm=>QY (fun d=>⟨sl d 42 [(7,(Qe 0)),(9,(.vec 4 ((List.map Qf) v7))),(39,(Qm v11))],(QaA p0.values p0.scalar p1 v6 v7.length)⟩) (have hm:=hs;Qdg (Qd 7 (gs 32 hm (fun hm=>Qd 1 (QG rfl (fun _=>Qid (kt:=3) (e:=4) (i:=2) (kk:=.i64) (v:=(Qfw true)) (l:=v6) kr rfl kr kr) (Qd 1 (bi hm fun v12 hx hm=>cp (Qdt hx) (re 3 ⟨kr,zf⟩))))) (fun hm=>re 7 ⟨kr,zf⟩)))) (fun d=>rib hm (fun hm=>ge 2 (Qj zf)) (fun hm=>Qk (ge 4 (Qj zf))))))))))))))))))))
def J7 (x:(QP × (List Int))):Option (Qr × Int) :=
 match x with
 | (p0,p1) =>
 Js ((⟨p0.values,p0.scalar⟩:QP),(p1.length:Int))>>=fun (v1,v2) =>
 if v2≠0 then
  Zx v2>>=fun (v3,v4) =>
  some (v3,v4)
 else
 JD (v1,p1)>>=fun (v5,v6) =>
 some (v5,v6)
theorem QgL {p0 p1 r0 r1} (hm:J7 (p0,p1)=some (r0,r1)):FQ 148 [(QP.toD p0),(Lb p1)] (.tup [(.dat (Qr.toD r0)),(Qe r1)]):=by
 unfold J7 at hm;exact fp (fn:=f148) rfl (ge 3 (gr 2 (QH Qf p1 (bi2 hm fun v1 v2 hx hm=>cp (Qgi hx) (re 5 (Qi (ge 2 (rix hm (fun hm=>gr 1 (bi2 hm fun v3 v4 hx hm=>cp (Z9 hx) (re 4 (Qj zf)))) (fun hm=>Qk (gr 2 (bi2 hm fun v5 v6 hx hm=>cp (Qfp hx) (re 4 (Qj zf)))))))))))))
def J0 (x:Int):Option Bool :=
 match x with
 | p0 =>
 some (decide (p0 < 0))
theorem QfW {p0 r0} (hm:J0 p0=some r0):FQ 201 [(Qf p0)] (Qm r0):=by
 unfold J0 at hm;exact fp (fn:=f201) rfl (ge 1 (ge 3 (Qj zf)))
def Qy (x:((List Int) × Int)):Option (Int ⊕ Unit) :=
 match x with
 | (p0,v201) =>
 if v201 < (p0.length:Int) then
  idx p0 v201>>=fun v602 =>
  J0 v602>>=fun v603 =>
  if v603=true then
   some (Sum.inl v201)
  else
  Qy (p0,(W (v201+1)))
 else
 some (Sum.inr ())
 partial_fixpoint
theorem Zm:∀ x r,Qy x=some r→match x with|(p0,v201)=>LQ f211 211 [1,0,1,0,0] 0 ⟨kp 19 [(0,(La p0)),(1,(.dat (.raw (.func (.func 201) #[] #[])))),(7,(Qe (p0.length:Int))),(8,(Qe v201))],[]⟩ (P2 .ret (fun v601 d=>⟨sl d 19 [(4,(Qe v601))],[]⟩) (.exit 0) (fun _ d=>⟨sl d 19 [],[]⟩) r):=by
 refine Qy.partial_correctness _ (fun Qy Zm x r hm=>?_);obtain ⟨p0,v201⟩:=x;exact lp (ge 1 (Qi (ri hm (fun hm=>Qk (Qi (Qn (ge 2 (gr 3 (QV 1 Qf hm fun v602 hm=>Qd 1 (bi hm fun v603 hx hm=>cp (QfW hx) (Yf (rib hm (fun hm=>ge 2 (Qj zf)) (fun hm=>Qk (R_G (re 2 (Zm _ _ hm _ kr))))))))))))) (fun hm=>QE zf))))
def Q7 (x:(List Int)):Option Int :=
 match x with
 | p0 =>
 (
 Qy (p0,0)>>=fun out =>
 match out with
 | .inl v601 =>
  some v601
 | .inr (_) =>
  some (-1)
 )
theorem Jz {p0 r0} (hm:Q7 p0=some r0):FQ 211 [(Lb p0),(.raw (.func (.func 201) #[] #[]))] (Qe r0):=by
 unfold Q7 at hm;exact fp (fn:=f211) rfl (ge 1 (Qi (gr 1 (QH Qf p0 (re 1 (Qn (ru2 hm (Zm _) (fun v601 d hm=>zf) fun _ d hm=>ge 1 (Qj zf))))))))
def QO (x:(List Int)):Option Bool :=
 match x with
 | p0 =>
 Q7 p0>>=fun v1 =>
 some (decide (v1≥0))
theorem Jl {p0 r0} (hm:QO p0=some r0):FQ 200 [(Lb p0),(.raw (.func (.func 201) #[] #[]))] (Qm r0):=by
 unfold QO at hm;exact fp (fn:=f200) rfl (ge 1 (gr 2 (bi hm fun v1 hx hm=>cp (Jz hx) (re 2 (Qj zf)))))
def QbD (x:Int):Option (Int × Int) :=
 match x with
 | p0 =>
 if p0 < 0 then
  some (0,6)
 else
 if p0 > 65536 then
  some (0,7)
 else
 some (p0,0)
theorem QgN {p0 r0 r1} (hm:QbD p0=some (r0,r1)):FQ 202 [(Qf p0)] (.tup [(Qe r0),(Qe r1)]):=by
 unfold QbD at hm;exact fp (fn:=f202) rfl (ge 2 (Qi (Qn (ge 3 (ri hm (fun hm=>ge 2 (Qj zf)) (fun hm=>ge 3 (ri hm (fun hm=>ge 2 (Qj zf)) (fun hm=>Qk (ge 3 (Qj zf))))))))))
def QI (x:((List Int) × Bool × (List Int) × Int)):Option ((Int × Nat) ⊕ (List Int)) :=
 match x with
 | (q0,q1,v201,v202) =>
 if v202 < (q0.length:Int) then
  idx q0 v202>>=fun v604 =>
  QbD v604>>=fun (v605,v606) =>
  if v606≠0 then
   some (Sum.inl (v606,v201.length))
  else
  app 8 v201 ([v605]:List Int)>>=fun v607 =>
  QI (q0,q1,v607,(W (v202+1)))
 else
 some (Sum.inr v201)
 partial_fixpoint
theorem YQ:∀ x r,QI x=some r→match x with|(q0,q1,v201,v202)=>LQ f197 197 [1,1,0,1,0,0] 2 ⟨kp 35 [(1,(.dat (.raw (.func (.func 202) #[] #[])))),(6,(XB v201)),(14,(La q0)),(15,(Qe (q0.length:Int))),(16,(Qe v202))],(Xb q0 q1 v201.length)⟩ (P2 .ret (fun (v601,v602) d=>⟨sl d 35 [(4,Ea),(5,(Qe v601))],(Xb q0 q1 v602)⟩) (.exit 0) (fun v603 d=>⟨sl d 35 [(6,(XB v603))],(Xb q0 q1 v603.length)⟩) r):=by
 refine QI.partial_correctness _ (fun QI YQ x r hm=>?_);obtain ⟨q0,q1,v201,v202⟩:=x;exact lp (ge 1 (Qi (ri hm (fun hm=>Qk (Qi (Qn (Qi (R_G (QV 1 Qf hm fun v604 hm=>re 2 (gr 2 (bi2 hm fun v605 v606 hx hm=>cp (QgN hx) (re 5 (Qi (ge 2 (rix hm (fun hm=>ge 3 (Qj zf)) (fun hm=>Qk (R_G (Qd 3 (bi hm fun v607 hx hm=>Y9 3 1 8 1 Qf v201 ([v605]:List Int) v607 (xs:=(List.map Qf) v201) (es:=(List.map Qf) ([v605]:List Int)) (L:=(List.map Qf)) zY rfl rfl zY hx (re 1 (R_G (re 2 (YQ _ _ hm _ kr)))))))))))))))))))) (fun hm=>QE zf))))
def Yd (x:((List Int) × Bool)):Option ((Int × Nat) ⊕ (List Int)) :=
 match x with
 | (q0,q1) =>
 QS (0≤(q0.length:Int)∧(q0.length:Int) * (8:Int)≤(room:Int)∧(q0.length:Int)≤9223372036854775807)>>=fun _ =>
 (
 QI (q0,q1,([]:List Int),0)>>=fun out =>
 match out with
 | .inl (v601,v602) =>
  some (Sum.inl (v601,v602))
 | .inr (v603) =>
  some (Sum.inr v603)
 )
theorem JO {q0 q1 r} (hm:Yd (q0,q1)=some r):PC prog env 197 [(La q0),(.dat (.raw (.func (.func 202) #[] #[])))] [(QT q0 q1)] (match r with|.inl (v5001,v5002)=>(.tup [Ea,(Qe v5001)])|.inr (v5003)=>(.tup [(XB v5003),(Qe 0)])) (match r with|.inl (v5001,v5002)=>(Xb q0 q1 v5002)|.inr (v5003)=>(Xb q0 q1 v5003.length)):=by
 unfold Yd at hm;exact PC_sxB (fn:=f197) rfl (ge 2 (gr 1 (QH Qf q0 (gi hm fun hx hm=>ZR (v:=.vec 1 []) (fun H=>H++[.tok 3 0]) rfl kr (by intro K hk; exact Qic 1 (n:=(q0.length:Int)) (j:=0) (os:=[]) (bytes:=8) (z:=(Qf 0)) hx kr kr kr kr kr kr rfl kr kr hk) (re 1 (Qi (gr 1 (QH Qf q0 (re 1 (Qn (ru2 hm (YQ _) (fun ⟨v601,v602⟩ d hm=>zf) fun v603 d hm=>ge 3 (Qj zf))))))))))))
def JM (x:QP):Option ((List Int) × Int) :=
 match x with
 | p0 =>
 QO p0.values>>=fun v1 =>
 if v1=true then
  some (([]:(List Int)),6)
 else
 (
 Yd (p0.values,p0.scalar)>>=fun out =>
 match out with
 | .inl (v2,v3) =>
  (if v2=0 then
   Zd ([]:(List Int))>>=fun v6 =>
   some v6
  else
  some v2
  )>>=fun (v5:Int) =>
  if v5≠0 then
   some (([]:(List Int)),v5)
  else
  some (([]:(List Int)),0)
 | .inr (v4) =>
  Zd v4>>=fun v7 =>
  if v7≠0 then
   some (([]:(List Int)),v7)
  else
  some (v4,0)
 )
theorem QgI {p0 r0 r1} (hm:JM p0=some (r0,r1)):FQ 184 [(QP.toD p0)] (.tup [(La r0),(Qe r1)]):=by
 unfold JM at hm;exact fp (fn:=f184) rfl (ge 3 (Qi (gr 2 (bi hm fun v1 hx hm=>cp (Jl hx) (Yf (rib hm (fun hm=>ge 2 (Qj zf)) (fun hm=>Qk (gr 2 (bs hm (fun ⟨v2,v3⟩ hx hm=>QM (JO hx) (re 5 (Qi (ge 2 (bi hm fun v5 hs hm=>QY (fun d=>⟨sl d 23 [(4,Ea),(5,(Qe v5))],(Xb p0.values p0.scalar v3)⟩) (have hm:=hs;riq hm (fun hm=>R_G (Qd 1 (bi hm fun v6 hx hm=>cp (ZF hx) (re 1 zf)))) (fun hm=>Qk zf)) (fun d=>Qi (ge 2 (rix hm (fun hm=>ge 3 (Qj zf)) (fun hm=>Qk (ge 3 (Qj zf))))))))))) fun v4 hx hm=>QM (JO hx) (re 5 (Qi (ge 2 (Qb8 kr (R_G (Qd 1 (bi hm fun v7 hx hm=>cp (ZF hx) (re 1 (Qi (ge 2 (rix hm (fun hm=>ge 3 (Qj zf)) (fun hm=>Qk (ge 3 (Qj zf)))))))))))))))))))))))
def Qa2 (x:((List Int) × (List Int) × (List Int) × Bool)):Option (Int ⊕ ((List Int) × (List Int))) :=
 match x with
 | (q0,q1,q2,q3) =>
 Zd q1>>=fun v1 =>
 if v1≠0 then
  some (Sum.inl v1)
 else
 Qs q0>>=fun v2 =>
 Qs q1>>=fun v3 =>
 some (Sum.inr (v2,v3))
theorem Qex {q0 q1 q2 q3 r} (hm:Qa2 (q0,q1,q2,q3)=some r):PC prog env 138 [(La q0),(La q1),(.dat (.lst []))] [(QT q2 q3),Qu] (match r with|.inl v5001=>(.tup [Qcq,(Qe v5001)])|.inr ((v5002,v5003))=>(.tup [(.agg [Ea,(.ms 3 1 0 v5002.length v5002.length),(.ms 4 1 0 v5003.length v5003.length),Ea,(Qe (-1)),(Qe 0),Ea]),(Qe 0)])) (match r with|.inl v5001=>[(QT q2 q3),Qu,Qu]|.inr ((v5002,v5003))=>[(QT q2 q3),Qu,(QeX v5002.length v5003.length),(QB v5002),(QB v5003),(QeX v5002.length v5003.length)]):=by
 unfold Qa2 at hm;exact PC_sxB (fn:=f138) rfl (ge 2 (Qi (gr 1 (bi hm fun v1 hx hm=>cp (ZF hx) (re 1 (ge 2 (rix hm (fun hm=>ge 4 (Qj zf)) (fun hm=>Qk (gr 1 (bi hm fun v2 hx hm=>go 3 3 Qf (Qv hx) (Qd 1 (bi hm fun v3 hx hm=>go 4 3 Qf (Qv hx) (re 3 (Qi (gr 1 (Qd 1 (re 1 (Qn (Qdu (RL_at (st':=⟨kp 33 [(6,(.ptr 2 0)),(9,(.ptr 5 0)),(23,(.dat (.lst []))),(24,(Qe 0)),(25,(Qe 0))],(Qgn q2 q3 v2 v3 v2.length v3.length)⟩) (prune_of2 (Qgn q2 q3 v2 v3 v2.length v3.length) (fun _=>(pg_cons kr (pg_cons kr (pg_cons kr (pg_cons (purge_mt Qf _ _ _ _ _) (pg_cons (purge_mt Qf _ _ _ _ _) (pg_cons kr pg_nil))))))) rfl) (ge 1 (Qi (XN kr (QE (ge 3 (Qj zf))))))))))))))))))))))))))
def Qbj (x:(QP × (List Int))):Option (Qr × Int) :=
 match x with
 | (p0,p1) =>
 JM (⟨p0.values,p0.scalar⟩:QP)>>=fun (v1,v2) =>
 if v2≠0 then
  Zx v2>>=fun (v3,v4) =>
  some (v3,v4)
 else
 (
 Qa2 (p1,v1,p0.values,p0.scalar)>>=fun out =>
 match out with
 | .inl v5 =>
  some ((⟨([]:(List Int)),([]:(List Int)),([]:(List Int)),([]:(List Int)),0,0,([]:(List Int))⟩:Qr),v5)
 | .inr ((v6,v7)) =>
  some ((⟨([]:(List Int)),v6,v7,([]:(List Int)),(-1),0,([]:(List Int))⟩:Qr),0)
 )
theorem Qhr {p0 p1 r0 r1} (hm:Qbj (p0,p1)=some (r0,r1)):FQ 149 [(QP.toD p0),(Lb p1)] (.tup [(.dat (Qr.toD r0)),(Qe r1)]):=by
 unfold Qbj at hm;exact fp (fn:=f149) rfl (ge 3 (gr 1 (bi2 hm fun v1 v2 hx hm=>cp (QgI hx) (re 5 (Qi (ge 2 (rix hm (fun hm=>gr 1 (bi2 hm fun v3 v4 hx hm=>cp (Z9 hx) (re 4 (Qj zf)))) (fun hm=>Qk (gr 2 (bs hm (fun v5 hx hm=>QM (Qex hx) (re 4 (Qj zf))) fun ⟨v6,v7⟩ hx hm=>QM (Qex hx) (re 4 (Qj (by obtain ⟨rfl,rfl⟩:=QgS hm; exact ⟨trivial,ZT [(.agg [Ea,(.ms 3 1 0 v6.length v6.length),(.ms 4 1 0 v7.length v7.length),Ea,(Qe (-1)),(Qe 0),Ea]),(Qe 0)] kr (po_tup (ps_cons (p1_agg (pc_cons kr (pc_cons (pc_ms (e:=3) Qf v6 rfl zY kr) (pc_cons (pc_ms (e:=3) Qf v7 rfl zY kr) (pc_cons kr (pc_cons kr (pc_cons kr (pc_cons kr pc_nil)))))))) (ps_cons kr ps_nil)))⟩)))))))))))))
def ZG (x:(Int × Int × Int × ByteArray × (List Int) × (List Qc) × Int × (List Int) × Int × (List Int) × Int × Int × (List Int) × (List Qh) × (List (ByteArray × Int)) × (List Qg) × (List Qg) × (List Qp))):Option ((Int × (List Int) × Int × (List Int) × Int × Int × (List Int) × (List Qh) × Int)) :=
 match x with
 | (q0,q1,q2,q3,q4,q5,q6,q7,q8,q9,q10,q11,q12,q13,q14,q15,q16,q17) =>
 idx q5 0>>=fun v1 =>
 XX (v1.kind,v1.fn,v1.axis,v1.name,v1.nums,v1.kids,q14,q15,q16)>>=fun (v2,v3,v4) =>
 if v4≠0 then
  some (0,([]:List Int),0,([]:List Int),0,0,([]:List Int),([]:List Qh),v4)
 else
 if q1=1 then
  Qdr ((⟨v2,v3⟩:QP),q7)>>=fun (v5,v6) =>
  QaJ (v5,(⟨q6,q7,q8,q9,q10,q11,q12,q13⟩:Qh))>>=fun v7 =>
  some (v7.kind,v7.shape,v7.buffer,v7.starts,v7.axis,v7.amount,v7.perm,v7.kids,v6)
 else
 if q1=2 then
  Qch ((⟨v2,v3⟩:QP),q7)>>=fun (v8,v9) =>
  QaJ (v8,(⟨q6,q7,q8,q9,q10,q11,q12,q13⟩:Qh))>>=fun v10 =>
  some (v10.kind,v10.shape,v10.buffer,v10.starts,v10.axis,v10.amount,v10.perm,v10.kids,v9)
 else
 if q1=3 then
  QbV ((⟨v2,v3⟩:QP),q2,q7)>>=fun (v11,v12) =>
  QaI (4,v11,(⟨q6,q7,q8,q9,q10,q11,q12,q13⟩:Qh))>>=fun v13 =>
  some (v13.kind,v13.shape,v13.buffer,v13.starts,v13.axis,v13.amount,v13.perm,v13.kids,v12)
 else
 if q1=4 then
  J7 ((⟨v2,v3⟩:QP),q7)>>=fun (v14,v15) =>
  XQ (v14,(⟨q6,q7,q8,q9,q10,q11,q12,q13⟩:Qh))>>=fun v16 =>
  some (v16.kind,v16.shape,v16.buffer,v16.starts,v16.axis,v16.amount,v16.perm,v16.kids,v15)
 else
 Qbj ((⟨v2,v3⟩:QP),q7)>>=fun (v17,v18) =>
 XZ ((⟨q6,q7,q8,q9,q10,q11,q12,q13⟩:Qh),v17.shape)>>=fun v19 =>
 some (v19.kind,v19.shape,v19.buffer,v19.starts,v19.axis,v19.amount,v19.perm,v19.kids,v18)
theorem QdO {q0 q1 q2 q3 q4 q5 q6 q7 q8 q9 q10 q11 q12 q13 q14 q15 q16 q17 v5001 v5002 v5003 v5004 v5005 v5006 v5007 v5008 v5009} (hm:ZG (q0,q1,q2,q3,q4,q5,q6,q7,q8,q9,q10,q11,q12,q13,q14,q15,q16,q17)=some (v5001,v5002,v5003,v5004,v5005,v5006,v5007,v5008,v5009)):PCX prog env 100 [(.ptr 7 0),(QeS q0 q1 q2 q3 q4 q5),(Qbd q6 q7 q8 q9 q10 q11 q12 q13)] (QbM q14 q15.length q15 q16 q17.length q17) (.tup [(Qbd v5001 v5002 v5003 v5004 v5005 v5006 v5007 v5008),(Qe v5009)]) (QbM q14 q15.length q15 q16 q17.length q17):=by
 unfold ZG at hm
 exact PCX_sxB (fn:=f100) rfl (ge 4 (Qi (Yv (Qd 6 (bi hm fun v1 hx hm=>XA 6 Qc.toD q5 0 v1 (es:=Qc.toDs q5) (d:=(Qc.ex v1)) (Qc.toDs_eq _) hx (Qc.toD_eq v1) rfl (Qd 1 (bi3 hm fun v2 v3 v4 hx hm=>QiY (n:=5) (QgJ hx) (re 6 ⟨kr,Qi (ge 2 (rix hm (fun hm=>ge 4 (Qj zf)) (fun hm=>Qk (ge 1 (Qi (ge 2 (Qn (ge 2 (riq hm (fun hm=>gr 3 (bi2 hm fun v5 v6 hx hm=>cp (QiH hx) (re 5 (gr 2 (bi hm fun v7 hx hm=>cp (QfZ hx) (re 3 (Qj zf))))))) (fun hm=>ge 2 (riq hm (fun hm=>gr 3 (bi2 hm fun v8 v9 hx hm=>cp (QiF hx) (re 5 (gr 2 (bi hm fun v10 hx hm=>cp (QfZ hx) (re 3 (Qj zf))))))) (fun hm=>ge 2 (riq hm (fun hm=>gr 5 (bi2 hm fun v11 v12 hx hm=>cp (QhL hx) (re 5 (gr 2 (bi hm fun v13 hx hm=>cp (QfY hx) (re 3 (Qj zf))))))) (fun hm=>ge 2 (riq hm (fun hm=>gr 3 (bi2 hm fun v14 v15 hx hm=>cp (QgL hx) (re 5 (gr 2 (bi hm fun v16 hx hm=>cp (Qep hx) (re 3 (Qj zf))))))) (fun hm=>Qk (gr 3 (bi2 hm fun v17 v18 hx hm=>cp (Qhr hx) (re 5 (gr 3 (bi hm fun v19 hx hm=>cp (Qdv hx) (re 3 (Qj zf)))))))))))))))))))))))⟩) (hi:=und_hi 0))))))))
mutual
def Zi (x:(Int × Int × Int × ByteArray × (List Int) × (List Qc) × Int × (List Int) × Int × (List Int) × Int × Int × (List Int) × (List Qh) × (List (ByteArray × Int)) × (List Qg) × (List Qg) × (List Qp))):Option (((List Qp) × Int × (List Int) × Int × (List Qh) × Int)) :=
 match x with
 | (q0,q1,q2,q3,q4,q5,q6,q7,q8,q9,q10,q11,q12,q13,q14,q15,q16,q17) =>
 idx q5 0>>=fun v1 =>
 QF (v1.kind,v1.fn,v1.axis,v1.name,v1.nums,v1.kids,q14,q15,q16,q17)>>=fun (v2,v3,v4,v5,v6,v7,v8,v9,v10,v11) =>
 if v11≠0 then
  some (v2,0,([]:List Int),0,([]:List Qh),v11)
 else
 Xr (q2,v4,q7)>>=fun (v12,v13) =>
 Qbe ((⟨v3,v4,v5,v6,v7,v8,v9,v10⟩:Qh),v12.left)>>=fun v14 =>
 Qbe ((⟨q6,q7,q8,q9,q10,q11,q12,q13⟩:Qh),v12.right)>>=fun v15 =>
 some (v2,7,v12.shape,v12.axis,([(⟨v14.kind,v14.shape,v14.buffer,v14.starts,v14.axis,v14.amount,v14.perm,v14.kids⟩:Qh),(⟨v15.kind,v15.shape,v15.buffer,v15.starts,v15.axis,v15.amount,v15.perm,v15.kids⟩:Qh)]:List Qh),v13)
 partial_fixpoint
def QF (x:(Int × Int × Int × ByteArray × (List Int) × (List Qc) × (List (ByteArray × Int)) × (List Qg) × (List Qg) × (List Qp))):Option (((List Qp) × Int × (List Int) × Int × (List Int) × Int × Int × (List Int) × (List Qh) × Int)) :=
 match x with
 | (q0,q1,q2,q3,q4,q5,q6,q7,q8,q9) =>
 if (q5.length:Int)=0 then
  YY (q0,q1,q2,q3,q4,q5,q6,q7,q8,q9)>>=fun (v1,v2,v3,v4,v5) =>
  some (v1,v2,v3,v4,([]:List Int),0,0,([]:List Int),([]:List Qh),v5)
 else
 idx q5 (W ((q5.length:Int) - 1))>>=fun v6 =>
 QF (v6.kind,v6.fn,v6.axis,v6.name,v6.nums,v6.kids,q6,q7,q8,q9)>>=fun (v7,v8,v9,v10,v11,v12,v13,v14,v15,v16) =>
 if v16≠0 then
  some (v7,0,([]:List Int),0,([]:List Int),0,0,([]:List Int),([]:List Qh),v16)
 else
 if q0=3 then
  Qct ((⟨q0,q1,q2,q3,q4,q5⟩:Qc),(⟨v8,v9,v10,v11,v12,v13,v14,v15⟩:Qh))>>=fun (v17,v18) =>
  some (v7,v17.kind,v17.shape,v17.buffer,v17.starts,v17.axis,v17.amount,v17.perm,v17.kids,v18)
 else
 Jm ()>>=fun _ =>
 if q1=6 then
  Zi (q0,q1,q2,q3,q4,q5,v8,v9,v10,v11,v12,v13,v14,v15,q6,q7,q8,v7)>>=fun (v19,v20,v21,v22,v23,v24) =>
  some (v19,v20,v21,0,([]:List Int),v22,0,([]:List Int),v23,v24)
 else
 ZG (q0,q1,q2,q3,q4,q5,v8,v9,v10,v11,v12,v13,v14,v15,q6,q7,q8,v7)>>=fun (v25,v26,v27,v28,v29,v30,v31,v32,v33) =>
 some (v7,v25,v26,v27,v28,v29,v30,v31,v32,v33)
 partial_fixpoint
end
def Y7:(Int × Int × Int × ByteArray × (List Int) × (List Qc) × Int × (List Int) × Int × (List Int) × Int × Int × (List Int) × (List Qh) × (List (ByteArray × Int)) × (List Qg) × (List Qg) × (List Qp))→((List Qp) × Int × (List Int) × Int × (List Qh) × Int)→Prop:=fun x r=>match x with
 | (q0,q1,q2,q3,q4,q5,q6,q7,q8,q9,q10,q11,q12,q13,q14,q15,q16,q17)=>PCX prog env 99 [(.ptr 7 0),(QeS q0 q1 q2 q3 q4 q5),(Qbd q6 q7 q8 q9 q10 q11 q12 q13)] (QbM q14 q15.length q15 q16 q17.length q17) (match r with|(v5001,v5002,v5003,v5004,v5005,v5006)=>(.tup [(.dat (.agg [(Qf v5002),(Lb v5003),(Qf 0),Eb,(Qf v5004),(Qf 0),Eb,(.lst (Qh.toDs v5005))])),(Qe v5006)])) (match r with|(v5001,v5002,v5003,v5004,v5005,v5006)=>(QbM q14 q15.length q15 q16 v5001.length v5001))
def XM:(Int × Int × Int × ByteArray × (List Int) × (List Qc) × (List (ByteArray × Int)) × (List Qg) × (List Qg) × (List Qp))→((List Qp) × Int × (List Int) × Int × (List Int) × Int × Int × (List Int) × (List Qh) × Int)→Prop:=fun x r=>match x with
 | (q0,q1,q2,q3,q4,q5,q6,q7,q8,q9)=>PCX prog env 28 [(.ptr 7 0),(QeS q0 q1 q2 q3 q4 q5)] (QbM q6 q7.length q7 q8 q9.length q9) (match r with|(v5001,v5002,v5003,v5004,v5005,v5006,v5007,v5008,v5009,v5010)=>(.tup [(Qbd v5002 v5003 v5004 v5005 v5006 v5007 v5008 v5009),(Qe v5010)])) (match r with|(v5001,v5002,v5003,v5004,v5005,v5006,v5007,v5008,v5009,v5010)=>(QbM q6 q7.length q7 q8 v5001.length v5001))
theorem g_elab_maker_catenate_f318e:(∀ x r,Zi x=some r→Y7 x r)∧(∀ x r,QF x=some r→XM x r):=by
 refine Zi.mutual_partial_correctness Y7 XM ?_ ?_
 ·intro QF Y6 x r hm;unfold Y7;obtain ⟨q0,q1,q2,q3,q4,q5,q6,q7,q8,q9,q10,q11,q12,q13,q14,q15,q16,q17⟩:=x;refine PCX_sxB (fn:=f99) rfl ?_;exact ge 4 (gr 3 (bi hm fun v1 hx hm=>XA 6 Qc.toD q5 0 v1 (es:=Qc.toDs q5) (d:=(Qc.ex v1)) (Qc.toDs_eq _) hx (Qc.toD_eq v1) rfl (Qd 1 (bi10 hm fun v2 v3 v4 v5 v6 v7 v8 v9 v10 v11 hx hm=>QcZ (n:=8) (Y6 _ _ hx) (re 6 (Qi (ge 2 (rix hm (fun hm=>ge 4 (Qj zf)) (fun hm=>Qk (gr 6 (bi2 hm fun v12 v13 hx hm=>cp (QgT hx) (re 6 (Qi (Yv (Qd 7 (bi hm fun v14 hx hm=>cp (QfC hx) (Qd 3 (bi hm fun v15 hx hm=>cp (QfC hx) (re 5 ⟨kr,Qj zf⟩))))))))))))))) (hi:=und_hi 0) (hq:=und_hq 0)))))
 ·intro Zi QF Qa4 Y6 x r hm;unfold XM;obtain ⟨q0,q1,q2,q3,q4,q5,q6,q7,q8,q9⟩:=x;refine PCX_sxB (fn:=f28) rfl ?_
  exact ge 3 (Qi (gr 2 (Qae Qc.toD q5 (es:=Qc.toDs q5) (Qc.toDs_eq _) (re 1 (riq hm (fun hm=>gr 2 (bi5 hm fun v1 v2 v3 v4 v5 hx hm=>QcZ (n:=8) (Qe1 hx) (re 4 (Qj zf)) (hi:=und_hi 0) (hq:=und_hq 0))) (fun hm=>Qk (gr 5 (Qae Qc.toD q5 (es:=Qc.toDs q5) (Qc.toDs_eq _) (Qd 1 (bi hm fun v6 hx hm=>XA 6 Qc.toD q5 (W ((q5.length:Int) - 1)) v6 (es:=Qc.toDs q5) (d:=(Qc.ex v6)) (Qc.toDs_eq _) hx (Qc.toD_eq v6) rfl (Qd 1 (bi10 hm fun v7 v8 v9 v10 v11 v12 v13 v14 v15 v16 hx hm=>QcZ (n:=8) (Y6 _ _ hx) (re 6 (Qi (ge 2 (rix hm (fun hm=>ge 4 (Qj zf)) (fun hm=>Qk (Qi (ge 3 (riq hm (fun hm=>gr 2 (bi2 hm fun v17 v18 hx hm=>cp (QhR hx) (re 4 (Qj zf)))) (fun hm=>Qk (Qi (Yv (bi hm fun _ hx hm=>ZR (v:=.mapv 10) (fun H=>H++[(.map [(.bool true,(.dat (.raw (.func (.func 99) #[] #[])))),(.bool false,(.dat (.raw (.func (.func 100) #[] #[]))))])]) rfl kr (by intro K hK; exact Qi0 10 (f:=60) (first:=#[]) (cap:=#[]) (j:=(0,3)) (ow':=[]) rfl kr kr kr (Qge hx) kr hK kr) (Qd 3 (gsq 45 hm (fun hm=>Qd 1 (Qd 3 (bi6 hm fun v19 v20 v21 v22 v23 v24 hx hm=>QcZ (n:=8) (Qa4 _ _ hx) (re 4 ⟨kr,Qj zf⟩) (hi:=und_hi 0) (hq:=und_hq 0)))) (fun hm=>Qd 1 (Qd 3 (bi9 hm fun v25 v26 v27 v28 v29 v30 v31 v32 v33 hx hm=>QcZ (n:=8) (QdO hx) (re 4 ⟨kr,Qj zf⟩) (hi:=und_hi 0) (hq:=und_hq 0)))))))))))))))))) (hi:=und_hi 0) (hq:=und_hq 0)))))))))))))
theorem Qa4:∀ x r,Zi x=some r→Y7 x r:=g_elab_maker_catenate_f318e.1
theorem Y6:∀ x r,QF x=some r→XM x r:=g_elab_maker_catenate_f318e.2
def QaX (x:(Int × Int × Int × ByteArray × (List Int) × (List Qc) × (List (ByteArray × Int)) × (List Qg) × (List Qg))):Option ((Int × (List Int) × Int × (List Int) × Int × Int × (List Int) × (List Qh) × (List Qp) × (List Qp) × Int × (List Int) × Int × (List Int) × Int × Int × (List Int) × (List Qh) × Int × (List Int) × Int × (List Int) × Int × Int × (List Int) × (List Qh) × (List Qp) × Int)) :=
 match x with
 | (q0,q1,q2,q3,q4,q5,q6,q7,q8) =>
 QF (q0,q1,q2,q3,q4,q5,q6,q7,q8,([]:List Qp))>>=fun (v1,v2,v3,v4,v5,v6,v7,v8,v9,v10) =>
 if v10≠0 then
  some (0,([]:List Int),0,([]:List Int),0,0,([]:List Int),([]:List Qh),([]:List Qp),v1,v2,v3,v4,v5,v6,v7,v8,v9,0,([]:List Int),0,([]:List Int),0,0,([]:List Int),([]:List Qh),([]:List Qp),v10)
 else
 some (v2,v3,v4,v5,v6,v7,v8,v9,v1,v1,v2,v3,v4,v5,v6,v7,v8,v9,v2,v3,v4,v5,v6,v7,v8,v9,v1,0)
theorem Qgy {q0 q1 q2 q3 q4 q5 q6 q7 q8 r} (hm:QaX (q0,q1,q2,q3,q4,q5,q6,q7,q8)=some r):PC prog env 8 [(.ptr 4 0),(QeS q0 q1 q2 q3 q4 q5)] (Qcn q6 q7.length q7 q8) (match r with|(v5001,v5002,v5003,v5004,v5005,v5006,v5007,v5008,v5009,v5010,v5011,v5012,v5013,v5014,v5015,v5016,v5017,v5018,v5019,v5020,v5021,v5022,v5023,v5024,v5025,v5026,v5027,v5028)=>(.tup [(.dat (.agg [(Qf v5019),(Lb v5020),(Qf v5021),(Lb v5022),(Qf v5023),(Qf v5024),(Lb v5025),(.lst (Qh.toDs v5026)),(.lst ((List.map Qp.toD) v5027))])),(Qe v5028)])) (match r with|(v5001,v5002,v5003,v5004,v5005,v5006,v5007,v5008,v5009,v5010,v5011,v5012,v5013,v5014,v5015,v5016,v5017,v5018,v5019,v5020,v5021,v5022,v5023,v5024,v5025,v5026,v5027,v5028)=>[(.map (smE q6)),(.tok 64 q7.length),(Zp q7),(.tok 64 (([]:List Qg).length)),(Zp q8),(QaD v5001 v5002 v5003 v5004 v5005 v5006 v5007 v5008 v5009),(.tok 91 v5010.length),(QdR v5010),(JE v5011 v5012 v5013 v5014 v5015 v5016 v5017 v5018)]):=by
 unfold QaX at hm;exact PC_sxB (fn:=f8) rfl (ge 3 (ge 4 (gr 2 (bi10 hm fun v1 v2 v3 v4 v5 v6 v7 v8 v9 v10 hx hm=>QcZ (n:=8) (Y6 _ _ hx) (re 6 (Qi (ge 2 (rix hm (fun hm=>ge 4 (Qj zf)) (fun hm=>Qk (Qi (Yv (re 8 ⟨kr,Qj zf⟩)))))))) (hi:=und_hi 0) (hq:=und_hq 0)))))
def XF (x:((List Qg) × ByteArray × Int)):Option (((List Int) × (List Int)) ⊕ Unit) :=
 match x with
 | (p0,p1,v201) =>
 if v201 < (p0.length:Int) then
  idx p0 v201>>=fun v603 =>
  if v603.name=p1 then
   idx p0 v201>>=fun v604 =>
   some (Sum.inl (v604.value.shape,v604.value.data))
  else
  XF (p0,p1,(W (v201+1)))
 else
 some (Sum.inr ())
 partial_fixpoint
theorem Qeb:∀ x r,XF x=some r→match x with|(p0,p1,v201)=>LQ f101 101 [1,0,1,0,0] 1 ⟨kp 26 [(0,(Xs p0)),(1,(.dat (strD p1))),(4,(.ptr 0 0)),(6,(Qe v201))],[(.box [Ea,Ea])]⟩ (P2 .ret (fun (v601,v602) d=>⟨sl d 26 [(4,(.ptr 0 0)),(5,(Qm true))],[(YW v601 v602)]⟩) (.exit 0) (fun _ d=>⟨sl d 26 [(4,(.ptr 0 0))],[(.box [Ea,Ea])]⟩) r):=by
 refine XF.partial_correctness _ (fun XF Qeb x r hm=>?_);obtain ⟨p0,p1,v201⟩:=x;exact lp (Qi (gr 2 (QH Qg.toD p0 (re 1 (ri hm (fun hm=>Qk (Qi (Qn (gr 2 (QV 3 Qg.toD hm fun v603 hm=>Qd 3 (QG rfl (fun _=>QeN (a:=v603.name) (b:=p1) rfl kr kr) (Yf (ri hm (fun hm=>gr 2 (QV 3 Qg.toD hm fun v604 hm=>re 4 (Qj zf))) (fun hm=>Qk (R_G (re 3 (Qeb _ _ hm _ kr)))))))))))) (fun hm=>QE zf))))))
def Qag (x:((List Qg) × ByteArray)):Option (Qo × Bool) :=
 match x with
 | (p0,p1) =>
 (
 XF (p0,p1,0)>>=fun out =>
 match out with
 | .inl (v601,v602) =>
  some ((⟨v601,v602⟩:Qo),true)
 | .inr (_) =>
  some ((⟨([]:(List Int)),([]:(List Int))⟩:Qo),false)
 )
theorem QgP {p0 p1 r0 r1} (hm:Qag (p0,p1)=some (r0,r1)):FQ 101 [(.lst ((List.map Qg.toD) p0)),(strD p1)] (.tup [(.dat (Qo.toD r0)),(Qm r1)]):=by
 unfold Qag at hm;exact fp (fn:=f101) rfl (ge 2 (Qi (ge 1 (Qn (ru2 hm (Qeb _) (fun ⟨v601,v602⟩ d hm=>zf) fun _ d hm=>ge 3 (Qj zf))))))
def ZO (x:((List Ql) × Ql × Int × Int)):Option (Int) :=
 match x with
 | (p0,p1,v201,v202) =>
 if v202 < (p0.length:Int) then
  (if p1.name≠ByteArray.empty then
   idx p0 v202>>=fun v603 =>
   some (decide (v603.name=p1.name))
  else
  some false
  )>>=fun (v602:Bool) =>
  if v602=true then
   ZO (p0,p1,v202,(W (v202+1)))
  else
  ZO (p0,p1,v201,(W (v202+1)))
 else
 some v201
 partial_fixpoint
theorem Qb7:∀ x r,ZO x=some r→match x with|(p0,p1,v201,v202)=>LQ f102 102 [1,1,0,1,0,0] 2 ⟨kp 46 [(0,(QaB p0)),(3,(.ptr 0 0)),(4,(.ptr 1 0)),(6,(Qe v201)),(7,(Qe v202))],[(Qco p1.name p1.value.shape p1.value.data),Xa]⟩ (P1 (.exit 0) (fun v601 d=>⟨sl d 46 [(0,(QaB p0)),(3,(.ptr 0 0)),(4,(.ptr 1 0)),(6,(Qe v601))],[(Qco p1.name p1.value.shape p1.value.data),Xa]⟩) r):=by
 refine ZO.partial_correctness _ (fun ZO Qb7 x r hm=>?_);obtain ⟨p0,p1,v201,v202⟩:=x;exact lp (Qi (gr 2 (QH Ql.toD p0 (re 1 (ri hm (fun hm=>Qk (Qi (Qn (Qi (bi hm fun v602 hs hm=>QY (fun d=>⟨sl d 46 [(0,(QaB p0)),(3,(.ptr 0 0)),(4,(.ptr 1 0)),(6,(Qe v201)),(7,(Qe v202)),(28,(Qm v602))],[(Qco p1.name p1.value.shape p1.value.data),Xa]⟩) (have hm:=hs;Yv (Qd 2 (QG rfl (fun _=>Qgj (a:=p1.name) (b:=ByteArray.empty) rfl kr kr) (Qd 1 (gs 19 hm (fun hm=>Qd 2 (QV 3 Ql.toD hm fun v603 hm=>Qd 4 (QG rfl (fun _=>QeN (a:=v603.name) (b:=p1.name) rfl kr kr) (re 1 ⟨kr,zf⟩)))) (fun hm=>re 9 ⟨kr,zf⟩)))))) (fun d=>rib hm (fun hm=>R_G (re 2 (R_G (re 3 (Qb7 _ _ hm _ kr))))) (fun hm=>Qk (R_G (re 3 (Qb7 _ _ hm _ kr)))))))))) (fun hm=>QE zf))))))
def JJ (x:((List Ql) × Ql)):Option (Qa × (List Ql)) :=
 match x with
 | (p0,p1) =>
 ZO (p0,p1,(p0.length:Int),0)>>=fun v601 =>
 if v601=(p0.length:Int) then
  app 64 ([]:List Ql) p0>>=fun v604 =>
  app 64 v604 ([p1]:List Ql)>>=fun v605 =>
  some ((⟨1,p1.value.shape,v601,([]:(List Int)),0,0,([]:(List Int)),([]:(List Qa))⟩:Qa),v605)
 else
 some ((⟨1,p1.value.shape,v601,([]:(List Int)),0,0,([]:(List Int)),([]:(List Qa))⟩:Qa),p0)
theorem QgH {p0 p1 r0 r1} (hm:JJ (p0,p1)=some (r0,r1)):FQ 102 [(.lst ((List.map Ql.toD) p0)),(Ql.toD p1)] (.tup [(.dat (Qa.ex r0)),(QaB r1)]):=by
 unfold JJ at hm;exact fp (fn:=f102) rfl (ge 3 (gr 1 (QH Ql.toD p0 (re 1 (Qi (ge 1 (Qn (ru1 hm (Qb7 _) fun v601 d hm=>Qi (gr 2 (QH Ql.toD p0 (re 1 (riq hm (fun hm=>Yv (Qd 2 (bi hm fun v604 hx hm=>Y9 90 3 64 2 Ql.toD ([]:List Ql) p0 v604 (xs:=(List.map Ql.toD) ([]:List Ql)) (es:=(List.map Ql.toD) p0) (L:=(List.map Ql.toD)) zY rfl rfl Ql.fit hx (Qd 2 (bi hm fun v605 hx hm=>Y9 90 3 64 2 Ql.toD v604 ([p1]:List Ql) v605 (xs:=(List.map Ql.toD) v604) (es:=(List.map Ql.toD) ([p1]:List Ql)) (L:=(List.map Ql.toD)) zY rfl rfl Ql.fit hx (re 1 ⟨kr,ge 8 (Qj zf)⟩)))))) (fun hm=>Qk (ge 8 (Qj zf)))))))))))))))
def X7 (x:((List Qg) × (List Ql) × Qc)):Option (Qa × (List Ql) × Int) :=
 match x with
 | (p0,p1,p2) =>
 if p2.kind=2 then
  Qag (p0,p2.name)>>=fun (v1,v2) =>
  if v2=false then
   some ((⟨0,([]:(List Int)),0,([]:(List Int)),0,0,([]:(List Int)),([]:(List Qa))⟩:Qa),([]:(List Ql)),2)
  else
  JJ (p1,(⟨p2.name,(⟨v1.shape,v1.data⟩:Qo)⟩:Ql))>>=fun (v3,v4) =>
  some (v3,v4,0)
 else
 (if (p2.nums.length:Int)≠1 then
  some ([(p2.nums.length:Int)]:List Int)
 else
 some ([]:List Int)
 )>>=fun (v5:(List Int)) =>
 if (p2.nums.length:Int) > 65536 then
  some ((⟨0,([]:(List Int)),0,([]:(List Int)),0,0,([]:(List Int)),([]:(List Qa))⟩:Qa),([]:(List Ql)),7)
 else
 JJ (p1,(⟨p2.name,(⟨v5,p2.nums⟩:Qo)⟩:Ql))>>=fun (v6,v7) =>
 some (v6,v7,0)
theorem Qh0 {p0 p1 p2 r0 r1 r2} (hm:X7 (p0,p1,p2)=some (r0,r1,r2)):FQ 61 [(.lst ((List.map Qg.toD) p0)),(.lst ((List.map Ql.toD) p1)),(Qc.ex p2)] (.tup [(.dat (Qa.ex r0)),(QaB r1),(Qe r2)]):=by
 unfold X7 at hm;exact fp (fn:=f61) rfl (ge 4 (ge 5 (Qi (ge 3 (riq hm (fun hm=>gr 3 (bi2 hm fun v1 v2 hx hm=>cp (QgP hx) (re 6 (Qi (ge 2 (rin hm (fun hm=>ge 4 (Qj zf)) (fun hm=>Qk (R_G (re 3 (gr 2 (bi2 hm fun v3 v4 hx hm=>cp (QgH hx) (re 6 (ge 5 (Qj zf)))))))))))))) (fun hm=>ge 5 (Qi (gr 2 (QH Qf p2.nums (re 1 (bi hm fun v5 hs hm=>QY (fun d=>⟨sl d 59 [(1,(QaB p1)),(5,(.ptr 0 0)),(6,(.ptr 1 0)),(9,(.ptr 2 0))],[(QU p2.kind p2.fn p2.axis p2.name p2.nums p2.kids),Xa,(Qco p2.name v5 p2.nums)]⟩) (have hm:=hs;rix hm (fun hm=>R_G (Qd 2 (QH Qf p2.nums (re 4 zf)))) (fun hm=>Qk zf)) (fun d=>gr 2 (QH Qf p2.nums (re 1 (ri hm (fun hm=>ge 4 (Qj zf)) (fun hm=>Qk (gr 2 (bi2 hm fun v6 v7 hx hm=>cp (QgH hx) (re 6 (ge 5 (Qj zf)))))))))))))))))))))
def Qbx (x:((List Qg) × Qc)):Option (Q0 × Int) :=
 match x with
 | (p0,p1) =>
 if p1.kind=1 then
  some ((⟨p1.nums,((p1.nums.length:Int) == 1)⟩:Q0),0)
 else
 Qag (p0,p1.name)>>=fun (v1,v2) =>
 if v2=false then
  some ((⟨([]:(List Int)),false⟩:Q0),2)
 else
 if (v1.shape.length:Int) > 1 then
  some ((⟨([]:(List Int)),false⟩:Q0),4)
 else
 some ((⟨v1.data,((v1.shape.length:Int) == 0)⟩:Q0),0)
theorem QhX {p0 p1 r0 r1} (hm:Qbx (p0,p1)=some (r0,r1)):FQ 103 [(.lst ((List.map Qg.toD) p0)),(Qc.ex p1)] (.tup [(.dat (Q0.toD r0)),(Qe r1)]):=by
 unfold Qbx at hm;exact fp (fn:=f103) rfl (ge 3 (Qi (ge 3 (riq hm (fun hm=>gr 4 (QH Qf p1.nums (re 4 (Qj zf)))) (fun hm=>Qk (gr 3 (bi2 hm fun v1 v2 hx hm=>cp (QgP hx) (re 6 (Qi (ge 2 (rin hm (fun hm=>ge 3 (Qj zf)) (fun hm=>Qk (Qi (gr 2 (QH Qf v1.shape (re 1 (ri hm (fun hm=>ge 3 (Qj zf)) (fun hm=>Qk (gr 4 (QH Qf v1.shape (re 4 (Qj zf))))))))))))))))))))))
def Xq (x:(Int × (List Int) × Int)):Option ((List Int)) :=
 match x with
 | (p1,v201,v202) =>
 if v202 < p1 then
  app 8 v201 ([1]:List Int)>>=fun v602 =>
  Xq (p1,v602,(W (v202+1)))
 else
 some v201
 partial_fixpoint
theorem QdC:∀ x r,Xq x=some r→match x with|(p1,v201,v202)=>LQ f150 150 [1,1,1,0,1,0,0] 1 ⟨kp 20 [(1,(Qe p1)),(5,(QdV v201)),(6,(Qe v202))],[(.tok 3 v201.length)]⟩ (P1 (.exit 0) (fun v601 d=>⟨sl d 20 [(5,(QdV v601))],[(.tok 3 v601.length)]⟩) r):=by
 refine Xq.partial_correctness _ (fun Xq QdC x r hm=>?_);obtain ⟨p1,v201,v202⟩:=x;exact lp (Qi (ge 3 (ri hm (fun hm=>Qk (Qi (Qn (R_G (Qd 2 (bi hm fun v602 hx hm=>Y9 3 1 8 0 Qf v201 ([1]:List Int) v602 (xs:=(List.map Qf) v201) (es:=(List.map Qf) ([1]:List Int)) (L:=(List.map Qf)) zY rfl rfl zY hx (re 1 (R_G (re 3 (QdC _ _ hm _ kr)))))))))) (fun hm=>QE zf))))
def QbB (x:((List Int) × Int)):Option (List Int) :=
 match x with
 | (p0,p1) =>
 if (p0.length:Int) > 0 then
  some p0
 else
 Xq (p1,([]:List Int),0)>>=fun v601 =>
 some v601
theorem QgF {p0 p1 r0} (hm:QbB (p0,p1)=some r0):FQ 150 [(Lb p0),(Qf p1)] (La r0):=by
 unfold QbB at hm;exact fp (fn:=f150) rfl (ge 1 (Qi (gr 1 (QH Qf p0 (re 1 (ri hm (fun hm=>ge 2 (Qj zf)) (fun hm=>Qk (ge 1 (Qi (ge 1 (Qn (ru1 hm (QdC _) fun v601 d hm=>ge 2 (Qj zf)))))))))))))
def JH (x:Int):Option (Int × Int) :=
 match x with
 | p0 =>
 (if p0 > 65536 then
  some true
 else
 some (decide (p0 < (-65536)))
 )>>=fun (v1:Bool) =>
 if v1=true then
  some (0,7)
 else
 if p0 < 0 then
  some ((W (0 - p0)),0)
 else
 some (p0,0)
theorem QgA {p0 r0 r1} (hm:JH p0=some (r0,r1)):FQ 151 [(Qf p0)] (.tup [(Qe r0),(Qe r1)]):=by
 unfold JH at hm;exact fp (fn:=f151) rfl (ge 2 (Qi (Qi (bi hm fun v1 hs hm=>QY (fun d=>⟨sl d 15 [(0,(Qe p0)),(9,(Qm v1))],[]⟩) (have hm:=hs;R_G (Qd 3 (gs 6 hm (fun hm=>re 3 zf) (fun hm=>re 3 zf)))) (fun d=>rib hm (fun hm=>ge 2 (Qj zf)) (fun hm=>Qk (Qi (ge 2 (ri hm (fun hm=>ge 4 (Qj zf)) (fun hm=>Qk (ge 3 (Qj zf))))))))))))
def YU (x:((List Int) × (List Int) × (List Int) × (List Int) × Int)):Option (((List Int) × (List Int)) ⊕ ((List Int) × (List Int))) :=
 match x with
 | (p0,v2,v203,v204,v205) =>
 if v205 < (p0.length:Int) then
  idx p0 v205>>=fun v607 =>
  JH v607>>=fun (v608,v609) =>
  if v609≠0 then
   some (Sum.inl (v203,v204))
  else
  app 8 v203 ([v608]:List Int)>>=fun v610 =>
  idx p0 v205>>=fun v611 =>
  (if v611 < 0 then
   idx v2 v205>>=fun v613 =>
   some (W (v613 - v608))
  else
  some 0
  )>>=fun (v612:Int) =>
  app 8 v204 ([v612]:List Int)>>=fun v614 =>
  YU (p0,v2,v610,v614,(W (v205+1)))
 else
 some (Sum.inr (v203,v204))
 partial_fixpoint
theorem QdB:∀ x r,YU x=some r→match x with|(p0,v2,v203,v204,v205)=>LQ f104 104 [1,1,1,1,0,1,0,0] 6 ⟨kp 79 [(0,(La p0)),(4,(.ptr 0 0)),(6,(.ptr 3 0)),(7,(Qe v205))],(Qdh v203.length v204.length v2 v203 v204)⟩ (P2 .ret (fun (v603,v604) d=>⟨sl d 79 [(4,(.ptr 0 0)),(5,(Qe 7))],(Qdh v603.length v604.length v2 v603 v604)⟩) (.exit 0) (fun (v605,v606) d=>⟨sl d 79 [(4,(.ptr 0 0)),(6,(.ptr 3 0))],(Qdh v605.length v606.length v2 v605 v606)⟩) r):=by
 refine YU.partial_correctness _ (fun YU QdB x r hm=>?_);obtain ⟨p0,v2,v203,v204,v205⟩:=x
 exact lp (Qi (gr 2 (QH Qf p0 (re 1 (ri hm (fun hm=>Qk (Qi (Qn (gr 2 (QV 1 Qf hm fun v607 hm=>Qd 1 (bi2 hm fun v608 v609 hx hm=>cp (QgA hx) (re 5 (Qi (ge 2 (rix hm (fun hm=>ge 3 (Qj zf)) (fun hm=>Qk (gr 4 (bi hm fun v610 hx hm=>Y9 3 1 8 1 Qf v203 ([v608]:List Int) v610 (xs:=(List.map Qf) v203) (es:=(List.map Qf) ([v608]:List Int)) (L:=(List.map Qf)) zY rfl rfl zY hx (re 2 (ge 1 (Qi (gr 2 (QV 1 Qf hm fun v611 hm=>re 2 (bi hm fun v612 hs hm=>QY (fun d=>⟨sl d 79 [(0,(La p0)),(4,(.ptr 0 0)),(6,(.ptr 3 0)),(7,(Qe v205)),(10,(Qe v612))],(Qdh v610.length v204.length v2 v610 v204)⟩) (have hm:=hs;ri hm (fun hm=>R_G (Qd 3 (QV 1 Qf hm fun v613 hm=>re 4 zf))) (fun hm=>Qk zf)) (fun d=>R_G (Qd 4 (bi hm fun v614 hx hm=>Y9 3 1 8 2 Qf v204 ([v612]:List Int) v614 (xs:=(List.map Qf) v204) (es:=(List.map Qf) ([v612]:List Int)) (L:=(List.map Qf)) zY rfl rfl zY hx (re 2 (R_G (re 3 (QdB _ _ hm _ kr)))))))))))))))))))))))))) (fun hm=>QE zf))))))
def QbA (x:((List Int) × (List Int))):Option (Qw × Int) :=
 match x with
 | (p0,p1) =>
 (if (p1.length:Int)=0 then
  some (decide ((p0.length:Int) > 16))
 else
 some false
 )>>=fun (v1:Bool) =>
 if v1=true then
  some ((⟨([]:(List Int)),([]:(List Int)),([]:(List Int)),([]:(List Int)),0,0,([]:(List Int))⟩:Qw),7)
 else
 QbB (p1,(p0.length:Int))>>=fun v2 =>
 if (p0.length:Int)≠(v2.length:Int) then
  some ((⟨([]:(List Int)),([]:(List Int)),([]:(List Int)),([]:(List Int)),0,0,([]:(List Int))⟩:Qw),5)
 else
 (
 YU (p0,v2,([]:List Int),([]:List Int),0)>>=fun out =>
 match out with
 | .inl (v603,v604) =>
  some ((⟨([]:(List Int)),([]:(List Int)),([]:(List Int)),([]:(List Int)),0,0,([]:(List Int))⟩:Qw),7)
 | .inr ((v605,v606)) =>
  Yr v605>>=fun v615 =>
  if v615≠0 then
   some ((⟨([]:(List Int)),([]:(List Int)),([]:(List Int)),([]:(List Int)),0,0,([]:(List Int))⟩:Qw),7)
  else
  some ((⟨([]:(List Int)),v2,v605,v606,(-1),0,([]:(List Int))⟩:Qw),0)
 )
theorem QgE {p0 p1 r0 r1} (hm:QbA (p0,p1)=some (r0,r1)):FQ 104 [(Lb p0),(Lb p1)] (.tup [(.dat (Qw.toD r0)),(Qe r1)]):=by
 unfold QbA at hm;exact fp (fn:=f104) rfl (ge 2 (Qi (Qi (bi hm fun v1 hs hm=>QY (fun d=>⟨sl d 79 [(0,(La p0)),(1,(La p1)),(4,(.ptr 0 0)),(18,(Qm v1))],[Qu]⟩) (have hm:=hs;R_G (Qd 1 (QH Qf p1 (Qd 2 (gsq 14 hm (fun hm=>Qd 1 (QH Qf p0 (re 2 zf))) (fun hm=>re 4 zf)))))) (fun d=>rib hm (fun hm=>ge 3 (Qj zf)) (fun hm=>Qk (gr 2 (QH Qf p0 (bi hm fun v2 hx hm=>cp (QgF hx) (re 3 (Qi (gr 1 (QH Qf p0 (Qd 2 (QH Qf v2 (re 1 (rix hm (fun hm=>ge 3 (Qj zf)) (fun hm=>Qk (Qi (ge 1 (Qn (ru2 hm (QdB _) (fun ⟨v603,v604⟩ d hm=>zf) fun ⟨v605,v606⟩ d hm=>Qi (gr 2 (bi hm fun v615 hx hm=>cp (JV hx) (re 1 (rix hm (fun hm=>ge 3 (Qj zf)) (fun hm=>Qk (ge 3 (Qj zf)))))))))))))))))))))))))))))
def Z0 (x:((List Int) × (List Int) × (List Int) × (List Int) × Int)):Option (((List Int) × (List Int))) :=
 match x with
 | (v2,p0,v203,v204,v205) =>
 if v205 < (v2.length:Int) then
  idx v2 v205>>=fun v605 =>
  (if v205 < (p0.length:Int) then
   idx p0 v205>>=fun v607 =>
   some (decide (v607 > 0))
  else
  some false
  )>>=fun (v606:Bool) =>
  if v606=true then
   idx p0 v205>>=fun v608 =>
   app 8 v203 ([(W (v605 - (if v605 < v608 then v605 else v608)))]:List Int)>>=fun v609 =>
   app 8 v204 ([(if v605 < v608 then v605 else v608)]:List Int)>>=fun v610 =>
   Z0 (v2,p0,v609,v610,(W (v205+1)))
  else
  (if v205 < (p0.length:Int) then
   idx p0 v205>>=fun v612 =>
   some (if v612 < (W (0 - v605)) then (W (0 - v605)) else v612)
  else
  some 0
  )>>=fun (v611:Int) =>
  app 8 v203 ([(W (v605+v611))]:List Int)>>=fun v613 =>
  app 8 v204 ([0]:List Int)>>=fun v614 =>
  Z0 (v2,p0,v613,v614,(W (v205+1)))
 else
 some (v203,v204)
 partial_fixpoint
theorem Qb4:∀ x r,Z0 x=some r→match x with|(v2,p0,v203,v204,v205)=>LQ f105 105 [1,1,1,1,0,1,0,0] 6 ⟨kp 99 [(0,(La p0)),(4,(.ptr 0 0)),(6,(.ptr 3 0)),(7,(Qe v205))],(Qdh v203.length v204.length v2 v203 v204)⟩ (P1 (.exit 0) (fun (v603,v604) d=>⟨sl d 99 [(4,(.ptr 0 0)),(6,(.ptr 3 0))],(Qdh v603.length v604.length v2 v603 v604)⟩) r):=by
 refine Z0.partial_correctness _ (fun Z0 Qb4 x r hm=>?_);obtain ⟨v2,p0,v203,v204,v205⟩:=x
 exact lp (Qi (gr 3 (QH Qf v2 (re 1 (ri hm (fun hm=>Qk (Qi (Qn (gr 3 (QV 1 Qf hm fun v605 hm=>re 2 (ge 1 (Qi (Qi (bi hm fun v606 hs hm=>QY (fun d=>⟨sl d 99 [(0,(La p0)),(4,(.ptr 0 0)),(6,(.ptr 3 0)),(7,(Qe v205)),(8,(Qe v605)),(9,(Qe 0)),(53,(Qm v606))],(Qdh v203.length v204.length v2 v203 v204)⟩) (have hm:=hs;R_G (Qd 2 (QH Qf p0 (Qd 2 (gs 47 hm (fun hm=>Qd 2 (QV 1 Qf hm fun v607 hm=>re 3 zf)) (fun hm=>re 6 zf)))))) (fun d=>rib hm (fun hm=>gr 2 (QV 1 Qf hm fun v608 hm=>Qd 2 (QG rfl (fun _=>QiX (k:=.i64) (m:=v608) (n:=v605) rfl kr kr) (re 1 (gr 6 (bi hm fun v609 hx hm=>Y9 3 1 8 1 Qf v203 ([(W (v605 - (if v605 < v608 then v605 else v608)))]:List Int) v609 (xs:=(List.map Qf) v203) (es:=(List.map Qf) ([(W (v605 - (if v605 < v608 then v605 else v608)))]:List Int)) (L:=(List.map Qf)) zY rfl rfl zY hx (re 2 (gr 4 (bi hm fun v610 hx hm=>Y9 3 1 8 2 Qf v204 ([(if v605 < v608 then v605 else v608)]:List Int) v610 (xs:=(List.map Qf) v204) (es:=(List.map Qf) ([(if v605 < v608 then v605 else v608)]:List Int)) (L:=(List.map Qf)) zY rfl rfl zY hx (re 2 (QE (R_G (re 3 (Qb4 _ _ hm _ kr)))))))))))))) (fun hm=>Qk (Qi (gr 2 (QH Qf p0 (re 1 (bi hm fun v611 hs hm=>QY (fun d=>⟨sl d 99 [(0,(La p0)),(4,(.ptr 0 0)),(6,(.ptr 3 0)),(7,(Qe v205)),(8,(Qe v605)),(9,(Qe v611))],(Qdh v203.length v204.length v2 v203 v204)⟩) (have hm:=hs;ri hm (fun hm=>R_G (Qd 2 (QV 1 Qf hm fun v612 hm=>Qd 3 (QG rfl (fun _=>QgZ (k:=.i64) (m:=v612) (n:=(W (0 - v605))) rfl kr kr) (re 1 zf))))) (fun hm=>Qk zf)) (fun d=>gr 6 (bi hm fun v613 hx hm=>Y9 3 1 8 1 Qf v203 ([(W (v605+v611))]:List Int) v613 (xs:=(List.map Qf) v203) (es:=(List.map Qf) ([(W (v605+v611))]:List Int)) (L:=(List.map Qf)) zY rfl rfl zY hx (re 2 (R_G (Qd 3 (bi hm fun v614 hx hm=>Y9 3 1 8 2 Qf v204 ([0]:List Int) v614 (xs:=(List.map Qf) v204) (es:=(List.map Qf) ([0]:List Int)) (L:=(List.map Qf)) zY rfl rfl zY hx (re 2 (R_G (re 3 (Qb4 _ _ hm _ kr)))))))))))))))))))))))))) (fun hm=>QE zf))))))
def Qby (x:((List Int) × (List Int))):Option (Qw × Int) :=
 match x with
 | (p0,p1) =>
 (if (p1.length:Int)=0 then
  some (decide ((p0.length:Int) > 16))
 else
 some false
 )>>=fun (v1:Bool) =>
 if v1=true then
  some ((⟨([]:(List Int)),([]:(List Int)),([]:(List Int)),([]:(List Int)),0,0,([]:(List Int))⟩:Qw),7)
 else
 QbB (p1,(p0.length:Int))>>=fun v2 =>
 if (p0.length:Int) > (v2.length:Int) then
  some ((⟨([]:(List Int)),([]:(List Int)),([]:(List Int)),([]:(List Int)),0,0,([]:(List Int))⟩:Qw),5)
 else
 Z0 (v2,p0,([]:List Int),([]:List Int),0)>>=fun (v603,v604) =>
 some ((⟨([]:(List Int)),v2,v603,v604,(-1),0,([]:(List Int))⟩:Qw),0)
theorem QgC {p0 p1 r0 r1} (hm:Qby (p0,p1)=some (r0,r1)):FQ 105 [(Lb p0),(Lb p1)] (.tup [(.dat (Qw.toD r0)),(Qe r1)]):=by
 unfold Qby at hm;exact fp (fn:=f105) rfl (ge 2 (Qi (Qi (bi hm fun v1 hs hm=>QY (fun d=>⟨sl d 99 [(0,(La p0)),(1,(La p1)),(4,(.ptr 0 0)),(17,(Qm v1))],[Qu]⟩) (have hm:=hs;R_G (Qd 1 (QH Qf p1 (Qd 2 (gsq 13 hm (fun hm=>Qd 1 (QH Qf p0 (re 2 zf))) (fun hm=>re 4 zf)))))) (fun d=>rib hm (fun hm=>ge 3 (Qj zf)) (fun hm=>Qk (gr 2 (QH Qf p0 (bi hm fun v2 hx hm=>cp (QgF hx) (re 3 (Qi (gr 1 (QH Qf p0 (Qd 2 (QH Qf v2 (re 1 (ri hm (fun hm=>ge 3 (Qj zf)) (fun hm=>Qk (Qi (ge 1 (Qn (ru1 hm (Qb4 _) fun ⟨v603,v604⟩ d hm=>ge 3 (Qj zf)))))))))))))))))))))))
def X1 (x:(Int × (List Int))):Option (Qw × Int) :=
 match x with
 | (p0,p1) =>
 if p0≥(p1.length:Int) then
  some ((⟨([]:(List Int)),([]:(List Int)),([]:(List Int)),([]:(List Int)),0,0,([]:(List Int))⟩:Qw),4)
 else
 (if p0 < 0 then
  some (W ((p1.length:Int) - 1))
 else
 some p0
 )>>=fun (v1:Int) =>
 some ((⟨([]:(List Int)),p1,p1,([]:(List Int)),v1,0,([]:(List Int))⟩:Qw),0)
theorem QdA {p0 p1 r0 r1} (hm:X1 (p0,p1)=some (r0,r1)):FQ 106 [(Qf p0),(Lb p1)] (.tup [(.dat (Qw.toD r0)),(Qe r1)]):=by
 unfold X1 at hm;exact fp (fn:=f106) rfl (ge 2 (Qi (gr 2 (QH Qf p1 (re 1 (ri hm (fun hm=>ge 3 (Qj zf)) (fun hm=>Qk (Qi (ge 2 (bi hm fun v1 hs hm=>QY (fun d=>⟨sl d 20 [(0,(Qe v1)),(1,(La p1)),(4,(.ptr 0 0))],[Qu]⟩) (have hm:=hs;ri hm (fun hm=>R_G (Qd 1 (QH Qf p1 (re 2 zf)))) (fun hm=>Qk zf)) (fun d=>ge 6 (Qj zf))))))))))))
def J6 (x:((List Int) × Int × (List Int))):Option (Qw × Int) :=
 match x with
 | (p0,p1,p2) =>
 if (p0.length:Int)≠1 then
  some ((⟨([]:(List Int)),([]:(List Int)),([]:(List Int)),([]:(List Int)),0,0,([]:(List Int))⟩:Qw),5)
 else
 X1 (p1,p2)>>=fun (v1,v2) =>
 ((if v2=0 then
  some (decide (v1.axis≥0))
 else
 some false
 )>>=fun (v4:Bool) =>
 if v4=true then
  idx p2 v1.axis>>=fun v5 =>
  some (decide (v5 > 0))
 else
 some false
 )>>=fun (v3:Bool) =>
 (if v3=true then
  idx p2 v1.axis>>=fun v7 =>
  idx p0 0>>=fun v8 =>
  remM v8 v7>>=fun v9 =>
  remM (W (v9+v7)) v7>>=fun v10 =>
  some v10
 else
 some v1.amount
 )>>=fun (v6:Int) =>
 some ((⟨v1.left,v1.right,v1.shape,v1.starts,v1.axis,v6,v1.perm⟩:Qw),v2)
theorem QfI {p0 p1 p2 r0 r1} (hm:J6 (p0,p1,p2)=some (r0,r1)):FQ 107 [(Lb p0),(Qf p1),(Lb p2)] (.tup [(.dat (Qw.toD r0)),(Qe r1)]):=by
 unfold J6 at hm
 exact fp (fn:=f107) rfl (ge 2 (Qi (gr 1 (QH Qf p0 (re 1 (rix hm (fun hm=>ge 3 (Qj zf)) (fun hm=>Qk (gr 2 (bi2 hm fun v1 v2 hx hm=>cp (QdA hx) (re 6 (Qi (Qi (bi hm fun v3 hs hm=>QY (fun d=>⟨sl d 53 [(0,(La p0)),(2,(La p2)),(6,(.ptr 0 0)),(8,(.ptr 1 0)),(9,(Qe v2)),(35,(Qm v3))],[Qu,(QaC v1.left v1.right v1.shape v1.starts v1.axis v1.amount v1.perm)]⟩) (have hm:=hs;Qdg (Qd 3 (bi hm fun v4 hs hm=>ZH (j:=7) (fun d=>⟨sl d 53 [(0,(La p0)),(2,(La p2)),(6,(.ptr 0 0)),(8,(.ptr 1 0)),(9,(Qe v2)),(27,(Qm v4))],[Qu,(QaC v1.left v1.right v1.shape v1.starts v1.axis v1.amount v1.perm)]⟩) (fun d=>Qd 1 (gsb 28 hm (fun hm=>Qd 3 (QV 1 Qf hm fun v5 hm=>re 3 ⟨kr,zf⟩)) (fun hm=>re 7 ⟨kr,zf⟩))) (fun hJ=>gsq 23 hs (fun hm=>Qd 4 zf) (fun hm=>Qd 4 zf))))) (fun d=>bi hm fun v6 hs hm=>QY (fun d=>⟨sl d 53 [(6,(.ptr 0 0)),(8,(.ptr 1 0)),(9,(Qe v2))],[Qu,(QaC v1.left v1.right v1.shape v1.starts v1.axis v6 v1.perm)]⟩) (have hm:=hs;rib hm (fun hm=>gr 3 (QV 1 Qf hm fun v7 hm=>re 2 (R_G (Qd 1 (QV 1 Qf hm fun v8 hm=>Qd 2 (bi hm fun v9 hx hm=>QG rfl (fun _=>QhN (a:=v8) (b:=v7) hx rfl kr kr) (Qd 3 (bi hm fun v10 hx hm=>QG rfl (fun _=>QhN (a:=(W (v9+v7))) (b:=v7) hx rfl kr kr) (re 2 zf))))))))) (fun hm=>Qk zf)) (fun d=>ge 4 (Qj zf))))))))))))))))
def ZN (x:((List Int) × (List Int) × Int × (List Int) × Int × Int)):Option (Int) :=
 match x with
 | (p1,p0,v202,v201,v802,v803) =>
 if v803 < (p1.length:Int) then
  (idx p0 v803>>=fun v1204 =>
  if v1204=v202 then
   if v802 < 0 then
    some true
   else
   idx p1 v803>>=fun v1205 =>
   some (decide (v1205 < v802))
  else
  some false
  )>>=fun (v1203:Bool) =>
  if v1203=true then
   idx p1 v803>>=fun v1206 =>
   ZN (p1,p0,v202,v201,v1206,(W (v803+1)))
  else
  ZN (p1,p0,v202,v201,v802,(W (v803+1)))
 else
 some v802
 partial_fixpoint
theorem J2:∀ x r,ZN x=some r→match x with|(p1,p0,v202,v201,v802,v803)=>LQ f152 152 [1,1,0,1,0,0,1,0,0,1,0,1,0,0] 4 ⟨kp 55 [(0,(La p0)),(1,(La p1)),(4,(.ptr 0 0)),(5,(.ptr 2 0)),(6,(Qe v202)),(7,(Qe v802)),(8,(Qe v803))],(QfB v201.length p1 v201 p0)⟩ (P1 (.exit 2) (fun v1202 d=>⟨sl d 55 [(0,(La p0)),(1,(La p1)),(4,(.ptr 0 0)),(5,(.ptr 2 0)),(6,(Qe v202)),(7,(Qe v1202))],(QfB v201.length p1 v201 p0)⟩) r):=by
 refine ZN.partial_correctness _ (fun ZN J2 x r hm=>?_);obtain ⟨p1,p0,v202,v201,v802,v803⟩:=x;exact lp (Qi (gr 2 (QH Qf p1 (re 1 (ri hm (fun hm=>Qk (Qi (Qn (Qi (bi hm fun v1203 hs hm=>QY (fun d=>⟨sl d 55 [(0,(La p0)),(1,(La p1)),(4,(.ptr 0 0)),(5,(.ptr 2 0)),(6,(Qe v202)),(7,(Qe v802)),(8,(Qe v803)),(41,(Qm v1203))],(QfB v201.length p1 v201 p0)⟩) (have hm:=hs;R_G (Qd 2 (QV 1 Qf hm fun v1204 hm=>Qd 4 (gsq 30 hm (fun hm=>Qd 3 (gs 33 hm (fun hm=>re 8 zf) (fun hm=>Qd 2 (QV 1 Qf hm fun v1205 hm=>re 5 zf)))) (fun hm=>re 11 zf))))) (fun d=>rib hm (fun hm=>R_G (Qd 2 (QV 1 Qf hm fun v1206 hm=>re 2 (R_G (re 3 (J2 _ _ hm _ kr)))))) (fun hm=>Qk (R_G (re 3 (J2 _ _ hm _ kr)))))))))) (fun hm=>QE zf))))))
def ZM (x:((List Int) × (List Int) × (List Int) × Int)):Option ((List Int)) :=
 match x with
 | (p1,p0,v201,v202) =>
 if v202 < (p1.length:Int) then
  ZN (p1,p0,v202,v201,(-1),0)>>=fun v1202 =>
  if v1202≥0 then
   app 8 v201 ([v1202]:List Int)>>=fun v1207 =>
   ZM (p1,p0,v1207,(W (v202+1)))
  else
  ZM (p1,p0,v201,(W (v202+1)))
 else
 some v201
 partial_fixpoint
theorem J1:∀ x r,ZM x=some r→match x with|(p1,p0,v201,v202)=>LQ f152 152 [1,1,0,1,0,0] 4 ⟨kp 55 [(0,(La p0)),(1,(La p1)),(4,(.ptr 0 0)),(5,(.ptr 2 0)),(6,(Qe v202))],(QfB v201.length p1 v201 p0)⟩ (P1 (.exit 0) (fun v601 d=>⟨sl d 55 [(4,(.ptr 0 0)),(5,(.ptr 2 0))],(QfB v601.length p1 v601 p0)⟩) r):=by
 refine ZM.partial_correctness _ (fun ZM J1 x r hm=>?_);obtain ⟨p1,p0,v201,v202⟩:=x;exact lp (Qi (gr 2 (QH Qf p1 (re 1 (ri hm (fun hm=>Qk (Qi (Qn (ge 1 (Qi (ge 1 (Qn (ru1 hm (J2 _) fun v1202 d hm=>ge 2 (ri hm (fun hm=>R_G (Qd 4 (bi hm fun v1207 hx hm=>Y9 3 1 8 1 Qf v201 ([v1202]:List Int) v1207 (xs:=(List.map Qf) v201) (es:=(List.map Qf) ([v1202]:List Int)) (L:=(List.map Qf)) zY rfl rfl zY hx (re 2 (R_G (re 3 (J1 _ _ hm _ kr))))))) (fun hm=>Qk (R_G (re 3 (J1 _ _ hm _ kr))))))))))))) (fun hm=>QE zf))))))
def Jj (x:((List Int) × (List Int))):Option Qw :=
 match x with
 | (p0,p1) =>
 ZM (p1,p0,([]:List Int),0)>>=fun v601 =>
 some (⟨([]:(List Int)),p1,v601,([]:(List Int)),(-1),0,p0⟩:Qw)
theorem Qe3 {p0 p1 r0} (hm:Jj (p0,p1)=some r0):FQ 152 [(Lb p0),(Lb p1)] (.dat (Qw.toD r0)):=by
 unfold Jj at hm;exact fp (fn:=f152) rfl (ge 1 (ge 5 (Qi (ge 1 (Qn (ru1 hm (J1 _) fun v601 d hm=>ge 2 (Qj zf)))))))
def Xp (x:((List Int) × (List Int) × Int)):Option ((List Int)) :=
 match x with
 | (p0,v201,v202) =>
 if v202≥0 then
  app 8 v201 ([v202]:List Int)>>=fun v602 =>
  Xp (p0,v602,(W (v202 - 1)))
 else
 some v201
 partial_fixpoint
theorem Qdz:∀ x r,Xp x=some r→match x with|(p0,v201,v202)=>LQ f108 108 [1,1,0,1,0,0] 2 ⟨kp 19 [(0,(La p0)),(2,(.ptr 0 0)),(3,(XB v201)),(4,(Qe v202))],[Qu,(.tok 3 v201.length)]⟩ (P1 (.exit 0) (fun v601 d=>⟨sl d 19 [(0,(La p0)),(2,(.ptr 0 0)),(3,(XB v601))],[Qu,(.tok 3 v601.length)]⟩) r):=by
 refine Xp.partial_correctness _ (fun Xp Qdz x r hm=>?_);obtain ⟨p0,v201,v202⟩:=x;exact lp (Qi (ge 2 (ri hm (fun hm=>Qk (Qi (Qn (R_G (Qd 3 (bi hm fun v602 hx hm=>Y9 3 1 8 1 Qf v201 ([v202]:List Int) v602 (xs:=(List.map Qf) v201) (es:=(List.map Qf) ([v202]:List Int)) (L:=(List.map Qf)) zY rfl rfl zY hx (re 1 (R_G (re 3 (Qdz _ _ hm _ kr)))))))))) (fun hm=>QE zf))))
def Qbz (x:(List Int)):Option Qw :=
 match x with
 | p0 =>
 Xp (p0,([]:List Int),(W ((p0.length:Int) - 1)))>>=fun v601 =>
 Jj (v601,p0)>>=fun v603 =>
 some v603
theorem QgD {p0 r0} (hm:Qbz p0=some r0):FQ 108 [(Lb p0)] (.dat (Qw.toD r0)):=by
 unfold Qbz at hm;exact fp (fn:=f108) rfl (ge 1 (ge 1 (Qi (gr 1 (QH Qf p0 (re 2 (Qn (ru1 hm (Qdz _) fun v601 d hm=>gr 2 (bi hm fun v603 hx hm=>cp (Qe3 hx) (re 1 (Qj zf)))))))))))
def Zj (x:(Int × Q0 × (List Int) × Int × Int)):Option (Nat ⊕ ((List Int) × Int)) :=
 match x with
 | (p1,p0,v201,v202,v203) =>
 if v203 < p1 then
  (idx p0.values v203>>=fun v605 =>
  if v605 < 0 then
   some true
  else
  idx p0.values v203>>=fun v606 =>
  some (decide (v606≥p1))
  )>>=fun (v604:Bool) =>
  if v604=true then
   some (Sum.inl v201.length)
  else
  idx p0.values v203>>=fun v607 =>
  app 8 v201 ([v607]:List Int)>>=fun v608 =>
  idx v608 v203>>=fun v609 =>
  Zj (p1,p0,v608,(if v202 < v609 then v609 else v202),(W (v203+1)))
 else
 some (Sum.inr (v201,v202))
 partial_fixpoint
theorem Qau:∀ x r,Zj x=some r→match x with|(p1,p0,v201,v202,v203)=>LQ f153 153 [1,1,1,1,0,1,0,0] 2 ⟨kp 73 [(1,(Qe p1)),(2,(.ptr 0 0)),(6,(XB v201)),(7,(Qe v202)),(8,(Qe v203))],(Xb p0.values p0.scalar v201.length)⟩ (P2 .ret (fun v601 d=>⟨sl d 73 [(4,Ea),(5,(Qe 6))],(Xb p0.values p0.scalar v601)⟩) (.exit 0) (fun (v602,v603) d=>⟨sl d 73 [(1,(Qe p1)),(6,(XB v602)),(7,(Qe v603))],(Xb p0.values p0.scalar v602.length)⟩) r):=by
 refine Zj.partial_correctness _ (fun Zj Qau x r hm=>?_);obtain ⟨p1,p0,v201,v202,v203⟩:=x;exact lp (Qi (ge 3 (ri hm (fun hm=>Qk (Qi (Qn (Qi (Qi (bi hm fun v604 hs hm=>QY (fun d=>⟨sl d 73 [(1,(Qe p1)),(2,(.ptr 0 0)),(6,(XB v201)),(7,(Qe v202)),(8,(Qe v203)),(36,(Qm v604))],(Xb p0.values p0.scalar v201.length)⟩) (have hm:=hs;R_G (Qd 3 (QV 1 Qf hm fun v605 hm=>Qd 3 (gs 28 hm (fun hm=>re 8 zf) (fun hm=>Qd 3 (QV 1 Qf hm fun v606 hm=>re 4 zf)))))) (fun d=>rib hm (fun hm=>ge 2 (Qj zf)) (fun hm=>Qk (gr 4 (QV 1 Qf hm fun v607 hm=>Qd 2 (bi hm fun v608 hx hm=>Y9 3 1 8 1 Qf v201 ([v607]:List Int) v608 (xs:=(List.map Qf) v201) (es:=(List.map Qf) ([v607]:List Int)) (L:=(List.map Qf)) zY rfl rfl zY hx (re 1 (R_G (Qd 3 (QV 1 Qf hm fun v609 hm=>Qd 1 (QG rfl (fun _=>QgZ (k:=.i64) (m:=v202) (n:=v609) rfl kr kr) (re 1 (R_G (re 3 (Qau _ _ hm _ kr)))))))))))))))))))) (fun hm=>QE zf))))
def Zk (x:(Int × (List Int) × Int × Int × Q0 × Bool × Int)):Option (Bool) :=
 match x with
 | (p1,v602,v810,v603,p0,v1410,v1411) =>
 if v1411 < p1 then
  if v1410=true then
   Zk (p1,v602,v810,v603,p0,true,(W (v1411+1)))
  else
  idx v602 v1411>>=fun v1811 =>
  Zk (p1,v602,v810,v603,p0,(v1811 == v810),(W (v1411+1)))
 else
 some v1410
 partial_fixpoint
theorem X9:∀ x r,Zk x=some r→match x with|(p1,v602,v810,v603,p0,v1410,v1411)=>LQ f153 153 [1,1,1,1,1,0,1,0,0,1,0,0,1,0,1,0,0] 2 ⟨kp 73 [(1,(Qe p1)),(6,(XB v602)),(7,(Qe v603)),(9,(Qe v810)),(10,(Qm v1410)),(11,(Qe v1411))],(Xb p0.values p0.scalar v602.length)⟩ (P1 (.exit 4) (fun v1810 d=>⟨sl d 73 [(1,(Qe p1)),(6,(XB v602)),(7,(Qe v603)),(9,(Qe v810)),(10,(Qm v1810))],(Xb p0.values p0.scalar v602.length)⟩) r):=by
 refine Zk.partial_correctness _ (fun Zk X9 x r hm=>?_);obtain ⟨p1,v602,v810,v603,p0,v1410,v1411⟩:=x;exact lp (Qi (ge 3 (ri hm (fun hm=>Qk (Qi (Qn (R_G (Qd 2 (gsb 62 hm (fun hm=>re 8 (R_G (re 3 (X9 _ _ hm _ kr)))) (fun hm=>Qd 2 (QV 1 Qf hm fun v1811 hm=>re 5 (R_G (re 3 (X9 _ _ hm _ kr))))))))))) (fun hm=>QE zf))))
def ZB (x:(Int × Int × (List Int) × Q0 × Int)):Option (Unit ⊕ Unit) :=
 match x with
 | (v603,p1,v602,p0,v810) =>
 if v810≤v603 then
  Zk (p1,v602,v810,v603,p0,false,0)>>=fun v1810 =>
  if v1810=false then
   some (Sum.inl ())
  else
  ZB (v603,p1,v602,p0,(W (v810+1)))
 else
 some (Sum.inr ())
 partial_fixpoint
theorem Qav:∀ x r,ZB x=some r→match x with|(v603,p1,v602,p0,v810)=>LQ f153 153 [1,1,1,1,1,0,1,0,0] 2 ⟨kp 73 [(1,(Qe p1)),(6,(XB v602)),(7,(Qe v603)),(9,(Qe v810))],(Xb p0.values p0.scalar v602.length)⟩ (P2 .ret (fun _ d=>⟨sl d 73 [(4,Ea),(5,(Qe 6))],(Xb p0.values p0.scalar v602.length)⟩) (.exit 2) (fun _ d=>⟨sl d 73 [(6,(XB v602))],(Xb p0.values p0.scalar v602.length)⟩) r):=by
 refine ZB.partial_correctness _ (fun ZB Qav x r hm=>?_);obtain ⟨v603,p1,v602,p0,v810⟩:=x;exact lp (Qi (ge 3 (ri hm (fun hm=>Qk (Qi (Qn (ge 1 (Qi (ge 1 (Qn (ru1 hm (X9 _) fun v1810 d hm=>ge 2 (rin hm (fun hm=>ge 2 (Qj zf)) (fun hm=>Qk (R_G (re 3 (Qav _ _ hm _ kr))))))))))))) (fun hm=>QE zf))))
def X3 (x:(Q0 × Int)):Option ((List Int) × Int) :=
 match x with
 | (p0,p1) =>
 if (p0.values.length:Int)≠p1 then
  some (([]:(List Int)),5)
 else
 (
 Zj (p1,p0,([]:List Int),(-1),0)>>=fun out =>
 match out with
 | .inl v601 =>
  some (([]:(List Int)),6)
 | .inr ((v602,v603)) =>
  (
  ZB (v603,p1,v602,p0,0)>>=fun out =>
  match out with
  | .inl _ =>
   some (([]:(List Int)),6)
  | .inr (_) =>
   some (v602,0)
  )
 )
theorem QfS {p0 p1 r0 r1} (hm:X3 (p0,p1)=some (r0,r1)):FQ 153 [(Q0.toD p0),(Qf p1)] (.tup [(La r0),(Qe r1)]):=by
 unfold X3 at hm;exact fp (fn:=f153) rfl (ge 3 (Qi (gr 2 (QH Qf p0.values (re 2 (rix hm (fun hm=>ge 2 (Qj zf)) (fun hm=>Qk (ge 1 (ge 1 (Qi (ge 1 (Qn (ru2 hm (Qau _) (fun v601 d hm=>zf) fun ⟨v602,v603⟩ d hm=>Qi (ge 1 (Qn (ru2 hm (Qav _) (fun _ d hm=>zf) fun _ d hm=>ge 3 (Qj zf)))))))))))))))))
def XR (x:((List Int) × (List Int))):Option (Qw × Int) :=
 match x with
 | (p0,p1) =>
 X3 ((⟨p0,false⟩:Q0),(p1.length:Int))>>=fun (v1,v2) =>
 if v2≠0 then
  some ((⟨([]:(List Int)),([]:(List Int)),([]:(List Int)),([]:(List Int)),0,0,([]:(List Int))⟩:Qw),v2)
 else
 Jj (v1,p1)>>=fun v3 =>
 some (v3,0)
theorem Qeq {p0 p1 r0 r1} (hm:XR (p0,p1)=some (r0,r1)):FQ 109 [(Lb p0),(Lb p1)] (.tup [(.dat (Qw.toD r0)),(Qe r1)]):=by
 unfold XR at hm;exact fp (fn:=f109) rfl (ge 2 (gr 3 (QH Qf p1 (bi2 hm fun v1 v2 hx hm=>cp (QfS hx) (re 5 (Qi (ge 2 (rix hm (fun hm=>ge 4 (Qj zf)) (fun hm=>Qk (gr 2 (bi hm fun v3 hx hm=>cp (Qe3 hx) (re 2 (Qj zf)))))))))))))
def ZK (x:(Q0 × Int)):Option (Unit ⊕ Unit) :=
 match x with
 | (p0,v201) =>
 if v201 < (p0.values.length:Int) then
  idx p0.values v201>>=fun v601 =>
  if v601 < 0 then
   some (Sum.inl ())
  else
  ZK (p0,(W (v201+1)))
 else
 some (Sum.inr ())
 partial_fixpoint
theorem QaS:∀ x r,ZK x=some r→match x with|(p0,v201)=>LQ f154 154 [1,0,1,0,0] 1 ⟨kp 52 [(1,(.ptr 0 0)),(4,(Qe v201))],[(QT p0.values p0.scalar)]⟩ (P2 .ret (fun _ d=>⟨sl d 52 [(2,Ea),(3,(Qe 6))],[(QT p0.values p0.scalar)]⟩) (.exit 0) (fun _ d=>⟨sl d 52 [(1,(.ptr 0 0))],[(QT p0.values p0.scalar)]⟩) r):=by
 refine ZK.partial_correctness _ (fun ZK QaS x r hm=>?_);obtain ⟨p0,v201⟩:=x;exact lp (Qi (gr 3 (QH Qf p0.values (re 1 (ri hm (fun hm=>Qk (Qi (Qn (gr 3 (QV 1 Qf hm fun v601 hm=>re 2 (ri hm (fun hm=>ge 2 (Qj zf)) (fun hm=>Qk (R_G (re 3 (QaS _ _ hm _ kr)))))))))) (fun hm=>QE zf))))))
def Zq (x:(Q0 × (List Int) × Int)):Option (Nat ⊕ (List Int)) :=
 match x with
 | (p0,v802,v803) =>
 if v803 < (p0.values.length:Int) then
  (if v803≥16 then
   some true
  else
  idx p0.values v803>>=fun v1205 =>
  some (decide (v1205 > 65536))
  )>>=fun (v1204:Bool) =>
  if v1204=true then
   some (Sum.inl v802.length)
  else
  idx p0.values v803>>=fun v1206 =>
  app 8 v802 ([v1206]:List Int)>>=fun v1207 =>
  Zq (p0,v1207,(W (v803+1)))
 else
 some (Sum.inr v802)
 partial_fixpoint
theorem QaT:∀ x r,Zq x=some r→match x with|(p0,v802,v803)=>LQ f154 154 [1,1,1,0,1,0,0] 2 ⟨kp 52 [(1,(.ptr 0 0)),(5,(XB v802)),(6,(Qe v803))],(Xb p0.values p0.scalar v802.length)⟩ (P2 .ret (fun v1202 d=>⟨sl d 52 [(2,Ea),(3,(Qe 7))],(Xb p0.values p0.scalar v1202)⟩) (.exit 2) (fun v1203 d=>⟨sl d 52 [(5,(XB v1203))],(Xb p0.values p0.scalar v1203.length)⟩) r):=by
 refine Zq.partial_correctness _ (fun Zq QaT x r hm=>?_);obtain ⟨p0,v802,v803⟩:=x;exact lp (Qi (gr 3 (QH Qf p0.values (re 1 (ri hm (fun hm=>Qk (Qi (Qn (Qi (Qi (bi hm fun v1204 hs hm=>QY (fun d=>⟨sl d 52 [(1,(.ptr 0 0)),(5,(XB v802)),(6,(Qe v803)),(37,(Qm v1204))],(Xb p0.values p0.scalar v802.length)⟩) (have hm:=hs;R_G (Qd 3 (gs 30 hm (fun hm=>re 7 zf) (fun hm=>Qd 3 (QV 1 Qf hm fun v1205 hm=>re 3 zf))))) (fun d=>rib hm (fun hm=>ge 2 (Qj zf)) (fun hm=>Qk (R_G (Qd 4 (QV 1 Qf hm fun v1206 hm=>Qd 2 (bi hm fun v1207 hx hm=>Y9 3 1 8 1 Qf v802 ([v1206]:List Int) v1207 (xs:=(List.map Qf) v802) (es:=(List.map Qf) ([v1206]:List Int)) (L:=(List.map Qf)) zY rfl rfl zY hx (re 1 (R_G (re 3 (QaT _ _ hm _ kr)))))))))))))))) (fun hm=>QE zf))))))
def Jp (x:Q0):Option ((List Int) × Int) :=
 match x with
 | p0 =>
 (
 ZK (p0,0)>>=fun out =>
 match out with
 | .inl _ =>
  some (([]:(List Int)),6)
 | .inr (_) =>
  (
  Zq (p0,([]:List Int),0)>>=fun out =>
  match out with
  | .inl v1202 =>
   some (([]:(List Int)),7)
  | .inr (v1203) =>
   Yr v1203>>=fun v1208 =>
   if v1208≠0 then
    some (([]:(List Int)),v1208)
   else
   some (v1203,0)
  )
 )
theorem Qgf {p0 r0 r1} (hm:Jp p0=some (r0,r1)):FQ 154 [(Q0.toD p0)] (.tup [(La r0),(Qe r1)]):=by
 unfold Jp at hm;exact fp (fn:=f154) rfl (ge 3 (Qi (ge 1 (Qn (ru2 hm (QaS _) (fun _ d hm=>zf) fun _ d hm=>ge 1 (Qi (ge 1 (Qn (ru2 hm (QaT _) (fun v1202 d hm=>zf) fun v1203 d hm=>gr 1 (bi hm fun v1208 hx hm=>cp (JV hx) (re 1 (Qi (ge 2 (rix hm (fun hm=>ge 3 (Qj zf)) (fun hm=>Qk (ge 3 (Qj zf)))))))))))))))))
def JC (x:((List Int) × (List Int))):Option (Qw × Int) :=
 match x with
 | (p0,p1) =>
 Jp (⟨p0,false⟩:Q0)>>=fun (v1,v2) =>
 if v2≠0 then
  some ((⟨([]:(List Int)),([]:(List Int)),([]:(List Int)),([]:(List Int)),0,0,([]:(List Int))⟩:Qw),v2)
 else
 some ((⟨([]:(List Int)),p1,v1,([]:(List Int)),(-1),0,([]:(List Int))⟩:Qw),0)
theorem Qfo {p0 p1 r0 r1} (hm:JC (p0,p1)=some (r0,r1)):FQ 110 [(Lb p0),(Lb p1)] (.tup [(.dat (Qw.toD r0)),(Qe r1)]):=by
 unfold JC at hm;exact fp (fn:=f110) rfl (ge 2 (gr 2 (bi2 hm fun v1 v2 hx hm=>cp (Qgf hx) (re 5 (Qi (ge 2 (rix hm (fun hm=>ge 4 (Qj zf)) (fun hm=>Qk (ge 5 (Qj zf))))))))))
def QaN (x:(List Int)):Option Qw :=
 match x with
 | p0 =>
 Xv p0>>=fun v1 =>
 some (⟨([]:(List Int)),p0,([v1]:List Int),([]:(List Int)),(-1),0,([]:(List Int))⟩:Qw)
theorem Qf5 {p0 r0} (hm:QaN p0=some r0):FQ 111 [(Lb p0)] (.dat (Qw.toD r0)):=by
 unfold QaN at hm;exact fp (fn:=f111) rfl (ge 1 (gr 2 (bi hm fun v1 hx hm=>cp (Qde hx) (re 3 (Qj zf)))))
def Yy (x:((List Int) × (List Int) × Int)):Option (Unit ⊕ Unit) :=
 match x with
 | (p0,p1,v201) =>
 if v201 < (p0.length:Int) then
  idx p0 v201>>=fun v601 =>
  idx p1 v201>>=fun v602 =>
  if v601≠v602 then
   some (Sum.inl ())
  else
  Yy (p0,p1,(W (v201+1)))
 else
 some (Sum.inr ())
 partial_fixpoint
theorem QcO:∀ x r,Yy x=some r→match x with|(p0,p1,v201)=>LQ f16 16 [1,1,0,1,0,0] 0 ⟨kp 26 [(0,(La p0)),(1,(La p1)),(5,(Qe v201))],[]⟩ (P2 .ret (fun _ d=>⟨sl d 26 [(4,(Qm false))],[]⟩) (.exit 0) (fun _ d=>⟨sl d 26 [],[]⟩) r):=by
 refine Yy.partial_correctness _ (fun Yy QcO x r hm=>?_);obtain ⟨p0,p1,v201⟩:=x;exact lp (Qi (gr 2 (QH Qf p0 (re 1 (ri hm (fun hm=>Qk (Qi (Qn (Qi (Yv (Qd 2 (QV 1 Qf hm fun v601 hm=>Qd 3 (QV 1 Qf hm fun v602 hm=>re 2 ⟨kr,rix hm (fun hm=>ge 1 (Qj zf)) (fun hm=>Qk (R_G (re 3 (QcO _ _ hm _ kr))))⟩)))))))) (fun hm=>QE zf))))))
def ZP (x:((List Int) × (List Int))):Option Bool :=
 match x with
 | (p0,p1) =>
 if (p0.length:Int)≠(p1.length:Int) then
  some false
 else
 (
 Yy (p0,p1,0)>>=fun out =>
 match out with
 | .inl _ =>
  some false
 | .inr (_) =>
  some true
 )
theorem Jg {p0 p1 r0} (hm:ZP (p0,p1)=some r0):FQ 16 [(Lb p0),(Lb p1)] (Qm r0):=by
 unfold ZP at hm;exact fp (fn:=f16) rfl (ge 1 (Qi (gr 1 (QH Qf p0 (Qd 1 (QH Qf p1 (re 1 (rix hm (fun hm=>ge 1 (Qj zf)) (fun hm=>Qk (Qi (ge 1 (Qn (ru2 hm (QcO _) (fun _ d hm=>zf) fun _ d hm=>ge 1 (Qj zf))))))))))))))
def Z1 (x:(Qa × Qa)):Option Qa :=
 match x with
 | (p0,p1) =>
 some (⟨p0.kind,p0.shape,p0.buffer,p0.starts,p0.axis,p0.amount,p0.perm,([(⟨p1.kind,p1.shape,p1.buffer,p1.starts,p1.axis,p1.amount,p1.perm,p1.kids⟩:Qa)]:(List Qa))⟩:Qa)
theorem Ju {p0 p1 r0} (hm:Z1 (p0,p1)=some r0):FQ 112 [(Qa.ex p0),(Qa.ex p1)] (.dat (Qa.ex r0)):=by
 unfold Z1 at hm;exact fp (fn:=f112) rfl (ge 3 (ge 4 (ge 2 (Qj zf))))
def Zt (x:(Qa × (List Int))):Option Qa :=
 match x with
 | (p0,p1) =>
 ZP (p0.shape,p1)>>=fun v1 =>
 if v1=true then
  some (⟨p0.kind,p0.shape,p0.buffer,p0.starts,p0.axis,p0.amount,p0.perm,p0.kids⟩:Qa)
 else
 Z1 ((⟨6,p1,0,([]:(List Int)),0,0,([]:(List Int)),([]:(List Qa))⟩:Qa),p0)>>=fun v2 =>
 some v2
theorem JN {p0 p1 r0} (hm:Zt (p0,p1)=some r0):FQ 64 [(Qa.ex p0),(Lb p1)] (.dat (Qa.ex r0)):=by
 unfold Zt at hm;exact fp (fn:=f64) rfl (ge 2 (Qi (gr 3 (bi hm fun v1 hx hm=>cp (Jg hx) (Yf (rib hm (fun hm=>ge 2 (Qj zf)) (fun hm=>Qk (gr 3 (bi hm fun v2 hx hm=>cp (Ju hx) (re 1 (Qj zf)))))))))))
def XG (x:((List Qg) × Qc × Qa)):Option (Qa × Int) :=
 match x with
 | (p0,p1,p2) =>
 if p1.kind=4 then
  idx p1.kids 0>>=fun v1 =>
  Qbx (p0,v1)>>=fun (v2,v3) =>
  if v3≠0 then
   some ((⟨0,([]:(List Int)),0,([]:(List Int)),0,0,([]:(List Int)),([]:(List Qa))⟩:Qa),v3)
  else
  (if p1.fn=1 then
   some (p1.fn == 1)
  else
  some (p1.fn == 2)
  )>>=fun (v4:Bool) =>
  if v4=true then
   (if p1.fn=1 then
    QbA (v2.values,p2.shape)>>=fun (v13,v14) =>
    some (v13.left,v13.right,v13.shape,v13.starts,v13.axis,v13.amount,v13.perm,v14)
   else
   Qby (v2.values,p2.shape)>>=fun (v15,v16) =>
   some (v15.left,v15.right,v15.shape,v15.starts,v15.axis,v15.amount,v15.perm,v16)
   )>>=fun ((v5,v6,v7,v8,v9,v10,v11,v12):((List Int) × (List Int) × (List Int) × (List Int) × Int × Int × (List Int) × Int)) =>
   if v12≠0 then
    some ((⟨0,([]:(List Int)),0,([]:(List Int)),0,0,([]:(List Int)),([]:(List Qa))⟩:Qa),v12)
   else
   Zt ((⟨p2.kind,p2.shape,p2.buffer,p2.starts,p2.axis,p2.amount,p2.perm,p2.kids⟩:Qa),v6)>>=fun v17 =>
   Z1 ((⟨2,v7,0,v8,0,0,([]:(List Int)),([]:(List Qa))⟩:Qa),v17)>>=fun v18 =>
   some (v18,0)
  else
  if p1.fn=3 then
   (if p1.kind=3 then
    X1 (p1.axis,p2.shape)>>=fun (v27,v28) =>
    some (v27.left,v27.right,v27.shape,v27.starts,v27.axis,v27.amount,v27.perm,v28)
   else
   J6 (v2.values,p1.axis,p2.shape)>>=fun (v29,v30) =>
   some (v29.left,v29.right,v29.shape,v29.starts,v29.axis,v29.amount,v29.perm,v30)
   )>>=fun ((v19,v20,v21,v22,v23,v24,v25,v26):((List Int) × (List Int) × (List Int) × (List Int) × Int × Int × (List Int) × Int)) =>
   (if v26=0 then
    some (decide (v23 < 0))
   else
   some false
   )>>=fun (v31:Bool) =>
   if v31=true then
    some ((⟨p2.kind,p2.shape,p2.buffer,p2.starts,p2.axis,p2.amount,p2.perm,p2.kids⟩:Qa),0)
   else
   if v26≠0 then
    some ((⟨0,([]:(List Int)),0,([]:(List Int)),0,0,([]:(List Int)),([]:(List Qa))⟩:Qa),v26)
   else
   Zt ((⟨p2.kind,p2.shape,p2.buffer,p2.starts,p2.axis,p2.amount,p2.perm,p2.kids⟩:Qa),v20)>>=fun v32 =>
   Z1 ((⟨p1.kind,v21,0,([]:(List Int)),v23,v24,([]:(List Int)),([]:(List Qa))⟩:Qa),v32)>>=fun v33 =>
   some (v33,0)
  else
  (if p1.fn=4 then
   if p1.kind=3 then
    Qbz p2.shape>>=fun v44 =>
    some (v44.left,v44.right,v44.shape,v44.starts,v44.axis,v44.amount,v44.perm,(5:Int),v44.perm,(0:Int))
   else
   XR (v2.values,p2.shape)>>=fun (v45,v46) =>
   some (v45.left,v45.right,v45.shape,v45.starts,v45.axis,v45.amount,v45.perm,(5:Int),v45.perm,v46)
  else
  if p1.fn=5 then
   JC (v2.values,p2.shape)>>=fun (v47,v48) =>
   some (v47.left,v47.right,v47.shape,v47.starts,v47.axis,v47.amount,v47.perm,(6:Int),([]:List Int),v48)
  else
  if p1.fn=6 then
   QaN p2.shape>>=fun v49 =>
   some (v49.left,v49.right,v49.shape,v49.starts,v49.axis,v49.amount,v49.perm,(6:Int),([]:List Int),(0:Int))
  else
  some (([]:List Int),([]:List Int),([]:List Int),([]:List Int),(0:Int),(0:Int),([]:List Int),(0:Int),([]:List Int),(0:Int))
  )>>=fun ((v34,v35,v36,v37,v38,v39,v40,v41,v42,v43):((List Int) × (List Int) × (List Int) × (List Int) × Int × Int × (List Int) × Int × (List Int) × Int)) =>
  if v43≠0 then
   some ((⟨0,([]:(List Int)),0,([]:(List Int)),0,0,([]:(List Int)),([]:(List Qa))⟩:Qa),v43)
  else
  Zt ((⟨p2.kind,p2.shape,p2.buffer,p2.starts,p2.axis,p2.amount,p2.perm,p2.kids⟩:Qa),v35)>>=fun v50 =>
  Z1 ((⟨v41,v36,0,([]:(List Int)),0,0,v42,([]:(List Qa))⟩:Qa),v50)>>=fun v51 =>
  some (v51,0)
 else
 (if p1.fn=1 then
  some (p1.fn == 1)
 else
 some (p1.fn == 2)
 )>>=fun (v52:Bool) =>
 if v52=true then
  (if p1.fn=1 then
   QbA (([]:(List Int)),p2.shape)>>=fun (v61,v62) =>
   some (v61.left,v61.right,v61.shape,v61.starts,v61.axis,v61.amount,v61.perm,v62)
  else
  Qby (([]:(List Int)),p2.shape)>>=fun (v63,v64) =>
  some (v63.left,v63.right,v63.shape,v63.starts,v63.axis,v63.amount,v63.perm,v64)
  )>>=fun ((v53,v54,v55,v56,v57,v58,v59,v60):((List Int) × (List Int) × (List Int) × (List Int) × Int × Int × (List Int) × Int)) =>
  if v60≠0 then
   some ((⟨0,([]:(List Int)),0,([]:(List Int)),0,0,([]:(List Int)),([]:(List Qa))⟩:Qa),v60)
  else
  Zt ((⟨p2.kind,p2.shape,p2.buffer,p2.starts,p2.axis,p2.amount,p2.perm,p2.kids⟩:Qa),v54)>>=fun v65 =>
  Z1 ((⟨2,v55,0,v56,0,0,([]:(List Int)),([]:(List Qa))⟩:Qa),v65)>>=fun v66 =>
  some (v66,0)
 else
 if p1.fn=3 then
  (if p1.kind=3 then
   X1 (p1.axis,p2.shape)>>=fun (v75,v76) =>
   some (v75.left,v75.right,v75.shape,v75.starts,v75.axis,v75.amount,v75.perm,v76)
  else
  J6 (([]:(List Int)),p1.axis,p2.shape)>>=fun (v77,v78) =>
  some (v77.left,v77.right,v77.shape,v77.starts,v77.axis,v77.amount,v77.perm,v78)
  )>>=fun ((v67,v68,v69,v70,v71,v72,v73,v74):((List Int) × (List Int) × (List Int) × (List Int) × Int × Int × (List Int) × Int)) =>
  (if v74=0 then
   some (decide (v71 < 0))
  else
  some false
  )>>=fun (v79:Bool) =>
  if v79=true then
   some ((⟨p2.kind,p2.shape,p2.buffer,p2.starts,p2.axis,p2.amount,p2.perm,p2.kids⟩:Qa),0)
  else
  if v74≠0 then
   some ((⟨0,([]:(List Int)),0,([]:(List Int)),0,0,([]:(List Int)),([]:(List Qa))⟩:Qa),v74)
  else
  Zt ((⟨p2.kind,p2.shape,p2.buffer,p2.starts,p2.axis,p2.amount,p2.perm,p2.kids⟩:Qa),v68)>>=fun v80 =>
  Z1 ((⟨p1.kind,v69,0,([]:(List Int)),v71,v72,([]:(List Int)),([]:(List Qa))⟩:Qa),v80)>>=fun v81 =>
  some (v81,0)
 else
 (if p1.fn=4 then
  if p1.kind=3 then
   Qbz p2.shape>>=fun v92 =>
   some (v92.left,v92.right,v92.shape,v92.starts,v92.axis,v92.amount,v92.perm,(5:Int),v92.perm,(0:Int))
  else
  XR (([]:(List Int)),p2.shape)>>=fun (v93,v94) =>
  some (v93.left,v93.right,v93.shape,v93.starts,v93.axis,v93.amount,v93.perm,(5:Int),v93.perm,v94)
 else
 if p1.fn=5 then
  JC (([]:(List Int)),p2.shape)>>=fun (v95,v96) =>
  some (v95.left,v95.right,v95.shape,v95.starts,v95.axis,v95.amount,v95.perm,(6:Int),([]:List Int),v96)
 else
 if p1.fn=6 then
  QaN p2.shape>>=fun v97 =>
  some (v97.left,v97.right,v97.shape,v97.starts,v97.axis,v97.amount,v97.perm,(6:Int),([]:List Int),(0:Int))
 else
 some (([]:List Int),([]:List Int),([]:List Int),([]:List Int),(0:Int),(0:Int),([]:List Int),(0:Int),([]:List Int),(0:Int))
 )>>=fun ((v82,v83,v84,v85,v86,v87,v88,v89,v90,v91):((List Int) × (List Int) × (List Int) × (List Int) × Int × Int × (List Int) × Int × (List Int) × Int)) =>
 if v91≠0 then
  some ((⟨0,([]:(List Int)),0,([]:(List Int)),0,0,([]:(List Int)),([]:(List Qa))⟩:Qa),v91)
 else
 Zt ((⟨p2.kind,p2.shape,p2.buffer,p2.starts,p2.axis,p2.amount,p2.perm,p2.kids⟩:Qa),v83)>>=fun v98 =>
 Z1 ((⟨v89,v84,0,([]:(List Int)),0,0,v90,([]:(List Qa))⟩:Qa),v98)>>=fun v99 =>
 some (v99,0)
theorem QiE {p0 p1 p2 r0 r1} (hm:XG (p0,p1,p2)=some (r0,r1)):FQ 62 [(.lst ((List.map Qg.toD) p0)),(Qc.ex p1),(Qa.ex p2)] (.tup [(.dat (Qa.ex r0)),(Qe r1)]):=by
 unfold XG at hm
 exact fp (fn:=f62) rfl (ge 4 (ge 1 (Qi (ge 3 (riq hm (fun hm=>gr 3 (bi hm fun v1 hx hm=>XA 6 Qc.toD p1.kids 0 v1 (es:=Qc.toDs p1.kids) (d:=(Qc.ex v1)) (Qc.toDs_eq _) hx (Qc.toD_eq v1) rfl (Qd 1 (bi2 hm fun v2 v3 hx hm=>cp (QhX hx) (re 6 (Qi (ge 2 (rix hm (fun hm=>ge 4 (Qj zf)) (fun hm=>Qk (R_G (re 3 (ge 1 (ge 1 (ge 3 (Qi (ge 2 (Qn (Qi (ge 2 (bi hm fun v4 hs hm=>QY (fun d=>⟨sl d 146 [(4,(.ptr 0 0)),(5,(.ptr 1 0)),(6,(.ptr 2 0)),(8,(La v2.values)),(11,(.ptr 4 0)),(12,(Qe 0)),(13,(.ptr 5 0)),(34,(Qe p1.fn)),(35,(Qm v4))],[(QU p1.kind p1.fn p1.axis p1.name p1.nums p1.kids),(QX p2.kind p2.shape p2.buffer p2.starts p2.axis p2.amount p2.perm p2.kids),Xa,(QT v2.values v2.scalar),Qu,Xa]⟩) (have hm:=hs;riq hm (fun hm=>Qk zf) (fun hm=>R_G (re 2 zf))) (fun d=>rib hm (fun hm=>ge 2 (Qi (ge 3 (bi8 hm fun v5 v6 v7 v8 v9 v10 v11 v12 hs hm=>QY (fun d=>⟨sl d 146 [(5,(.ptr 1 0)),(6,(.ptr 2 0)),(11,(.ptr 4 0)),(12,(Qe v12)),(13,(.ptr 5 0))],[(QU p1.kind p1.fn p1.axis p1.name p1.nums p1.kids),(QX p2.kind p2.shape p2.buffer p2.starts p2.axis p2.amount p2.perm p2.kids),Xa,(QT v2.values v2.scalar),(QaC v5 v6 v7 v8 v9 v10 v11),Qiq]⟩) (have hm:=hs;riq hm (fun hm=>R_G (Qd 3 (bi2 hm fun v13 v14 hx hm=>cp (QgE hx) (re 5 zf)))) (fun hm=>R_G (Qd 3 (bi2 hm fun v15 v16 hx hm=>cp (QgC hx) (re 5 zf))))) (fun d=>R_G (re 4 (ge 4 (Qi (ge 2 (rix hm (fun hm=>ge 4 (Qj zf)) (fun hm=>Qk (Qi (Yv (Qd 4 (bi hm fun v17 hx hm=>cp (JN hx) (bi hm fun v18 hx hm=>cp (Ju hx) (re 2 ⟨kr,Qj zf⟩))))))))))))))))) (fun hm=>ge 2 (riq hm (fun hm=>ge 4 (Qi (ge 3 (bi8 hm fun v19 v20 v21 v22 v23 v24 v25 v26 hs hm=>QY (fun d=>⟨sl d 146 [(5,(.ptr 1 0)),(6,(.ptr 2 0)),(11,(.ptr 4 0)),(12,(Qe v26)),(13,(.ptr 5 0))],[(QU p1.kind p1.fn p1.axis p1.name p1.nums p1.kids),(QX p2.kind p2.shape p2.buffer p2.starts p2.axis p2.amount p2.perm p2.kids),Xa,(QT v2.values v2.scalar),(QaC v19 v20 v21 v22 v23 v24 v25),(Qgr p1.kind)]⟩) (have hm:=hs;riq hm (fun hm=>R_G (Qd 4 (bi2 hm fun v27 v28 hx hm=>cp (QdA hx) (re 5 zf)))) (fun hm=>R_G (Qd 5 (bi2 hm fun v29 v30 hx hm=>cp (QfI hx) (re 5 zf))))) (fun d=>Qi (Qi (bi hm fun v31 hs hm=>QY (fun d=>⟨sl d 146 [(5,(.ptr 1 0)),(6,(.ptr 2 0)),(11,(.ptr 4 0)),(12,(Qe v26)),(13,(.ptr 5 0)),(90,(Qm v31))],[(QU p1.kind p1.fn p1.axis p1.name p1.nums p1.kids),(QX p2.kind p2.shape p2.buffer p2.starts p2.axis p2.amount p2.perm p2.kids),Xa,(QT v2.values v2.scalar),(QaC v19 v20 v21 v22 v23 v24 v25),(Qgr p1.kind)]⟩) (have hm:=hs;R_G (Qd 3 (gsq 86 hm (fun hm=>re 4 zf) (fun hm=>re 4 zf)))) (fun d=>rib hm (fun hm=>ge 3 (Qj zf)) (fun hm=>Qk (ge 4 (R_G (re 4 (ge 4 (Qi (ge 2 (rix hm (fun hm=>ge 4 (Qj zf)) (fun hm=>Qk (Qi (Yv (Qd 4 (bi hm fun v32 hx hm=>cp (JN hx) (bi hm fun v33 hx hm=>cp (Ju hx) (re 2 ⟨kr,Qj zf⟩))))))))))))))))))))))) (fun hm=>ge 2 (bi10 hm fun v34 v35 v36 v37 v38 v39 v40 v41 v42 v43 hs hm=>QY (fun d=>⟨sl d 146 [(5,(.ptr 1 0)),(6,(.ptr 2 0)),(11,(.ptr 4 0)),(12,(Qe v43)),(13,(.ptr 5 0))],[(QU p1.kind p1.fn p1.axis p1.name p1.nums p1.kids),(QX p2.kind p2.shape p2.buffer p2.starts p2.axis p2.amount p2.perm p2.kids),Xa,(QT v2.values v2.scalar),(QaC v34 v35 v36 v37 v38 v39 v40),(Qio v41 v42)]⟩) (have hm:=hs;riq hm (fun hm=>ge 2 (Qi (ge 3 (riq hm (fun hm=>R_G (Qd 2 (bi hm fun v44 hx hm=>cp (QgD hx) (re 1 (R_G (re 4 zf)))))) (fun hm=>R_G (Qd 3 (bi2 hm fun v45 v46 hx hm=>cp (Qeq hx) (re 5 (R_G (re 4 zf)))))))))) (fun hm=>ge 2 (riq hm (fun hm=>ge 2 (R_G (Qd 3 (bi2 hm fun v47 v48 hx hm=>cp (Qfo hx) (re 5 zf))))) (fun hm=>ge 2 (riq hm (fun hm=>ge 2 (R_G (Qd 2 (bi hm fun v49 hx hm=>cp (Qf5 hx) (re 1 zf))))) (fun hm=>Qk zf)))))) (fun d=>ge 4 (Qi (ge 2 (rix hm (fun hm=>ge 4 (Qj zf)) (fun hm=>Qk (Qi (Yv (Qd 4 (bi hm fun v50 hx hm=>cp (JN hx) (bi hm fun v51 hx hm=>cp (Ju hx) (re 2 ⟨kr,Qj zf⟩)))))))))))))))))))))))))))))))))))) (fun hm=>Qk (ge 1 (ge 1 (ge 3 (Qi (ge 2 (Qn (Qi (ge 2 (bi hm fun v52 hs hm=>QY (fun d=>⟨sl d 146 [(4,(.ptr 0 0)),(5,(.ptr 1 0)),(6,(.ptr 2 0)),(8,Ea),(11,(.ptr 3 0)),(12,(Qe 0)),(13,(.ptr 4 0)),(34,(Qe p1.fn)),(35,(Qm v52))],[(QU p1.kind p1.fn p1.axis p1.name p1.nums p1.kids),(QX p2.kind p2.shape p2.buffer p2.starts p2.axis p2.amount p2.perm p2.kids),Xa,Qu,Xa]⟩) (have hm:=hs;riq hm (fun hm=>Qk zf) (fun hm=>R_G (re 2 zf))) (fun d=>rib hm (fun hm=>ge 2 (Qi (ge 3 (bi8 hm fun v53 v54 v55 v56 v57 v58 v59 v60 hs hm=>QY (fun d=>⟨sl d 146 [(5,(.ptr 1 0)),(6,(.ptr 2 0)),(11,(.ptr 3 0)),(12,(Qe v60)),(13,(.ptr 4 0))],[(QU p1.kind p1.fn p1.axis p1.name p1.nums p1.kids),(QX p2.kind p2.shape p2.buffer p2.starts p2.axis p2.amount p2.perm p2.kids),Xa,(QaC v53 v54 v55 v56 v57 v58 v59),Qiq]⟩) (have hm:=hs;riq hm (fun hm=>R_G (Qd 3 (bi2 hm fun v61 v62 hx hm=>cp (QgE hx) (re 5 zf)))) (fun hm=>R_G (Qd 3 (bi2 hm fun v63 v64 hx hm=>cp (QgC hx) (re 5 zf))))) (fun d=>R_G (re 4 (ge 4 (Qi (ge 2 (rix hm (fun hm=>ge 4 (Qj zf)) (fun hm=>Qk (Qi (Yv (Qd 4 (bi hm fun v65 hx hm=>cp (JN hx) (bi hm fun v66 hx hm=>cp (Ju hx) (re 2 ⟨kr,Qj zf⟩))))))))))))))))) (fun hm=>ge 2 (riq hm (fun hm=>ge 4 (Qi (ge 3 (bi8 hm fun v67 v68 v69 v70 v71 v72 v73 v74 hs hm=>QY (fun d=>⟨sl d 146 [(5,(.ptr 1 0)),(6,(.ptr 2 0)),(11,(.ptr 3 0)),(12,(Qe v74)),(13,(.ptr 4 0))],[(QU p1.kind p1.fn p1.axis p1.name p1.nums p1.kids),(QX p2.kind p2.shape p2.buffer p2.starts p2.axis p2.amount p2.perm p2.kids),Xa,(QaC v67 v68 v69 v70 v71 v72 v73),(Qgr p1.kind)]⟩) (have hm:=hs;riq hm (fun hm=>R_G (Qd 4 (bi2 hm fun v75 v76 hx hm=>cp (QdA hx) (re 5 zf)))) (fun hm=>R_G (Qd 5 (bi2 hm fun v77 v78 hx hm=>cp (QfI hx) (re 5 zf))))) (fun d=>Qi (Qi (bi hm fun v79 hs hm=>QY (fun d=>⟨sl d 146 [(5,(.ptr 1 0)),(6,(.ptr 2 0)),(11,(.ptr 3 0)),(12,(Qe v74)),(13,(.ptr 4 0)),(90,(Qm v79))],[(QU p1.kind p1.fn p1.axis p1.name p1.nums p1.kids),(QX p2.kind p2.shape p2.buffer p2.starts p2.axis p2.amount p2.perm p2.kids),Xa,(QaC v67 v68 v69 v70 v71 v72 v73),(Qgr p1.kind)]⟩) (have hm:=hs;R_G (Qd 3 (gsq 86 hm (fun hm=>re 4 zf) (fun hm=>re 4 zf)))) (fun d=>rib hm (fun hm=>ge 3 (Qj zf)) (fun hm=>Qk (ge 4 (R_G (re 4 (ge 4 (Qi (ge 2 (rix hm (fun hm=>ge 4 (Qj zf)) (fun hm=>Qk (Qi (Yv (Qd 4 (bi hm fun v80 hx hm=>cp (JN hx) (bi hm fun v81 hx hm=>cp (Ju hx) (re 2 ⟨kr,Qj zf⟩))))))))))))))))))))))) (fun hm=>ge 2 (bi10 hm fun v82 v83 v84 v85 v86 v87 v88 v89 v90 v91 hs hm=>QY (fun d=>⟨sl d 146 [(5,(.ptr 1 0)),(6,(.ptr 2 0)),(11,(.ptr 3 0)),(12,(Qe v91)),(13,(.ptr 4 0))],[(QU p1.kind p1.fn p1.axis p1.name p1.nums p1.kids),(QX p2.kind p2.shape p2.buffer p2.starts p2.axis p2.amount p2.perm p2.kids),Xa,(QaC v82 v83 v84 v85 v86 v87 v88),(Qio v89 v90)]⟩) (have hm:=hs;riq hm (fun hm=>ge 2 (Qi (ge 3 (riq hm (fun hm=>R_G (Qd 2 (bi hm fun v92 hx hm=>cp (QgD hx) (re 1 (R_G (re 4 zf)))))) (fun hm=>R_G (Qd 3 (bi2 hm fun v93 v94 hx hm=>cp (Qeq hx) (re 5 (R_G (re 4 zf)))))))))) (fun hm=>ge 2 (riq hm (fun hm=>ge 2 (R_G (Qd 3 (bi2 hm fun v95 v96 hx hm=>cp (Qfo hx) (re 5 zf))))) (fun hm=>ge 2 (riq hm (fun hm=>ge 2 (R_G (Qd 2 (bi hm fun v97 hx hm=>cp (Qf5 hx) (re 1 zf))))) (fun hm=>Qk zf)))))) (fun d=>ge 4 (Qi (ge 2 (rix hm (fun hm=>ge 4 (Qj zf)) (fun hm=>Qk (Qi (Yv (Qd 4 (bi hm fun v98 hx hm=>cp (JN hx) (bi hm fun v99 hx hm=>cp (Ju hx) (re 2 ⟨kr,Qj zf⟩)))))))))))))))))))))))))))))))
def Zb (x:((List Int) × Int × Int × (List Int) × Int)):Option ((List Int)) :=
 match x with
 | (p0,p1,p2,v201,v202) =>
 if v202≤(p0.length:Int) then
  (if v202=p1 then
   app 8 v201 ([p2]:List Int)>>=fun v603 =>
   some v603
  else
  some v201
  )>>=fun (v602:(List Int)) =>
  if v202 < (p0.length:Int) then
   idx p0 v202>>=fun v604 =>
   app 8 v602 ([v604]:List Int)>>=fun v605 =>
   Zb (p0,p1,p2,v605,(W (v202+1)))
  else
  Zb (p0,p1,p2,v602,(W (v202+1)))
 else
 some v201
 partial_fixpoint
theorem Qa5:∀ x r,Zb x=some r→match x with|(p0,p1,p2,v201,v202)=>LQ f113 113 [1,1,0,1,0,0] 1 ⟨kp 34 [(0,(La p0)),(1,(Qe p1)),(2,(Qe p2)),(7,(QdV v201)),(8,(Qe v202))],[(.tok 3 v201.length)]⟩ (P1 (.exit 0) (fun v601 d=>⟨sl d 34 [(7,(QdV v601))],[(.tok 3 v601.length)]⟩) r):=by
 refine Zb.partial_correctness _ (fun Zb Qa5 x r hm=>?_);obtain ⟨p0,p1,p2,v201,v202⟩:=x
 exact lp (Qi (gr 2 (QH Qf p0 (re 1 (ri hm (fun hm=>Qk (Qi (Qn (Qi (ge 3 (bi hm fun v602 hs hm=>QY (fun d=>⟨sl d 34 [(0,(La p0)),(1,(Qe p1)),(2,(Qe p2)),(7,(QdV v602)),(8,(Qe v202))],[(.tok 3 v602.length)]⟩) (have hm:=hs;riq hm (fun hm=>R_G (Qd 3 (bi hm fun v603 hx hm=>Y9 3 1 8 0 Qf v201 ([p2]:List Int) v603 (xs:=(List.map Qf) v201) (es:=(List.map Qf) ([p2]:List Int)) (L:=(List.map Qf)) zY rfl rfl zY hx (re 1 zf)))) (fun hm=>Qk zf)) (fun d=>gr 2 (QH Qf p0 (re 1 (ri hm (fun hm=>R_G (Qd 3 (QV 1 Qf hm fun v604 hm=>Qd 2 (bi hm fun v605 hx hm=>Y9 3 1 8 0 Qf v602 ([v604]:List Int) v605 (xs:=(List.map Qf) v602) (es:=(List.map Qf) ([v604]:List Int)) (L:=(List.map Qf)) zY rfl rfl zY hx (re 1 (R_G (re 3 (Qa5 _ _ hm _ kr)))))))) (fun hm=>Qk (R_G (re 3 (Qa5 _ _ hm _ kr)))))))))))))) (fun hm=>QE zf))))))
def Jo (x:((List Int) × Int × Int)):Option (List Int) :=
 match x with
 | (p0,p1,p2) =>
 Zb (p0,p1,p2,([]:List Int),0)>>=fun v601 =>
 some v601
theorem Qd5 {p0 p1 p2 r0} (hm:Jo (p0,p1,p2)=some r0):FQ 113 [(Lb p0),(Qf p1),(Qf p2)] (La r0):=by
 unfold Jo at hm;exact fp (fn:=f113) rfl (ge 1 (ge 1 (Qi (ge 1 (Qn (ru1 hm (Qa5 _) fun v601 d hm=>ge 2 (Qj zf)))))))
def Zn (x:((List Int) × Int × (List Int) × Int)):Option ((List Int)) :=
 match x with
 | (p0,p1,v201,v202) =>
 if v202 < (p0.length:Int) then
  if v202≠p1 then
   idx p0 v202>>=fun v602 =>
   app 8 v201 ([v602]:List Int)>>=fun v603 =>
   Zn (p0,p1,v603,(W (v202+1)))
  else
  Zn (p0,p1,v201,(W (v202+1)))
 else
 some v201
 partial_fixpoint
theorem Qa6:∀ x r,Zn x=some r→match x with|(p0,p1,v201,v202)=>LQ f155 155 [1,1,0,1,0,0] 1 ⟨kp 24 [(0,(La p0)),(1,(Qe p1)),(5,(QdV v201)),(6,(Qe v202))],[(.tok 3 v201.length)]⟩ (P1 (.exit 0) (fun v601 d=>⟨sl d 24 [(5,(QdV v601))],[(.tok 3 v601.length)]⟩) r):=by
 refine Zn.partial_correctness _ (fun Zn Qa6 x r hm=>?_);obtain ⟨p0,p1,v201,v202⟩:=x;exact lp (Qi (gr 2 (QH Qf p0 (re 1 (ri hm (fun hm=>Qk (Qi (Qn (ge 3 (rix hm (fun hm=>R_G (Qd 3 (QV 1 Qf hm fun v602 hm=>Qd 2 (bi hm fun v603 hx hm=>Y9 3 1 8 0 Qf v201 ([v602]:List Int) v603 (xs:=(List.map Qf) v201) (es:=(List.map Qf) ([v602]:List Int)) (L:=(List.map Qf)) zY rfl rfl zY hx (re 1 (R_G (re 3 (Qa6 _ _ hm _ kr)))))))) (fun hm=>Qk (R_G (re 3 (Qa6 _ _ hm _ kr))))))))) (fun hm=>QE zf))))))
def Qbf (x:((List Int) × Int)):Option (List Int) :=
 match x with
 | (p0,p1) =>
 Zn (p0,p1,([]:List Int),0)>>=fun v601 =>
 some v601
theorem Qhn {p0 p1 r0} (hm:Qbf (p0,p1)=some r0):FQ 155 [(Lb p0),(Qf p1)] (La r0):=by
 unfold Qbf at hm;exact fp (fn:=f155) rfl (ge 1 (ge 1 (Qi (ge 1 (Qn (ru1 hm (Qa6 _) fun v601 d hm=>ge 2 (Qj zf)))))))
def Qah (x:((List Int) × Int × Int)):Option (List Int) :=
 match x with
 | (p0,p1,p2) =>
 Qbf (p0,p1)>>=fun v1 =>
 Jo (v1,p1,p2)>>=fun v2 =>
 some v2
theorem QfJ {p0 p1 p2 r0} (hm:Qah (p0,p1,p2)=some r0):FQ 114 [(Lb p0),(Qf p1),(Qf p2)] (La r0):=by
 unfold Qah at hm;exact fp (fn:=f114) rfl (ge 1 (gr 2 (bi hm fun v1 hx hm=>cp (Qhn hx) (Qd 2 (bi hm fun v2 hx hm=>cp (Qd5 hx) (re 1 (Qj zf)))))))
def Zc (x:((List Int) × (List Int) × Int × (List Int) × (List Int) × Int)):Option (Unit ⊕ Unit) :=
 match x with
 | (p1,p2,v1,v7,v9,v211) =>
 if v211 < (max (max (p1.length:Int) (p2.length:Int)) 1) then
  (if v211≠v1 then
   idx v7 v211>>=fun v612 =>
   idx v9 v211>>=fun v613 =>
   some (v612 != v613)
  else
  some false
  )>>=fun (v611:Bool) =>
  if v611=true then
   some (Sum.inl ())
  else
  Zc (p1,p2,v1,v7,v9,(W (v211+1)))
 else
 some (Sum.inr ())
 partial_fixpoint
theorem QbK:∀ x r,Zc x=some r→match x with|(p1,p2,v1,v7,v9,v211)=>LQ f63 63 [1,1,1,1,1,1,1,1,1,1,1,0,1,0,0] 1 ⟨kp 114 [(0,(Qe v1)),(6,(.ptr 0 0)),(8,(Qe (max (max (p1.length:Int) (p2.length:Int)) 1))),(10,(La v7)),(11,(La v9)),(12,(Qe v211))],[Qu]⟩ (P2 .ret (fun _ d=>⟨sl d 114 [(6,(.ptr 0 0)),(7,(Qe 5))],[Qu]⟩) (.exit 0) (fun _ d=>⟨sl d 114 [(0,(Qe v1)),(6,(.ptr 0 0)),(10,(La v7)),(11,(La v9))],[Qu]⟩) r):=by
 refine Zc.partial_correctness _ (fun Zc QbK x r hm=>?_);obtain ⟨p1,p2,v1,v7,v9,v211⟩:=x;exact lp (Qi (ge 3 (ri hm (fun hm=>Qk (Qi (Qn (Qi (bi hm fun v611 hs hm=>QY (fun d=>⟨sl d 114 [(0,(Qe v1)),(6,(.ptr 0 0)),(8,(Qe (max (max (p1.length:Int) (p2.length:Int)) 1))),(10,(La v7)),(11,(La v9)),(12,(Qe v211)),(91,(Qm v611))],[Qu]⟩) (have hm:=hs;Yv (Qd 4 (gsx 81 hm (fun hm=>Qd 2 (QV 1 Qf hm fun v612 hm=>Qd 3 (QV 1 Qf hm fun v613 hm=>re 3 ⟨kr,zf⟩))) (fun hm=>re 10 ⟨kr,zf⟩)))) (fun d=>rib hm (fun hm=>ge 3 (Qj zf)) (fun hm=>Qk (R_G (re 3 (QbK _ _ hm _ kr)))))))))) (fun hm=>QE zf))))
def Ji (x:(Int × (List Int) × (List Int))):Option (Qw × Int) :=
 match x with
 | (p0,p1,p2) =>
 if p0≥(max (max (p1.length:Int) (p2.length:Int)) 1) then
  some ((⟨([]:(List Int)),([]:(List Int)),([]:(List Int)),([]:(List Int)),0,0,([]:(List Int))⟩:Qw),4)
 else
 (if p0 < 0 then
  some (W ((max (max (p1.length:Int) (p2.length:Int)) 1) - 1))
 else
 some p0
 )>>=fun (v1:Int) =>
 (if (if (p2.length:Int) < (p1.length:Int) then (p2.length:Int) else (p1.length:Int)) < (W ((max (max (p1.length:Int) (p2.length:Int)) 1) - 1)) then
  some (decide ((if (p2.length:Int) < (p1.length:Int) then (p2.length:Int) else (p1.length:Int)) > 0))
 else
 some false
 )>>=fun (v2:Bool) =>
 if v2=true then
  some ((⟨([]:(List Int)),([]:(List Int)),([]:(List Int)),([]:(List Int)),0,0,([]:(List Int))⟩:Qw),4)
 else
 (if (p1.length:Int)=(W ((max (max (p1.length:Int) (p2.length:Int)) 1) - 1)) then
  Jo (p1,v1,1)>>=fun v4 =>
  some v4
 else
 some p1
 )>>=fun (v3:(List Int)) =>
 (if (p2.length:Int)=(W ((max (max (p1.length:Int) (p2.length:Int)) 1) - 1)) then
  Jo (p2,v1,1)>>=fun v6 =>
  some v6
 else
 some p2
 )>>=fun (v5:(List Int)) =>
 (if (v3.length:Int) < (max (max (p1.length:Int) (p2.length:Int)) 1) then
  Qah (v5,v1,1)>>=fun v8 =>
  some v8
 else
 some v3
 )>>=fun (v7:(List Int)) =>
 (if (v5.length:Int) < (max (max (p1.length:Int) (p2.length:Int)) 1) then
  Qah (v7,v1,1)>>=fun v10 =>
  some v10
 else
 some v5
 )>>=fun (v9:(List Int)) =>
 (
 Zc (p1,p2,v1,v7,v9,0)>>=fun out =>
 match out with
 | .inl _ =>
  some ((⟨([]:(List Int)),([]:(List Int)),([]:(List Int)),([]:(List Int)),0,0,([]:(List Int))⟩:Qw),5)
 | .inr (_) =>
  idx v7 v1>>=fun v614 =>
  idx v9 v1>>=fun v615 =>
  Qah (v7,v1,(W (v614+v615)))>>=fun v616 =>
  Yr v616>>=fun v617 =>
  if v617≠0 then
   some ((⟨([]:(List Int)),([]:(List Int)),([]:(List Int)),([]:(List Int)),0,0,([]:(List Int))⟩:Qw),7)
  else
  some ((⟨v7,v9,v616,([]:(List Int)),v1,0,([]:(List Int))⟩:Qw),0)
 )
theorem QgK {p0 p1 p2 r0 r1} (hm:Ji (p0,p1,p2)=some (r0,r1)):FQ 63 [(Qf p0),(Lb p1),(Lb p2)] (.tup [(.dat (Qw.toD r0)),(Qe r1)]):=by
 unfold Ji at hm
 exact fp (fn:=f63) rfl (ge 2 (gr 1 (QH Qf p1 (Qd 1 (QH Qf p2 (QG rfl (fun _=>Qi7 (k:=.i64) (m:=(p1.length:Int)) (n:=(p2.length:Int)) (q:=1) rfl kr kr kr) (re 1 (Qi (ge 3 (ri hm (fun hm=>ge 3 (Qj zf)) (fun hm=>Qk (Qi (ge 2 (bi hm fun v1 hs hm=>QY (fun d=>⟨sl d 114 [(0,(Qe v1)),(1,(La p1)),(2,(La p2)),(6,(.ptr 0 0)),(8,(Qe (max (max (p1.length:Int) (p2.length:Int)) 1)))],[Qu]⟩) (have hm:=hs;ri hm (fun hm=>R_G (re 3 zf)) (fun hm=>Qk zf)) (fun d=>gr 1 (QH Qf p1 (Qd 1 (QH Qf p2 (QG rfl (fun _=>QiX (k:=.i64) (m:=(p1.length:Int)) (n:=(p2.length:Int)) rfl kr kr) (re 1 (Qi (Qi (bi hm fun v2 hs hm=>QY (fun d=>⟨sl d 114 [(0,(Qe v1)),(1,(La p1)),(2,(La p2)),(6,(.ptr 0 0)),(8,(Qe (max (max (p1.length:Int) (p2.length:Int)) 1))),(39,(Qm v2))],[Qu]⟩) (have hm:=hs;R_G (Qd 5 (gs 36 hm (fun hm=>re 3 zf) (fun hm=>re 3 zf)))) (fun d=>rib hm (fun hm=>ge 3 (Qj zf)) (fun hm=>Qk (ge 4 (Qi (gr 1 (QH Qf p1 (re 3 (bi hm fun v3 hs hm=>QY (fun d=>⟨sl d 114 [(0,(Qe v1)),(2,(La p2)),(6,(.ptr 0 0)),(8,(Qe (max (max (p1.length:Int) (p2.length:Int)) 1))),(10,(La v3)),(11,(La p2))],[Qu]⟩) (have hm:=hs;riq hm (fun hm=>R_G (Qd 2 (bi hm fun v4 hx hm=>cp (Qd5 hx) (re 1 zf)))) (fun hm=>Qk zf)) (fun d=>Qi (gr 1 (QH Qf p2 (re 3 (bi hm fun v5 hs hm=>QY (fun d=>⟨sl d 114 [(0,(Qe v1)),(6,(.ptr 0 0)),(8,(Qe (max (max (p1.length:Int) (p2.length:Int)) 1))),(10,(La v3)),(11,(La v5))],[Qu]⟩) (have hm:=hs;riq hm (fun hm=>R_G (Qd 2 (bi hm fun v6 hx hm=>cp (Qd5 hx) (re 1 zf)))) (fun hm=>Qk zf)) (fun d=>Qi (gr 1 (QH Qf v3 (re 2 (bi hm fun v7 hs hm=>QY (fun d=>⟨sl d 114 [(0,(Qe v1)),(6,(.ptr 0 0)),(8,(Qe (max (max (p1.length:Int) (p2.length:Int)) 1))),(10,(La v7)),(11,(La v5))],[Qu]⟩) (have hm:=hs;ri hm (fun hm=>R_G (Qd 2 (bi hm fun v8 hx hm=>cp (QfJ hx) (re 1 zf)))) (fun hm=>Qk zf)) (fun d=>Qi (gr 1 (QH Qf v5 (re 2 (bi hm fun v9 hs hm=>QY (fun d=>⟨sl d 114 [(0,(Qe v1)),(6,(.ptr 0 0)),(8,(Qe (max (max (p1.length:Int) (p2.length:Int)) 1))),(10,(La v7)),(11,(La v9))],[Qu]⟩) (have hm:=hs;ri hm (fun hm=>R_G (Qd 2 (bi hm fun v10 hx hm=>cp (QfJ hx) (re 1 zf)))) (fun hm=>Qk zf)) (fun d=>Qi (ge 1 (Qn (ru2 hm (QbK _) (fun _ d hm=>zf) fun _ d hm=>Qi (Yv (Qd 4 (QV 1 Qf hm fun v614 hm=>Qd 3 (QV 1 Qf hm fun v615 hm=>Qd 2 (bi hm fun v616 hx hm=>cp (QfJ hx) (re 1 ⟨kr,Qi (gr 1 (bi hm fun v617 hx hm=>cp (JV hx) (re 1 (rix hm (fun hm=>ge 3 (Qj zf)) (fun hm=>Qk (ge 7 (Qj zf)))))))⟩))))))))))))))))))))))))))))))))))))))))))))))))))))))))
def Zg (x:((List Qg) × (List Ql) × Qc)):Option (Qa × (List Ql) × Int) :=
 match x with
 | (p0,p1,p2) =>
 if p2.kind≤2 then
  X7 (p0,p1,p2)>>=fun (v1,v2,v3) =>
  some (v1,v2,v3)
 else
 idx p2.kids (W ((p2.kids.length:Int) - 1))>>=fun v4 =>
 Zg (p0,p1,v4)>>=fun (v5,v6,v7) =>
 if v7≠0 then
  some ((⟨0,([]:(List Int)),0,([]:(List Int)),0,0,([]:(List Int)),([]:(List Qa))⟩:Qa),([]:(List Ql)),v7)
 else
 (if p2.kind=3 then
  some true
 else
 some (p2.fn != 6)
 )>>=fun (v8:Bool) =>
 if v8=true then
  XG (p0,(⟨p2.kind,p2.fn,p2.axis,p2.name,p2.nums,p2.kids⟩:Qc),(⟨v5.kind,v5.shape,v5.buffer,v5.starts,v5.axis,v5.amount,v5.perm,v5.kids⟩:Qa))>>=fun (v9,v10) =>
  some (v9,v6,v10)
 else
 idx p2.kids 0>>=fun v11 =>
 Zg (p0,v6,v11)>>=fun (v12,v13,v14) =>
 if v14≠0 then
  some ((⟨0,([]:(List Int)),0,([]:(List Int)),0,0,([]:(List Int)),([]:(List Qa))⟩:Qa),([]:(List Ql)),v14)
 else
 Ji (p2.axis,v12.shape,v5.shape)>>=fun (v15,v16) =>
 if v16≠0 then
  some ((⟨0,([]:(List Int)),0,([]:(List Int)),0,0,([]:(List Int)),([]:(List Qa))⟩:Qa),([]:(List Ql)),v16)
 else
 Zt ((⟨v12.kind,v12.shape,v12.buffer,v12.starts,v12.axis,v12.amount,v12.perm,v12.kids⟩:Qa),v15.left)>>=fun v17 =>
 Zt ((⟨v5.kind,v5.shape,v5.buffer,v5.starts,v5.axis,v5.amount,v5.perm,v5.kids⟩:Qa),v15.right)>>=fun v18 =>
 some ((⟨7,v15.shape,0,([]:(List Int)),v15.axis,0,([]:(List Int)),([(⟨v17.kind,v17.shape,v17.buffer,v17.starts,v17.axis,v17.amount,v17.perm,v17.kids⟩:Qa),(⟨v18.kind,v18.shape,v18.buffer,v18.starts,v18.axis,v18.amount,v18.perm,v18.kids⟩:Qa)]:(List Qa))⟩:Qa),v13,0)
 partial_fixpoint
def QdM:((List Qg) × (List Ql) × Qc)→(Qa × (List Ql) × Int)→Prop:=fun x r=>match x,r with
 | (p0,p1,p2),(r0,r1,r2)=>∀ H,PC prog env 29 ([(.lst ((List.map Qg.toD) p0)),(.lst ((List.map Ql.toD) p1)),(Qc.ex p2)].map .dat) H (.tup [(.dat (Qa.ex r0)),(QaB r1),(Qe r2)]) H
theorem g_ref15_expr:(∀ x r,Zg x=some r→QdM x r):=by
 refine Zg.partial_correctness QdM ?_
 ·intro Zg QdP x r hm;unfold QdM;obtain ⟨p0,p1,p2⟩:=x;obtain ⟨r0,r1,r2⟩:=r;intro H;refine PC_sx (ds:=[(.lst ((List.map Qg.toD) p0)),(.lst ((List.map Ql.toD) p1)),(Qc.ex p2)]) (fn:=f29) rfl ?_
  exact ge 4 (Qi (ge 3 (ri hm (fun hm=>gr 3 (bi3 hm fun v1 v2 v3 hx hm=>cp (Qh0 hx) (re 6 (Qj zf)))) (fun hm=>Qk (gr 6 (Qae Qc.toD p2.kids (es:=Qc.toDs p2.kids) (Qc.toDs_eq _) (Qd 1 (bi hm fun v4 hx hm=>XA 6 Qc.toD p2.kids (W ((p2.kids.length:Int) - 1)) v4 (es:=Qc.toDs p2.kids) (d:=(Qc.ex v4)) (Qc.toDs_eq _) hx (Qc.toD_eq v4) rfl (Qd 1 (bi3 hm fun v5 v6 v7 hx hm=>ZL (QdP _ _ hx []) (re 8 (Qi (ge 2 (rix hm (fun hm=>ge 5 (Qj zf)) (fun hm=>Qk (Qi (Qi (bi hm fun v8 hs hm=>QY (fun d=>⟨sl d 106 [(0,(Xs p0)),(1,(QaB v6)),(5,(.ptr 0 0)),(6,(.ptr 1 0)),(9,(.ptr 2 0)),(51,(Qm v8))],[(QU p2.kind p2.fn p2.axis p2.name p2.nums p2.kids),Xa,(QX v5.kind v5.shape v5.buffer v5.starts v5.axis v5.amount v5.perm v5.kids)]⟩) (have hm:=hs;R_G (Qd 4 (gsq 47 hm (fun hm=>re 4 zf) (fun hm=>re 4 zf)))) (fun d=>rib hm (fun hm=>gr 3 (bi2 hm fun v9 v10 hx hm=>cp (QiE hx) (re 6 (ge 6 (Qj zf))))) (fun hm=>Qk (gr 4 (bi hm fun v11 hx hm=>XA 6 Qc.toD p2.kids 0 v11 (es:=Qc.toDs p2.kids) (d:=(Qc.ex v11)) (Qc.toDs_eq _) hx (Qc.toD_eq v11) rfl (Qd 1 (bi3 hm fun v12 v13 v14 hx hm=>ZL (QdP _ _ hx []) (re 8 (Qi (ge 2 (rix hm (fun hm=>ge 5 (Qj zf)) (fun hm=>Qk (gr 6 (bi2 hm fun v15 v16 hx hm=>cp (QgK hx) (re 6 (Qi (ge 2 (rix hm (fun hm=>ge 5 (Qj zf)) (fun hm=>Qk (Qi (Yv (Qd 7 (bi hm fun v17 hx hm=>cp (JN hx) (Qd 3 (bi hm fun v18 hx hm=>cp (JN hx) (re 6 ⟨kr,Qj zf⟩)))))))))))))))))))))))))))))))))))))))))))
theorem QdP:∀ x r,Zg x=some r→QdM x r:=g_ref15_expr
def JI (x:((List Qg) × Qc)):Option (QA × Int) :=
 match x with
 | (p0,p1) =>
 Zg (p0,([]:(List Ql)),(⟨p1.kind,p1.fn,p1.axis,p1.name,p1.nums,p1.kids⟩:Qc))>>=fun (v1,v2,v3) =>
 if v3≠0 then
  some ((⟨(⟨0,([]:(List Int)),0,([]:(List Int)),0,0,([]:(List Int)),([]:(List Qa))⟩:Qa),([]:(List Ql))⟩:QA),v3)
 else
 some ((⟨v1,v2⟩:QA),0)
theorem QgG {p0 p1 r0 r1} (hm:JI (p0,p1)=some (r0,r1)):FQ 9 [(.lst ((List.map Qg.toD) p0)),(Qc.ex p1)] (.tup [(.dat (QA.toD r0)),(Qe r1)]):=by
 unfold JI at hm;exact fp (fn:=f9) rfl (ge 3 (gr 2 (bi3 hm fun v1 v2 v3 hx hm=>ZL (QdP _ _ hx []) (re 8 (Qi (ge 2 (rix hm (fun hm=>ge 4 (Qj zf)) (fun hm=>Qk (ge 5 (Qj zf))))))))))
def YL (x:(QA × (List (List Int)) × Int)):Option ((List (List Int))) :=
 match x with
 | (p0,v201,v202) =>
 if v202 < (p0.sources.length:Int) then
  idx p0.sources v202>>=fun v602 =>
  app 24 v201 ([v602.value.shape]:List (List Int))>>=fun v603 =>
  YL (p0,v603,(W (v202+1)))
 else
 some v201
 partial_fixpoint
theorem QcJ:∀ x r,YL x=some r→match x with|(p0,v201,v202)=>LQ f66 66 [1,1,0,1,0,0] 2 ⟨kp 23 [(1,(.ptr 0 0)),(3,(.vec 1 ((List.map (fun l=>Dat.lst ((List.map Qf) l))) v201))),(4,(Qe v202))],[(QeW p0.core.kind p0.core.shape p0.core.buffer p0.core.starts p0.core.axis p0.core.amount p0.core.perm p0.core.kids p0.sources),(.tok 32 v201.length)]⟩ (P1 (.exit 0) (fun v601 d=>⟨sl d 23 [(3,(.vec 1 ((List.map (fun l=>Dat.lst ((List.map Qf) l))) v601)))],[(QeW p0.core.kind p0.core.shape p0.core.buffer p0.core.starts p0.core.axis p0.core.amount p0.core.perm p0.core.kids p0.sources),(.tok 32 v601.length)]⟩) r):=by
 refine YL.partial_correctness _ (fun YL QcJ x r hm=>?_);obtain ⟨p0,v201,v202⟩:=x;exact lp (Qi (gr 3 (QH Ql.toD p0.sources (re 1 (ri hm (fun hm=>Qk (Qi (Qn (R_G (Qd 4 (QV 3 Ql.toD hm fun v602 hm=>Qd 4 (bi hm fun v603 hx hm=>Y9 32 1 24 1 (fun l=>Dat.lst ((List.map Qf) l)) v201 ([v602.value.shape]:List (List Int)) v603 (xs:=(List.map (fun l=>Dat.lst ((List.map Qf) l))) v201) (es:=(List.map (fun l=>Dat.lst ((List.map Qf) l))) ([v602.value.shape]:List (List Int))) (L:=(List.map (fun l=>Dat.lst ((List.map Qf) l)))) zY rfl rfl zY hx (re 1 (R_G (re 3 (QcJ _ _ hm _ kr))))))))))) (fun hm=>QE zf))))))
def Qbh (x:QA):Option (List (List Int)) :=
 match x with
 | p0 =>
 YL (p0,([]:List (List Int)),0)>>=fun v601 =>
 some v601
theorem Qhq {p0 r0} (hm:Qbh p0=some r0):FQ 66 [(QA.toD p0)] (ZI r0):=by
 unfold Qbh at hm;exact fp (fn:=f66) rfl (ge 2 (ge 1 (Qi (ge 1 (Qn (ru1 hm (QcJ _) fun v601 d hm=>ge 2 (Qj zf)))))))
mutual
def Yu (x:(Qa × Int × Int)):Option (Int) :=
 match x with
 | (p0,v203,v204) =>
 (if v204 < (p0.kids.length:Int) then
  some (decide (v203≥0))
 else
 some false
 )>>=fun (v604:Bool) =>
 if v604=true then
  idx p0.kids v204>>=fun v605 =>
  Qap (v605,v203)>>=fun v606 =>
  Yu (p0,v606,(W (v204+1)))
 else
 some v203
 partial_fixpoint
def Qap (x:(Qa × Int)):Option Int :=
 match x with
 | (p0,p1) =>
 ((if (p0.shape.length:Int) > 40 then
  some true
 else
 some (decide ((p0.starts.length:Int) > 40))
 )>>=fun (v2:Bool) =>
 if v2=true then
  some true
 else
 some (decide ((p0.perm.length:Int) > 40))
 )>>=fun (v1:Bool) =>
 if v1=true then
  some (-1)
 else
 Yu (p0,(W (p1 - 1)),0)>>=fun v603 =>
 some v603
 partial_fixpoint
end
def Qb0:(Qa × Int × Int)→(Int)→Prop:=fun x r=>match x with
 | (p0,v203,v204)=>LQ f156 156 [1,1,1,0,1,0,0] 1 ⟨kp 43 [(1,(Qe v203)),(2,(.ptr 0 0)),(5,(Qe v204))],(QK p0.kind p0.shape p0.buffer p0.starts p0.axis p0.amount p0.perm p0.kids)⟩ (P1 (.exit 0) (fun v603 d=>⟨sl d 43 [(1,(Qe v603))],(QK p0.kind p0.shape p0.buffer p0.starts p0.axis p0.amount p0.perm p0.kids)⟩) r)
def QdL:(Qa × Int)→Int→Prop:=fun x r=>match x,r with
 | (p0,p1),r0=>∀ H,PC prog env 156 ([(Qa.ex p0),(Qf p1)].map .dat) H (Qe r0) H
theorem g_ref14_left_L1:(∀ x r,Yu x=some r→Qb0 x r)∧(∀ x r,Qap x=some r→QdL x r):=by
 refine Yu.mutual_partial_correctness Qb0 QdL ?_ ?_
 ·intro Yu Qap Qb6 Qff x r hm;unfold Qb0;obtain ⟨p0,v203,v204⟩:=x;exact lp (Qi (Qi (bi hm fun v604 hs hm=>QY (fun d=>⟨sl d 43 [(1,(Qe v203)),(2,(.ptr 0 0)),(5,(Qe v204)),(32,(Qm v604))],(QK p0.kind p0.shape p0.buffer p0.starts p0.axis p0.amount p0.perm p0.kids)⟩) (have hm:=hs;R_G (Qd 3 (Qae Qa.toD p0.kids (es:=Qa.toDs p0.kids) (Qa.toDs_eq _) (Qd 2 (gs 29 hm (fun hm=>re 3 zf) (fun hm=>re 3 zf)))))) (fun d=>rib hm (fun hm=>Qk (Qi (Qn (R_G (Qd 3 (bi hm fun v605 hx hm=>XA 8 Qa.toD p0.kids v204 v605 (es:=Qa.toDs p0.kids) (d:=(Qa.ex v605)) (Qa.toDs_eq _) hx (Qa.toD_eq v605) rfl (Qd 2 (bi hm fun v606 hx hm=>ZL (Qff _ _ hx []) (re 1 (R_G (re 3 (Qb6 _ _ hm _ kr)))))))))))) (fun hm=>QE zf)))))
 ·intro Yu Qb6 x r0 hm;unfold QdL;obtain ⟨p0,p1⟩:=x;intro H;refine PC_sx (ds:=[(Qa.ex p0),(Qf p1)]) (fn:=f156) rfl ?_;exact ge 2 (ge 3 (Qi (Qi (bi hm fun v1 hs hm=>QY (fun d=>⟨sl d 43 [(1,(Qe (W (p1 - 1)))),(2,(.ptr 0 0)),(23,(Qm v1))],(QK p0.kind p0.shape p0.buffer p0.starts p0.axis p0.amount p0.perm p0.kids)⟩) (have hm:=hs;Qdg (Qd 2 (QH Qf p0.shape (Qd 2 (bi hm fun v2 hs hm=>ZH (j:=10) (fun d=>⟨sl d 43 [(1,(Qe (W (p1 - 1)))),(2,(.ptr 0 0)),(17,(Qm v2))],(QK p0.kind p0.shape p0.buffer p0.starts p0.axis p0.amount p0.perm p0.kids)⟩) (fun d=>Qd 1 (gsb 18 hm (fun hm=>re 5 ⟨kr,zf⟩) (fun hm=>Qd 2 (QH Qf p0.perm (re 2 ⟨kr,zf⟩))))) (fun hJ=>gs 12 hs (fun hm=>Qd 5 zf) (fun hm=>Qd 2 (QH Qf p0.starts (Qd 2 zf))))))))) (fun d=>rib hm (fun hm=>ge 1 (Qj zf)) (fun hm=>Qk (Qi (ge 1 (Qn (ru1 hm (Qb6 _) fun v603 d hm=>ge 2 (Qj zf)))))))))))
theorem Qb6:∀ x r,Yu x=some r→Qb0 x r:=g_ref14_left_L1.1
theorem Qff:∀ x r,Qap x=some r→QdL x r:=g_ref14_left_L1.2
def Qdp (x:(Qa × Int)):Option Bool :=
 match x with
 | (p0,p1) =>
 Qap (p0,p1)>>=fun v1 =>
 some (decide (v1≥0))
theorem QiD {p0 p1 r0} (hm:Qdp (p0,p1)=some r0):FQ 115 [(Qa.ex p0),(Qf p1)] (Qm r0):=by
 unfold Qdp at hm;exact fp (fn:=f115) rfl (ge 2 (gr 2 (bi hm fun v1 hx hm=>ZL (Qff _ _ hx []) (re 2 (Qj zf)))))
mutual
def Z5 (x:(Qa × Int × Int)):Option (Int) :=
 match x with
 | (p0,v201,v202) =>
 if v202 < (p0.kids.length:Int) then
  idx p0.kids v202>>=fun v602 =>
  JS v602>>=fun v603 =>
  Z5 (p0,(if v201 < v603 then v603 else v201),(W (v202+1)))
 else
 some v201
 partial_fixpoint
def JS (x:Qa):Option Int :=
 match x with
 | p0 =>
 Z5 (p0,0,0)>>=fun v601 =>
 some (W (v601+1))
 partial_fixpoint
end
def Qbt:(Qa × Int × Int)→(Int)→Prop:=fun x r=>match x with
 | (p0,v201,v202)=>LQ f157 157 [1,1,0,1,0,0] 1 ⟨kp 22 [(1,(.ptr 0 0)),(3,(Qe v201)),(4,(Qe v202))],(QK p0.kind p0.shape p0.buffer p0.starts p0.axis p0.amount p0.perm p0.kids)⟩ (P1 (.exit 0) (fun v601 d=>⟨sl d 22 [(3,(Qe v601))],(QK p0.kind p0.shape p0.buffer p0.starts p0.axis p0.amount p0.perm p0.kids)⟩) r)
def Qc2:Qa→Int→Prop:=fun x r=>match x,r with
 | p0,r0=>∀ H,PC prog env 157 ([(Qa.ex p0)].map .dat) H (Qe r0) H
theorem g_ref14_Depth_L1:(∀ x r,Z5 x=some r→Qbt x r)∧(∀ x r,JS x=some r→Qc2 x r):=by
 refine Z5.mutual_partial_correctness Qbt Qc2 ?_ ?_
 ·intro Z5 JS QbH QeH x r hm;unfold Qbt;obtain ⟨p0,v201,v202⟩:=x;exact lp (Qi (gr 3 (Qae Qa.toD p0.kids (es:=Qa.toDs p0.kids) (Qa.toDs_eq _) (re 1 (ri hm (fun hm=>Qk (Qi (Qn (R_G (Qd 4 (bi hm fun v602 hx hm=>XA 8 Qa.toD p0.kids v202 v602 (es:=Qa.toDs p0.kids) (d:=(Qa.ex v602)) (Qa.toDs_eq _) hx (Qa.toD_eq v602) rfl (Qd 1 (bi hm fun v603 hx hm=>ZL (QeH _ _ hx []) (QG rfl (fun _=>QgZ (k:=.i64) (m:=v201) (n:=v603) rfl kr kr) (re 1 (R_G (re 3 (QbH _ _ hm _ kr))))))))))))) (fun hm=>QE zf))))))
 ·intro Z5 QbH p0 r0 hm;unfold Qc2;intro H;refine PC_sx (ds:=[(Qa.ex p0)]) (fn:=f157) rfl ?_;exact ge 2 (ge 1 (Qi (ge 1 (Qn (ru1 hm (QbH _) fun v601 d hm=>ge 3 (Qj zf))))))
theorem QbH:∀ x r,Z5 x=some r→Qbt x r:=g_ref14_Depth_L1.1
theorem QeH:∀ x r,JS x=some r→Qc2 x r:=g_ref14_Depth_L1.2
def QaO (x:Qa):Option Bool :=
 match x with
 | p0 =>
 idx p0.kids 0>>=fun v1 =>
 ZP (v1.shape,p0.shape)>>=fun v2 =>
 (if v2=true then
  some (decide (p0.axis≥0))
 else
 some false
 )>>=fun (v3:Bool) =>
 if v3=true then
  some (decide (p0.axis < (p0.shape.length:Int)))
 else
 some false
theorem Qf6 {p0 r0} (hm:QaO p0=some r0):FQ 203 [(Qa.ex p0)] (Qm r0):=by
 unfold QaO at hm;exact fp (fn:=f203) rfl (ge 2 (Qi (Qjm (Qd 2 (bi hm fun v1 hx hm=>XA 8 Qa.toD p0.kids 0 v1 (es:=Qa.toDs p0.kids) (d:=(Qa.ex v1)) (Qa.toDs_eq _) hx (Qa.toD_eq v1) rfl (Qd 4 (bi hm fun v2 hx hm=>cp (Jg hx) (Qd 1 (bi hm fun v3 hs hm=>ZH (j:=13) (fun d=>⟨sl d 24 [(1,(.ptr 0 0)),(2,(Qm false)),(15,(Qm v3))],(QK p0.kind p0.shape p0.buffer p0.starts p0.axis p0.amount p0.perm p0.kids)⟩) (fun d=>Qd 1 (gsb 16 hm (fun hm=>Qd 4 (QH Qf p0.shape (re 3 ⟨kr,Qj zf⟩))) (fun hm=>re 8 ⟨kr,Qj zf⟩))) (fun hJ=>gsb 11 hs (fun hm=>Qd 4 zf) (fun hm=>Qd 4 zf)))))))))))
def Zr (x:(Qa × Qa × Int)):Option (Unit ⊕ Unit) :=
 match x with
 | (v1,p0,v202) =>
 if v202 < (v1.shape.length:Int) then
  (idx p0.perm v202>>=fun v603 =>
  if v603 < 0 then
   some true
  else
  idx p0.perm v202>>=fun v604 =>
  some (decide (v604≥(p0.shape.length:Int)))
  )>>=fun (v602:Bool) =>
  if v602=true then
   some (Sum.inl ())
  else
  Zr (v1,p0,(W (v202+1)))
 else
 some (Sum.inr ())
 partial_fixpoint
theorem QaU:∀ x r,Zr x=some r→match x with|(v1,p0,v202)=>LQ f204 204 [1,1,1,0,1,0,0] 1 ⟨kp 85 [(1,(.ptr 0 0)),(3,(La v1.shape)),(4,(Qe v202))],(QK p0.kind p0.shape p0.buffer p0.starts p0.axis p0.amount p0.perm p0.kids)⟩ (P2 .ret (fun _ d=>⟨sl d 85 [(2,(Qm false))],(QK p0.kind p0.shape p0.buffer p0.starts p0.axis p0.amount p0.perm p0.kids)⟩) (.exit 0) (fun _ d=>⟨sl d 85 [(1,(.ptr 0 0)),(3,(La v1.shape))],(QK p0.kind p0.shape p0.buffer p0.starts p0.axis p0.amount p0.perm p0.kids)⟩) r):=by
 refine Zr.partial_correctness _ (fun Zr QaU x r hm=>?_);obtain ⟨v1,p0,v202⟩:=x;exact lp (Qi (gr 2 (QH Qf v1.shape (re 1 (ri hm (fun hm=>Qk (Qi (Qn (Qi (bi hm fun v602 hs hm=>QY (fun d=>⟨sl d 85 [(1,(.ptr 0 0)),(3,(La v1.shape)),(4,(Qe v202)),(41,(Qm v602))],(QK p0.kind p0.shape p0.buffer p0.starts p0.axis p0.amount p0.perm p0.kids)⟩) (have hm:=hs;Yv (Qd 3 (QV 1 Qf hm fun v603 hm=>Qd 3 (gs 31 hm (fun hm=>re 10 ⟨kr,zf⟩) (fun hm=>Qd 3 (QV 1 Qf hm fun v604 hm=>Qd 3 (QH Qf p0.shape (re 2 ⟨kr,zf⟩)))))))) (fun d=>rib hm (fun hm=>ge 1 (Qj zf)) (fun hm=>Qk (R_G (re 3 (QaU _ _ hm _ kr)))))))))) (fun hm=>QE zf))))))
def Za (x:(Qa × Qa × Int × Int × Int)):Option (Int) :=
 match x with
 | (v1,p0,v805,v1405,v1406) =>
 if v1406 < (v1.shape.length:Int) then
  (idx p0.perm v1406>>=fun v1807 =>
  if v1807=v805 then
   if v1405 < 0 then
    some true
   else
   idx v1.shape v1406>>=fun v1808 =>
   some (decide (v1808 < v1405))
  else
  some false
  )>>=fun (v1806:Bool) =>
  if v1806=true then
   idx v1.shape v1406>>=fun v1809 =>
   Za (v1,p0,v805,v1809,(W (v1406+1)))
  else
  Za (v1,p0,v805,v1405,(W (v1406+1)))
 else
 some v1405
 partial_fixpoint
theorem Jx:∀ x r,Za x=some r→match x with|(v1,p0,v805,v1405,v1406)=>LQ f204 204 [1,1,1,1,0,1,0,0,1,0,0,1,0,1,0,0] 1 ⟨kp 85 [(1,(.ptr 0 0)),(3,(La v1.shape)),(5,(Qe v805)),(6,(Qe v1405)),(7,(Qe v1406))],(QK p0.kind p0.shape p0.buffer p0.starts p0.axis p0.amount p0.perm p0.kids)⟩ (P1 (.exit 4) (fun v1805 d=>⟨sl d 85 [(1,(.ptr 0 0)),(3,(La v1.shape)),(5,(Qe v805)),(6,(Qe v1805))],(QK p0.kind p0.shape p0.buffer p0.starts p0.axis p0.amount p0.perm p0.kids)⟩) r):=by
 refine Za.partial_correctness _ (fun Za Jx x r hm=>?_);obtain ⟨v1,p0,v805,v1405,v1406⟩:=x;exact lp (Qi (gr 2 (QH Qf v1.shape (re 1 (ri hm (fun hm=>Qk (Qi (Qn (Qi (bi hm fun v1806 hs hm=>QY (fun d=>⟨sl d 85 [(1,(.ptr 0 0)),(3,(La v1.shape)),(5,(Qe v805)),(6,(Qe v1405)),(7,(Qe v1406)),(73,(Qm v1806))],(QK p0.kind p0.shape p0.buffer p0.starts p0.axis p0.amount p0.perm p0.kids)⟩) (have hm:=hs;R_G (Qd 3 (QV 1 Qf hm fun v1807 hm=>Qd 4 (gsq 62 hm (fun hm=>Qd 3 (gs 65 hm (fun hm=>re 8 zf) (fun hm=>Qd 2 (QV 1 Qf hm fun v1808 hm=>re 5 zf)))) (fun hm=>re 11 zf))))) (fun d=>rib hm (fun hm=>R_G (Qd 2 (QV 1 Qf hm fun v1809 hm=>re 2 (R_G (re 3 (Jx _ _ hm _ kr)))))) (fun hm=>Qk (R_G (re 3 (Jx _ _ hm _ kr)))))))))) (fun hm=>QE zf))))))
def Zs (x:(Qa × Qa × Int)):Option (Unit ⊕ Unit) :=
 match x with
 | (p0,v1,v805) =>
 if v805 < (p0.shape.length:Int) then
  Za (v1,p0,v805,(-1),0)>>=fun v1805 =>
  idx p0.shape v805>>=fun v1810 =>
  if v1805≠v1810 then
   some (Sum.inl ())
  else
  Zs (p0,v1,(W (v805+1)))
 else
 some (Sum.inr ())
 partial_fixpoint
theorem QaV:∀ x r,Zs x=some r→match x with|(p0,v1,v805)=>LQ f204 204 [1,1,1,1,0,1,0,0] 1 ⟨kp 85 [(1,(.ptr 0 0)),(3,(La v1.shape)),(5,(Qe v805))],(QK p0.kind p0.shape p0.buffer p0.starts p0.axis p0.amount p0.perm p0.kids)⟩ (P2 .ret (fun _ d=>⟨sl d 85 [(2,(Qm false))],(QK p0.kind p0.shape p0.buffer p0.starts p0.axis p0.amount p0.perm p0.kids)⟩) (.exit 2) (fun _ d=>⟨sl d 85 [],(QK p0.kind p0.shape p0.buffer p0.starts p0.axis p0.amount p0.perm p0.kids)⟩) r):=by
 refine Zs.partial_correctness _ (fun Zs QaV x r hm=>?_);obtain ⟨p0,v1,v805⟩:=x;exact lp (Qi (gr 3 (QH Qf p0.shape (re 1 (ri hm (fun hm=>Qk (Qi (Qn (ge 1 (Qi (ge 1 (Qn (ru1 hm (Jx _) fun v1805 d hm=>gr 4 (QV 1 Qf hm fun v1810 hm=>re 2 (rix hm (fun hm=>ge 1 (Qj zf)) (fun hm=>Qk (R_G (re 3 (QaV _ _ hm _ kr)))))))))))))) (fun hm=>QE zf))))))
def Jq (x:Qa):Option Bool :=
 match x with
 | p0 =>
 idx p0.kids 0>>=fun v1 =>
 if (p0.perm.length:Int)≠(v1.shape.length:Int) then
  some false
 else
 (
 Zr (v1,p0,0)>>=fun out =>
 match out with
 | .inl _ =>
  some false
 | .inr (_) =>
  (
  Zs (p0,v1,0)>>=fun out =>
  match out with
  | .inl _ =>
   some false
  | .inr (_) =>
   some true
  )
 )
theorem Qgg {p0 r0} (hm:Jq p0=some r0):FQ 204 [(Qa.ex p0)] (Qm r0):=by
 unfold Jq at hm;exact fp (fn:=f204) rfl (ge 2 (gr 2 (bi hm fun v1 hx hm=>XA 8 Qa.toD p0.kids 0 v1 (es:=Qa.toDs p0.kids) (d:=(Qa.ex v1)) (Qa.toDs_eq _) hx (Qa.toD_eq v1) rfl (re 3 (Qi (gr 2 (QH Qf p0.perm (Qd 1 (QH Qf v1.shape (re 1 (rix hm (fun hm=>ge 1 (Qj zf)) (fun hm=>Qk (Qi (ge 1 (Qn (ru2 hm (QaU _) (fun _ d hm=>zf) fun _ d hm=>Qi (ge 1 (Qn (ru2 hm (QaV _) (fun _ d hm=>zf) fun _ d hm=>ge 1 (Qj zf))))))))))))))))))))
def Yc (x:(Qa × Qa × Qa × Int)):Option (Unit ⊕ Unit) :=
 match x with
 | (v1,p0,v2,v206) =>
 if v206 < (v1.shape.length:Int) then
  ((if v206=p0.axis then
   idx p0.shape v206>>=fun v608 =>
   idx v1.shape v206>>=fun v609 =>
   idx v2.shape v206>>=fun v610 =>
   some (v608 != (W (v609+v610)))
  else
  some false
  )>>=fun (v607:Bool) =>
  if v607=true then
   some true
  else
  if v206≠p0.axis then
   idx v1.shape v206>>=fun v611 =>
   idx v2.shape v206>>=fun v612 =>
   (if v611≠v612 then
    some true
   else
   idx v1.shape v206>>=fun v614 =>
   idx p0.shape v206>>=fun v615 =>
   some (v614 != v615)
   )>>=fun (v613:Bool) =>
   some v613
  else
  some false
  )>>=fun (v606:Bool) =>
  if v606=true then
   some (Sum.inl ())
  else
  Yc (v1,p0,v2,(W (v206+1)))
 else
 some (Sum.inr ())
 partial_fixpoint
theorem QcI:∀ x r,Yc x=some r→match x with|(v1,p0,v2,v206)=>LQ f205 205 [1,1,1,1,0,1,0,0] 1 ⟨kp 97 [(1,(.ptr 0 0)),(3,(La v1.shape)),(4,(La v2.shape)),(5,(Qe v206))],(QK p0.kind p0.shape p0.buffer p0.starts p0.axis p0.amount p0.perm p0.kids)⟩ (P2 .ret (fun _ d=>⟨sl d 97 [(2,(Qm false))],(QK p0.kind p0.shape p0.buffer p0.starts p0.axis p0.amount p0.perm p0.kids)⟩) (.exit 0) (fun _ d=>⟨sl d 97 [],(QK p0.kind p0.shape p0.buffer p0.starts p0.axis p0.amount p0.perm p0.kids)⟩) r):=by
 refine Yc.partial_correctness _ (fun Yc QcI x r hm=>?_);obtain ⟨v1,p0,v2,v206⟩:=x
 exact lp (Qi (gr 2 (QH Qf v1.shape (re 1 (ri hm (fun hm=>Qk (Qi (Qn (Qi (bi hm fun v606 hs hm=>QY (fun d=>⟨sl d 97 [(1,(.ptr 0 0)),(3,(La v1.shape)),(4,(La v2.shape)),(5,(Qe v206)),(96,(Qm v606))],(QK p0.kind p0.shape p0.buffer p0.starts p0.axis p0.amount p0.perm p0.kids)⟩) (have hm:=hs;Qjm (Qd 5 (bi hm fun v607 hs hm=>ZH (j:=21) (fun d=>⟨sl d 97 [(1,(.ptr 0 0)),(3,(La v1.shape)),(4,(La v2.shape)),(5,(Qe v206)),(67,(Qm v607))],(QK p0.kind p0.shape p0.buffer p0.starts p0.axis p0.amount p0.perm p0.kids)⟩) (fun d=>Qd 1 (gsb 68 hm (fun hm=>re 28 ⟨kr,zf⟩) (fun hm=>Qd 5 (gsx 73 hm (fun hm=>Qd 2 (QV 1 Qf hm fun v611 hm=>Qd 3 (QV 1 Qf hm fun v612 hm=>Qd 3 (bi hm fun v613 hs hm=>ZH (j:=48) (fun d=>⟨sl d 97 [(1,(.ptr 0 0)),(3,(La v1.shape)),(4,(La v2.shape)),(5,(Qe v206)),(68,(Qm false)),(73,(Qm true)),(94,(Qm v613))],(QK p0.kind p0.shape p0.buffer p0.starts p0.axis p0.amount p0.perm p0.kids)⟩) (fun d=>re 2 ⟨kr,zf⟩) (fun hJ=>gsx 83 hs (fun hm=>Qd 11 zf) (fun hm=>Qd 2 (QV 1 Qf hm fun v614 hm=>Qd 4 (QV 1 Qf hm fun v615 hm=>Qd 3 zf)))))))) (fun hm=>re 23 ⟨kr,zf⟩))))) (fun hJ=>gsq 51 hs (fun hm=>Qd 3 (QV 1 Qf hm fun v608 hm=>Qd 3 (QV 1 Qf hm fun v609 hm=>Qd 3 (QV 1 Qf hm fun v610 hm=>Qd 4 zf)))) (fun hm=>Qd 16 zf))))) (fun d=>rib hm (fun hm=>ge 1 (Qj zf)) (fun hm=>Qk (R_G (re 3 (QcI _ _ hm _ kr)))))))))) (fun hm=>QE zf))))))
def Qbg (x:Qa):Option Bool :=
 match x with
 | p0 =>
 idx p0.kids 0>>=fun v1 =>
 idx p0.kids 1>>=fun v2 =>
 ((if (v1.shape.length:Int)≠(v2.shape.length:Int) then
  some true
 else
 some ((v1.shape.length:Int) != (p0.shape.length:Int))
 )>>=fun (v4:Bool) =>
 (if v4=true then
  some true
 else
 some (decide (p0.axis < 0))
 )>>=fun (v5:Bool) =>
 if v5=true then
  some true
 else
 some (decide (p0.axis≥(v1.shape.length:Int)))
 )>>=fun (v3:Bool) =>
 if v3=true then
  some false
 else
 (
 Yc (v1,p0,v2,0)>>=fun out =>
 match out with
 | .inl _ =>
  some false
 | .inr (_) =>
  some true
 )
theorem Qhp {p0 r0} (hm:Qbg p0=some r0):FQ 205 [(Qa.ex p0)] (Qm r0):=by
 unfold Qbg at hm
 exact fp (fn:=f205) rfl (ge 2 (gr 2 (bi hm fun v1 hx hm=>XA 8 Qa.toD p0.kids 0 v1 (es:=Qa.toDs p0.kids) (d:=(Qa.ex v1)) (Qa.toDs_eq _) hx (Qa.toD_eq v1) rfl (re 3 (gr 2 (bi hm fun v2 hx hm=>XA 8 Qa.toD p0.kids 1 v2 (es:=Qa.toDs p0.kids) (d:=(Qa.ex v2)) (Qa.toDs_eq _) hx (Qa.toD_eq v2) rfl (re 3 (Qi (Qi (bi hm fun v3 hs hm=>QY (fun d=>⟨sl d 97 [(1,(.ptr 0 0)),(3,(La v1.shape)),(4,(La v2.shape)),(40,(Qm v3))],(QK p0.kind p0.shape p0.buffer p0.starts p0.axis p0.amount p0.perm p0.kids)⟩) (have hm:=hs;Qdg (Qd 1 (QH Qf v1.shape (Qd 1 (QH Qf v2.shape (Qd 2 (bi hm fun v4 hs hm=>ZH (j:=13) (fun d=>⟨sl d 97 [(1,(.ptr 0 0)),(3,(La v1.shape)),(4,(La v2.shape)),(28,(Qm v4))],(QK p0.kind p0.shape p0.buffer p0.starts p0.axis p0.amount p0.perm p0.kids)⟩) (fun d=>Qd 1 (bi hm fun v5 hs hm=>ZH (j:=18) (fun d=>⟨sl d 97 [(1,(.ptr 0 0)),(3,(La v1.shape)),(4,(La v2.shape)),(33,(Qm v5))],(QK p0.kind p0.shape p0.buffer p0.starts p0.axis p0.amount p0.perm p0.kids)⟩) (fun d=>Qd 1 (gsb 34 hm (fun hm=>re 6 ⟨kr,zf⟩) (fun hm=>Qd 3 (QH Qf v1.shape (re 2 ⟨kr,zf⟩))))) (fun hJ=>gsb 29 hs (fun hm=>Qd 4 zf) (fun hm=>Qd 4 zf)))) (fun hJ=>gsx 21 hs (fun hm=>Qd 7 zf) (fun hm=>Qd 1 (QH Qf v1.shape (Qd 2 (QH Qf p0.shape (Qd 2 zf))))))))))))) (fun d=>rib hm (fun hm=>ge 1 (Qj zf)) (fun hm=>Qk (Qi (ge 1 (Qn (ru2 hm (QcI _) (fun _ d hm=>zf) fun _ d hm=>ge 1 (Qj zf)))))))))))))))))
def YV (x:(Qa × Int)):Option (Unit ⊕ Unit) :=
 match x with
 | (p0,v217) =>
 if v217 < (p0.starts.length:Int) then
  (idx p0.starts v217>>=fun v618 =>
  if v618 < (-65536) then
   some true
  else
  idx p0.starts v217>>=fun v619 =>
  some (decide (v619 > 65536))
  )>>=fun (v617:Bool) =>
  if v617=true then
   some (Sum.inl ())
  else
  YV (p0,(W (v217+1)))
 else
 some (Sum.inr ())
 partial_fixpoint
theorem QdD:∀ x r,YV x=some r→match x with|(p0,v217)=>LQ f185 185 [1,1,1,1,1,1,0,1,0,1,1,1,0,0,1,0,0] 1 ⟨kp 197 [(2,(.ptr 0 0)),(6,(Qe v217))],(QK p0.kind p0.shape p0.buffer p0.starts p0.axis p0.amount p0.perm p0.kids)⟩ (P2 .ret (fun _ d=>⟨sl d 197 [(4,(Qm false))],(QK p0.kind p0.shape p0.buffer p0.starts p0.axis p0.amount p0.perm p0.kids)⟩) (.exit 1) (fun _ d=>⟨sl d 197 [(2,(.ptr 0 0))],(QK p0.kind p0.shape p0.buffer p0.starts p0.axis p0.amount p0.perm p0.kids)⟩) r):=by
 refine YV.partial_correctness _ (fun YV QdD x r hm=>?_);obtain ⟨p0,v217⟩:=x;exact lp (Qi (gr 3 (QH Qf p0.starts (re 1 (ri hm (fun hm=>Qk (Qi (Qn (Qi (bi hm fun v617 hs hm=>QY (fun d=>⟨sl d 197 [(2,(.ptr 0 0)),(6,(Qe v217)),(140,(Qm v617))],(QK p0.kind p0.shape p0.buffer p0.starts p0.axis p0.amount p0.perm p0.kids)⟩) (have hm:=hs;R_G (Qd 3 (QV 1 Qf hm fun v618 hm=>Qd 3 (gs 133 hm (fun hm=>re 7 zf) (fun hm=>Qd 3 (QV 1 Qf hm fun v619 hm=>re 3 zf)))))) (fun d=>rib hm (fun hm=>ge 1 (Qj zf)) (fun hm=>Qk (R_G (re 3 (QdD _ _ hm _ kr)))))))))) (fun hm=>QE zf))))))
def Qaq (x:(Qa × (List (List Int)))):Option Bool :=
 match x with
 | (p0,p1) =>
 (if p0.kind=1 then
  some 0
 else
 some 1
 )>>=fun (v1:Int) =>
 (if p0.kind=7 then
  some 2
 else
 some v1
 )>>=fun (v2:Int) =>
 ((if p0.kind < 1 then
  some true
 else
 some (decide (p0.kind > 7))
 )>>=fun (v4:Bool) =>
 (if v4=true then
  some true
 else
 some ((p0.kids.length:Int) != v2)
 )>>=fun (v5:Bool) =>
 if v5=true then
  some true
 else
 Yr p0.shape>>=fun v6 =>
 some (v6 != 0)
 )>>=fun (v3:Bool) =>
 if v3=true then
  some false
 else
 ((if p0.kind≠1 then
  some (p0.buffer != 0)
 else
 some false
 )>>=fun (v8:Bool) =>
 (if v8=true then
  some true
 else
 if p0.kind≠2 then
  some (decide ((p0.starts.length:Int) > 0))
 else
 some false
 )>>=fun (v9:Bool) =>
 (if v9=true then
  some true
 else
 (if p0.kind≠3 then
  some (p0.kind != 4)
 else
 some false
 )>>=fun (v11:Bool) =>
 (if v11=true then
  some (p0.kind != 7)
 else
 some false
 )>>=fun (v12:Bool) =>
 if v12=true then
  some (p0.axis != 0)
 else
 some false
 )>>=fun (v10:Bool) =>
 (if v10=true then
  some true
 else
 if p0.kind≠4 then
  some (p0.amount != 0)
 else
 some false
 )>>=fun (v13:Bool) =>
 if v13=true then
  some true
 else
 if p0.kind≠5 then
  some (decide ((p0.perm.length:Int) > 0))
 else
 some false
 )>>=fun (v7:Bool) =>
 if v7=true then
  some false
 else
 if p0.kind=1 then
  (if p0.buffer≥0 then
   some (decide (p0.buffer < (p1.length:Int)))
  else
  some false
  )>>=fun (v14:Bool) =>
  if v14=true then
   idx p1 p0.buffer>>=fun v15 =>
   ZP (v15,p0.shape)>>=fun v16 =>
   some v16
  else
  some false
 else
 if p0.kind=2 then
  (
  YV (p0,0)>>=fun out =>
  match out with
  | .inl _ =>
   some false
  | .inr (_) =>
   if (p0.starts.length:Int)=(p0.shape.length:Int) then
    idx p0.kids 0>>=fun v620 =>
    some ((v620.shape.length:Int) == (p0.shape.length:Int))
   else
   some false
  )
 else
 if p0.kind=3 then
  QaO p0>>=fun v621 =>
  some v621
 else
 if p0.kind=4 then
  QaO p0>>=fun v622 =>
  (if v622=true then
   some (decide (p0.amount≥0))
  else
  some false
  )>>=fun (v623:Bool) =>
  if v623=true then
   if p0.amount=0 then
    some true
   else
   idx p0.shape p0.axis>>=fun v624 =>
   some (decide (p0.amount < v624))
  else
  some false
 else
 if p0.kind=5 then
  Jq p0>>=fun v625 =>
  some v625
 else
 if p0.kind=7 then
  Qbg p0>>=fun v626 =>
  some v626
 else
 some true
theorem QhY {p0 p1 r0} (hm:Qaq (p0,p1)=some r0):FQ 185 [(Qa.ex p0),(.lst ((List.map (fun l=>Dat.lst ((List.map Qf) l))) p1))] (Qm r0):=by
 unfold Qaq at hm
 exact fp (fn:=f185) rfl (ge 2 (ge 1 (Qi (ge 3 (bi hm fun v1 hs hm=>QY (fun d=>⟨sl d 197 [(1,(ZI p1)),(2,(.ptr 0 0)),(5,(Qe v1))],(QK p0.kind p0.shape p0.buffer p0.starts p0.axis p0.amount p0.perm p0.kids)⟩) (have hm:=hs;riq hm (fun hm=>R_G (re 1 zf)) (fun hm=>Qk zf)) (fun d=>Qi (ge 3 (bi hm fun v2 hs hm=>QY (fun d=>⟨sl d 197 [(1,(ZI p1)),(2,(.ptr 0 0)),(5,(Qe v2))],(QK p0.kind p0.shape p0.buffer p0.starts p0.axis p0.amount p0.perm p0.kids)⟩) (have hm:=hs;riq hm (fun hm=>R_G (re 1 zf)) (fun hm=>Qk zf)) (fun d=>Qi (Qi (bi hm fun v3 hs hm=>QY (fun d=>⟨sl d 197 [(1,(ZI p1)),(2,(.ptr 0 0)),(33,(Qm v3))],(QK p0.kind p0.shape p0.buffer p0.starts p0.axis p0.amount p0.perm p0.kids)⟩) (have hm:=hs;Qdg (Qd 4 (bi hm fun v4 hs hm=>ZH (j:=8) (fun d=>⟨sl d 197 [(1,(ZI p1)),(2,(.ptr 0 0)),(5,(Qe v2)),(20,(Qm v4))],(QK p0.kind p0.shape p0.buffer p0.starts p0.axis p0.amount p0.perm p0.kids)⟩) (fun d=>Qd 1 (bi hm fun v5 hs hm=>ZH (j:=15) (fun d=>⟨sl d 197 [(1,(ZI p1)),(2,(.ptr 0 0)),(27,(Qm v5))],(QK p0.kind p0.shape p0.buffer p0.starts p0.axis p0.amount p0.perm p0.kids)⟩) (fun d=>Qd 1 (gsb 28 hm (fun hm=>re 5 ⟨kr,zf⟩) (fun hm=>Qd 2 (bi hm fun v6 hx hm=>cp (JV hx) (re 2 ⟨kr,zf⟩))))) (fun hJ=>gsb 21 hs (fun hm=>Qd 6 zf) (fun hm=>Qd 2 (Qae Qa.toD p0.kids (es:=Qa.toDs p0.kids) (Qa.toDs_eq _) (Qd 3 zf)))))) (fun hJ=>gs 16 hs (fun hm=>Qd 4 zf) (fun hm=>Qd 4 zf))))) (fun d=>rib hm (fun hm=>ge 1 (Qj zf)) (fun hm=>Qk (Qi (Qi (bi hm fun v7 hs hm=>QY (fun d=>⟨sl d 197 [(1,(ZI p1)),(2,(.ptr 0 0)),(93,(Qm v7))],(QK p0.kind p0.shape p0.buffer p0.starts p0.axis p0.amount p0.perm p0.kids)⟩) (have hm:=hs;Qdg (Qd 4 (bi hm fun v8 hs hm=>ZH (j:=8) (fun d=>⟨sl d 197 [(1,(ZI p1)),(2,(.ptr 0 0)),(41,(Qm v8))],(QK p0.kind p0.shape p0.buffer p0.starts p0.axis p0.amount p0.perm p0.kids)⟩) (fun d=>Qd 1 (bi hm fun v9 hs hm=>ZH (j:=19) (fun d=>⟨sl d 197 [(1,(ZI p1)),(2,(.ptr 0 0)),(52,(Qm v9))],(QK p0.kind p0.shape p0.buffer p0.starts p0.axis p0.amount p0.perm p0.kids)⟩) (fun d=>Qd 1 (bi hm fun v10 hs hm=>ZH (j:=39) (fun d=>⟨sl d 197 [(1,(ZI p1)),(2,(.ptr 0 0)),(72,(Qm v10))],(QK p0.kind p0.shape p0.buffer p0.starts p0.axis p0.amount p0.perm p0.kids)⟩) (fun d=>Qd 1 (bi hm fun v13 hs hm=>ZH (j:=49) (fun d=>⟨sl d 197 [(1,(ZI p1)),(2,(.ptr 0 0)),(82,(Qm v13))],(QK p0.kind p0.shape p0.buffer p0.starts p0.axis p0.amount p0.perm p0.kids)⟩) (fun d=>Qd 1 (gsb 83 hm (fun hm=>re 10 ⟨kr,zf⟩) (fun hm=>Qd 4 (gsx 87 hm (fun hm=>Qd 2 (QH Qf p0.perm (re 3 ⟨kr,zf⟩))) (fun hm=>re 6 ⟨kr,zf⟩))))) (fun hJ=>gsb 73 hs (fun hm=>Qd 9 zf) (fun hm=>Qd 4 (gsx 77 hm (fun hm=>Qd 5 zf) (fun hm=>Qd 5 zf)))))) (fun hJ=>gsb 53 hs (fun hm=>Qd 19 zf) (fun hm=>Qd 4 (bi hm fun v11 hs hm=>ZH (j:=28) (fun d=>⟨sl d 197 [(1,(ZI p1)),(2,(.ptr 0 0)),(53,(Qm false)),(61,(Qm v11))],(QK p0.kind p0.shape p0.buffer p0.starts p0.axis p0.amount p0.perm p0.kids)⟩) (fun d=>Qd 1 (bi hm fun v12 hs hm=>ZH (j:=33) (fun d=>⟨sl d 197 [(1,(ZI p1)),(2,(.ptr 0 0)),(53,(Qm false)),(66,(Qm v12))],(QK p0.kind p0.shape p0.buffer p0.starts p0.axis p0.amount p0.perm p0.kids)⟩) (fun d=>Qd 1 (gsb 67 hm (fun hm=>Qd 5 zf) (fun hm=>Qd 5 zf))) (fun hJ=>gsb 62 hs (fun hm=>Qd 4 zf) (fun hm=>Qd 4 zf)))) (fun hJ=>gsx 57 hs (fun hm=>Qd 4 zf) (fun hm=>Qd 4 zf))))))) (fun hJ=>gsb 42 hs (fun hm=>Qd 10 zf) (fun hm=>Qd 4 (gsx 46 hm (fun hm=>Qd 2 (QH Qf p0.starts (Qd 3 zf))) (fun hm=>Qd 6 zf)))))) (fun hJ=>gsx 37 hs (fun hm=>Qd 4 zf) (fun hm=>Qd 4 zf))))) (fun d=>rib hm (fun hm=>ge 1 (Qj zf)) (fun hm=>Qk (Qi (ge 2 (Qn (ge 2 (riq hm (fun hm=>Qi (Qjm (Qd 4 (bi hm fun v14 hs hm=>ZH (j:=10) (fun d=>⟨sl d 197 [(1,(ZI p1)),(2,(.ptr 0 0)),(107,(Qm v14))],(QK p0.kind p0.shape p0.buffer p0.starts p0.axis p0.amount p0.perm p0.kids)⟩) (fun d=>Qd 1 (gsb 108 hm (fun hm=>Qd 3 (bi hm fun v15 hx hm=>XA 1 (fun l=>Dat.lst ((List.map Qf) l)) p1 p0.buffer v15 (es:=(List.map (fun l=>Dat.lst ((List.map Qf) l))) p1) (d:=(Lb v15)) rfl hx rfl rfl (Qd 3 (bi hm fun v16 hx hm=>cp (Jg hx) (re 2 ⟨kr,Qj zf⟩))))) (fun hm=>re 10 ⟨kr,Qj zf⟩))) (fun hJ=>gs 101 hs (fun hm=>Qd 3 (Qae (fun l=>Dat.lst ((List.map Qf) l)) p1 (es:=(List.map (fun l=>Dat.lst ((List.map Qf) l))) p1) rfl (Qd 2 zf))) (fun hm=>Qd 6 zf)))))) (fun hm=>ge 2 (riq hm (fun hm=>Qi (ge 1 (Qn (ru2 hm (QdD _) (fun _ d hm=>zf) fun _ d hm=>Qi (Yv (Qd 2 (QH Qf p0.starts (Qd 2 (QH Qf p0.shape (Qd 2 (gsq 148 hm (fun hm=>Qd 2 (bi hm fun v620 hx hm=>XA 8 Qa.toD p0.kids 0 v620 (es:=Qa.toDs p0.kids) (d:=(Qa.ex v620)) (Qa.toDs_eq _) hx (Qa.toD_eq v620) rfl (Qd 2 (QH Qf v620.shape (Qd 2 (QH Qf p0.shape (re 3 ⟨kr,Qj zf⟩))))))) (fun hm=>re 12 ⟨kr,Qj zf⟩)))))))))))) (fun hm=>ge 2 (riq hm (fun hm=>gr 1 (bi hm fun v621 hx hm=>cp (Qf6 hx) (re 1 (Qj zf)))) (fun hm=>ge 2 (riq hm (fun hm=>Qi (Qjm (Qd 1 (bi hm fun v622 hx hm=>cp (Qf6 hx) (Qd 1 (bi hm fun v623 hs hm=>ZH (j:=7) (fun d=>⟨sl d 197 [(2,(.ptr 0 0)),(172,(Qm v623))],(QK p0.kind p0.shape p0.buffer p0.starts p0.axis p0.amount p0.perm p0.kids)⟩) (fun d=>Qd 1 (gsb 173 hm (fun hm=>Qd 4 (gsq 177 hm (fun hm=>re 12 ⟨kr,Qj zf⟩) (fun hm=>Qd 6 (QV 1 Qf hm fun v624 hm=>re 5 ⟨kr,Qj zf⟩)))) (fun hm=>re 16 ⟨kr,Qj zf⟩))) (fun hJ=>gsb 168 hs (fun hm=>Qd 4 zf) (fun hm=>Qd 4 zf)))))))) (fun hm=>ge 2 (riq hm (fun hm=>gr 1 (bi hm fun v625 hx hm=>cp (Qgg hx) (re 1 (Qj zf)))) (fun hm=>ge 2 (riq hm (fun hm=>gr 1 (bi hm fun v626 hx hm=>cp (Qhp hx) (re 1 (Qj zf)))) (fun hm=>Qk (ge 1 (Qj zf))))))))))))))))))))))))))))))))))))
mutual
def Z7 (x:(Qa × (List (List Int)) × Int)):Option (Unit ⊕ Unit) :=
 match x with
 | (p0,p1,v202) =>
 if v202 < (p0.kids.length:Int) then
  idx p0.kids v202>>=fun v602 =>
  JU (v602,p1)>>=fun v603 =>
  if v603=false then
   some (Sum.inl ())
  else
  Z7 (p0,p1,(W (v202+1)))
 else
 some (Sum.inr ())
 partial_fixpoint
def JU (x:(Qa × (List (List Int)))):Option Bool :=
 match x with
 | (p0,p1) =>
 Qaq (p0,p1)>>=fun v1 =>
 if v1=false then
  some false
 else
 (
 Z7 (p0,p1,0)>>=fun out =>
 match out with
 | .inl _ =>
  some false
 | .inr (_) =>
  some true
 )
 partial_fixpoint
end
def Qbv:(Qa × (List (List Int)) × Int)→(Unit ⊕ Unit)→Prop:=fun x r=>match x with
 | (p0,p1,v202)=>LQ f158 158 [1,1,0,1,0,0] 1 ⟨kp 25 [(1,(ZI p1)),(2,(.ptr 0 0)),(5,(Qe v202))],(QK p0.kind p0.shape p0.buffer p0.starts p0.axis p0.amount p0.perm p0.kids)⟩ (P2 .ret (fun _ d=>⟨sl d 25 [(4,(Qm false))],(QK p0.kind p0.shape p0.buffer p0.starts p0.axis p0.amount p0.perm p0.kids)⟩) (.exit 0) (fun _ d=>⟨sl d 25 [],(QK p0.kind p0.shape p0.buffer p0.starts p0.axis p0.amount p0.perm p0.kids)⟩) r)
def Qc4:(Qa × (List (List Int)))→Bool→Prop:=fun x r=>match x,r with
 | (p0,p1),r0=>∀ H,PC prog env 158 ([(Qa.ex p0),(.lst ((List.map (fun l=>Dat.lst ((List.map Qf) l))) p1))].map .dat) H (Qm r0) H
theorem g_ref14_nodes_L1:(∀ x r,Z7 x=some r→Qbv x r)∧(∀ x r,JU x=some r→Qc4 x r):=by
 refine Z7.mutual_partial_correctness Qbv Qc4 ?_ ?_
 ·intro Z7 JU QbJ QeJ x r hm;unfold Qbv;obtain ⟨p0,p1,v202⟩:=x;exact lp (Qi (gr 3 (Qae Qa.toD p0.kids (es:=Qa.toDs p0.kids) (Qa.toDs_eq _) (re 1 (ri hm (fun hm=>Qk (Qi (Qn (gr 3 (bi hm fun v602 hx hm=>XA 8 Qa.toD p0.kids v202 v602 (es:=Qa.toDs p0.kids) (d:=(Qa.ex v602)) (Qa.toDs_eq _) hx (Qa.toD_eq v602) rfl (Qd 2 (bi hm fun v603 hx hm=>ZL (QeJ _ _ hx []) (re 1 (rin hm (fun hm=>ge 1 (Qj zf)) (fun hm=>Qk (R_G (re 3 (QbJ _ _ hm _ kr))))))))))))) (fun hm=>QE zf))))))
 ·intro Z7 QbJ x r0 hm;unfold Qc4;obtain ⟨p0,p1⟩:=x;intro H;refine PC_sx (ds:=[(Qa.ex p0),(.lst ((List.map (fun l=>Dat.lst ((List.map Qf) l))) p1))]) (fn:=f158) rfl ?_;exact ge 2 (Qi (gr 2 (bi hm fun v1 hx hm=>cp (QhY hx) (re 1 (rin hm (fun hm=>ge 1 (Qj zf)) (fun hm=>Qk (Qi (ge 1 (Qn (ru2 hm (QbJ _) (fun _ d hm=>zf) fun _ d hm=>ge 1 (Qj zf)))))))))))
theorem QbJ:∀ x r,Z7 x=some r→Qbv x r:=g_ref14_nodes_L1.1
theorem QeJ:∀ x r,JU x=some r→Qc4 x r:=g_ref14_nodes_L1.2
def Qc8 (x:(Qa × (List (List Int)))):Option Bool :=
 match x with
 | (p0,p1) =>
 JS p0>>=fun v1 =>
 if v1≤300 then
  JU (p0,p1)>>=fun v2 =>
  some v2
 else
 some false
theorem QhH {p0 p1 r0} (hm:Qc8 (p0,p1)=some r0):FQ 116 [(Qa.ex p0),(.lst ((List.map (fun l=>Dat.lst ((List.map Qf) l))) p1))] (Qm r0):=by
 unfold Qc8 at hm;exact fp (fn:=f116) rfl (ge 2 (gr 1 (bi hm fun v1 hx hm=>ZL (QeH _ _ hx []) (Qd 2 (gs 8 hm (fun hm=>Qd 2 (bi hm fun v2 hx hm=>ZL (QeJ _ _ hx []) (re 2 (Qj zf)))) (fun hm=>re 5 (Qj zf)))))))
mutual
def Z6 (x:(Qa × Int × Int)):Option (Unit ⊕ Unit) :=
 match x with
 | (p0,p1,v202) =>
 if v202 < (p0.kids.length:Int) then
  idx p0.kids v202>>=fun v602 =>
  JT (v602,p1)>>=fun v603 =>
  if v603=false then
   some (Sum.inl ())
  else
  Z6 (p0,p1,(W (v202+1)))
 else
 some (Sum.inr ())
 partial_fixpoint
def JT (x:(Qa × Int)):Option Bool :=
 match x with
 | (p0,p1) =>
 QaK (p0.shape,p1)>>=fun v1 =>
 if v1=false then
  some false
 else
 (
 Z6 (p0,p1,0)>>=fun out =>
 match out with
 | .inl _ =>
  some false
 | .inr (_) =>
  some true
 )
 partial_fixpoint
end
def Qbu:(Qa × Int × Int)→(Unit ⊕ Unit)→Prop:=fun x r=>match x with
 | (p0,p1,v202)=>LQ f117 117 [1,1,0,1,0,0] 1 ⟨kp 26 [(1,(Qe p1)),(2,(.ptr 0 0)),(5,(Qe v202))],(QK p0.kind p0.shape p0.buffer p0.starts p0.axis p0.amount p0.perm p0.kids)⟩ (P2 .ret (fun _ d=>⟨sl d 26 [(4,(Qm false))],(QK p0.kind p0.shape p0.buffer p0.starts p0.axis p0.amount p0.perm p0.kids)⟩) (.exit 0) (fun _ d=>⟨sl d 26 [],(QK p0.kind p0.shape p0.buffer p0.starts p0.axis p0.amount p0.perm p0.kids)⟩) r)
def Qc3:(Qa × Int)→Bool→Prop:=fun x r=>match x,r with
 | (p0,p1),r0=>∀ H,PC prog env 117 ([(Qa.ex p0),(Qf p1)].map .dat) H (Qm r0) H
theorem g_ref14_cells_L1:(∀ x r,Z6 x=some r→Qbu x r)∧(∀ x r,JT x=some r→Qc3 x r):=by
 refine Z6.mutual_partial_correctness Qbu Qc3 ?_ ?_
 ·intro Z6 JT QbI QeI x r hm;unfold Qbu;obtain ⟨p0,p1,v202⟩:=x;exact lp (Qi (gr 3 (Qae Qa.toD p0.kids (es:=Qa.toDs p0.kids) (Qa.toDs_eq _) (re 1 (ri hm (fun hm=>Qk (Qi (Qn (gr 3 (bi hm fun v602 hx hm=>XA 8 Qa.toD p0.kids v202 v602 (es:=Qa.toDs p0.kids) (d:=(Qa.ex v602)) (Qa.toDs_eq _) hx (Qa.toD_eq v602) rfl (Qd 2 (bi hm fun v603 hx hm=>ZL (QeI _ _ hx []) (re 1 (rin hm (fun hm=>ge 1 (Qj zf)) (fun hm=>Qk (R_G (re 3 (QbI _ _ hm _ kr))))))))))))) (fun hm=>QE zf))))))
 ·intro Z6 QbI x r0 hm;unfold Qc3;obtain ⟨p0,p1⟩:=x;intro H;refine PC_sx (ds:=[(Qa.ex p0),(Qf p1)]) (fn:=f117) rfl ?_;exact ge 2 (Qi (gr 3 (bi hm fun v1 hx hm=>cp (Qf2 hx) (re 1 (rin hm (fun hm=>ge 1 (Qj zf)) (fun hm=>Qk (Qi (ge 1 (Qn (ru2 hm (QbI _) (fun _ d hm=>zf) fun _ d hm=>ge 1 (Qj zf)))))))))))
theorem QbI:∀ x r,Z6 x=some r→Qbu x r:=g_ref14_cells_L1.1
theorem QeI:∀ x r,JT x=some r→Qc3 x r:=g_ref14_cells_L1.2
def QbT (x:(Qa × (List (List Int)) × Int)):Option Bool :=
 match x with
 | (p0,p1,p2) =>
 (if (p1.length:Int)≤20 then
  Qdp (p0,60)>>=fun v2 =>
  some v2
 else
 some false
 )>>=fun (v1:Bool) =>
 (if v1=true then
  Qc8 (p0,p1)>>=fun v4 =>
  some v4
 else
 some false
 )>>=fun (v3:Bool) =>
 if v3=true then
  JT (p0,p2)>>=fun v5 =>
  some v5
 else
 some false
theorem QhI {p0 p1 p2 r0} (hm:QbT (p0,p1,p2)=some r0):FQ 65 [(Qa.ex p0),(.lst ((List.map (fun l=>Dat.lst ((List.map Qf) l))) p1)),(Qf p2)] (Qm r0):=by
 unfold QbT at hm;exact fp (fn:=f65) rfl (ge 2 (Qi (Qdg (Qd 1 (Qae (fun l=>Dat.lst ((List.map Qf) l)) p1 (es:=(List.map (fun l=>Dat.lst ((List.map Qf) l))) p1) rfl (Qd 2 (bi hm fun v1 hs hm=>ZH (j:=7) (fun d=>⟨sl d 24 [(1,(ZI p1)),(2,(Qe p2)),(3,(.ptr 0 0)),(6,(Qm false)),(13,(Qm v1))],(QK p0.kind p0.shape p0.buffer p0.starts p0.axis p0.amount p0.perm p0.kids)⟩) (fun d=>Qd 1 (bi hm fun v3 hs hm=>ZH (j:=12) (fun d=>⟨sl d 24 [(2,(Qe p2)),(3,(.ptr 0 0)),(6,(Qm false)),(18,(Qm v3))],(QK p0.kind p0.shape p0.buffer p0.starts p0.axis p0.amount p0.perm p0.kids)⟩) (fun d=>Qd 1 (gsb 19 hm (fun hm=>Qd 2 (bi hm fun v5 hx hm=>ZL (QeI _ _ hx []) (re 2 ⟨kr,Qj zf⟩))) (fun hm=>re 5 ⟨kr,Qj zf⟩))) (fun hJ=>gsb 14 hs (fun hm=>Qd 2 (bi hm fun v4 hx hm=>cp (QhH hx) (Qd 1 zf))) (fun hm=>Qd 4 zf)))) (fun hJ=>gs 10 hs (fun hm=>Qd 1 (bi hm fun v2 hx hm=>cp (QiD hx) (Qd 1 zf))) (fun hm=>Qd 3 zf)))))))))
def Qc9 (x:(QA × Int)):Option Bool :=
 match x with
 | (p0,p1) =>
 Qbh p0>>=fun v1 =>
 QbT ((⟨p0.core.kind,p0.core.shape,p0.core.buffer,p0.core.starts,p0.core.axis,p0.core.amount,p0.core.perm,p0.core.kids⟩:Qa),v1,p1)>>=fun v2 =>
 some v2
theorem QhJ {p0 p1 r0} (hm:Qc9 (p0,p1)=some r0):FQ 30 [(QA.toD p0),(Qf p1)] (Qm r0):=by
 unfold Qc9 at hm;exact fp (fn:=f30) rfl (ge 2 (Qi (Yv (Qd 3 (bi hm fun v1 hx hm=>cp (Qhq hx) (Qd 1 (bi hm fun v2 hx hm=>cp (QhI hx) (re 1 ⟨kr,Qj zf⟩))))))))
def QcB (x:(QA × Int)):Option Bool :=
 match x with
 | (p0,p1) =>
 Qc9 ((⟨(⟨p0.core.kind,p0.core.shape,p0.core.buffer,p0.core.starts,p0.core.axis,p0.core.amount,p0.core.perm,p0.core.kids⟩:Qa),p0.sources⟩:QA),p1)>>=fun v1 =>
 if v1=true then
  Xv p0.core.shape>>=fun v2 =>
  some (decide (v2≤p1))
 else
 some false
theorem Qh2 {p0 p1 r0} (hm:QcB (p0,p1)=some r0):FQ 10 [(QA.toD p0),(Qf p1)] (Qm r0):=by
 unfold QcB at hm;exact fp (fn:=f10) rfl (ge 2 (gr 2 (bi hm fun v1 hx hm=>cp (QhJ hx) (Qd 1 (gsb 8 hm (fun hm=>Qd 3 (bi hm fun v2 hx hm=>cp (Qde hx) (re 4 (Qj zf)))) (fun hm=>re 8 (Qj zf)))))))
mutual
def Yq (x:(Qh × (List Qa) × Int)):Option ((List Qa)) :=
 match x with
 | (p0,v201,v202) =>
 if v202 < (p0.kids.length:Int) then
  idx p0.kids v202>>=fun v602 =>
  Qam v602>>=fun v603 =>
  app 128 v201 ([v603]:List Qa)>>=fun v604 =>
  Yq (p0,v604,(W (v202+1)))
 else
 some v201
 partial_fixpoint
def Qam (x:Qh):Option Qa :=
 match x with
 | p0 =>
 Yq (p0,([]:List Qa),0)>>=fun v601 =>
 some (⟨p0.kind,p0.shape,p0.buffer,p0.starts,p0.axis,p0.amount,p0.perm,v601⟩:Qa)
 partial_fixpoint
end
def QbW:(Qh × (List Qa) × Int)→((List Qa))→Prop:=fun x r=>match x with
 | (p0,v201,v202)=>LQ f34 34 [1,1,0,1,0,0] 5 ⟨kp 39 [(1,(.ptr 0 0)),(2,(.ptr 1 0)),(3,(.ptr 3 0)),(4,(Qe v202))],[(JE p0.kind p0.shape p0.buffer p0.starts p0.axis p0.amount p0.perm p0.kids),Xa,(.tok 44 v201.length),(.box [(Qe p0.kind),(La p0.shape),(Qe p0.buffer),(La p0.starts),(Qe p0.axis),(Qe p0.amount),(La p0.perm),(.vec 2 (Qa.toDs v201))]),(.tok 44 (([]:List Qa).length))]⟩ (P1 (.exit 0) (fun v601 d=>⟨sl d 39 [(2,(.ptr 1 0)),(3,(.ptr 3 0))],[(JE p0.kind p0.shape p0.buffer p0.starts p0.axis p0.amount p0.perm p0.kids),Xa,(.tok 44 v601.length),(.box [(Qe p0.kind),(La p0.shape),(Qe p0.buffer),(La p0.starts),(Qe p0.axis),(Qe p0.amount),(La p0.perm),(.vec 2 (Qa.toDs v601))]),(.tok 44 (([]:List Qa).length))]⟩) r)
def QdI:Qh→Qa→Prop:=fun x r=>match x,r with
 | p0,r0=>∀ H,PC prog env 34 ([(Qh.ex p0)].map .dat) H (.dat (Qa.ex r0)) H
theorem g_law14_Back_L1:(∀ x r,Yq x=some r→QbW x r)∧(∀ x r,Qam x=some r→QdI x r):=by
 refine Yq.mutual_partial_correctness QbW QdI ?_ ?_
 ·intro Yq Qam Qb2 Qfc x r hm;unfold QbW;obtain ⟨p0,v201,v202⟩:=x;exact lp (Qi (gr 3 (Qae Qh.toD p0.kids (es:=Qh.toDs p0.kids) (Qh.toDs_eq _) (re 1 (ri hm (fun hm=>Qk (Qi (Qn (Yv (Qd 5 (bi hm fun v602 hx hm=>XA 8 Qh.toD p0.kids v202 v602 (es:=Qh.toDs p0.kids) (d:=(Qh.ex v602)) (Qh.toDs_eq _) hx (Qh.toD_eq v602) rfl (Qd 1 (bi hm fun v603 hx hm=>ZL (Qfc _ _ hx []) (Qd 1 (bi hm fun v604 hx hm=>Y9 44 8 128 2 Qa.toD v201 ([v603]:List Qa) v604 (xs:=Qa.toDs v201) (es:=[(Qa.ex v603)]) (L:=Qa.toDs) Qa.toDs_eq rfl (by simp only [Qa.toDs,Qa.toD_eq]) Qa.fit hx (re 2 ⟨kr,R_G (re 3 (Qb2 _ _ hm _ kr))⟩))))))))))) (fun hm=>QE zf))))))
 ·intro Yq Qb2 p0 r0 hm;unfold QdI;intro H;refine PC_sx (ds:=[(Qh.ex p0)]) (fn:=f34) rfl ?_;exact ge 2 (ge 17 (Qi (ge 1 (Qn (ru1 hm (Qb2 _) fun v601 d hm=>ge 2 (Qj zf))))))
theorem Qb2:∀ x r,Yq x=some r→QbW x r:=g_law14_Back_L1.1
theorem Qfc:∀ x r,Qam x=some r→QdI x r:=g_law14_Back_L1.2
def Xo (x:(Q9 × Qa × (List Ql) × Int)):Option ((List Ql)) :=
 match x with
 | (p0,v1,v202,v203) =>
 if v203 < (p0.sources.length:Int) then
  idx p0.sources v203>>=fun v603 =>
  app 64 v202 ([(⟨v603.name,v603.value⟩:Ql)]:List Ql)>>=fun v604 =>
  Xo (p0,v1,v604,(W (v203+1)))
 else
 some v202
 partial_fixpoint
theorem Qdw:∀ x r,Xo x=some r→match x with|(p0,v1,v202,v203)=>LQ f12 12 [1,1,0,1,0,0] 5 ⟨kp 27 [(1,(.ptr 0 0)),(2,(.ptr 1 0)),(3,(.ptr 3 0)),(4,(Qe v203))],[(QaD p0.core.kind p0.core.shape p0.core.buffer p0.core.starts p0.core.axis p0.core.amount p0.core.perm p0.core.kids p0.sources),Qim,(.tok 90 v202.length),(.box [(Qe v1.kind),(La v1.shape),(Qe v1.buffer),(La v1.starts),(Qe v1.axis),(Qe v1.amount),(La v1.perm),(Qil v1.kids),(.vec 2 ((List.map Ql.toD) v202))]),(.tok 90 (([]:List Ql).length))]⟩ (P1 (.exit 0) (fun v602 d=>⟨sl d 27 [(2,(.ptr 1 0)),(3,(.ptr 3 0))],[(QaD p0.core.kind p0.core.shape p0.core.buffer p0.core.starts p0.core.axis p0.core.amount p0.core.perm p0.core.kids p0.sources),Qim,(.tok 90 v602.length),(.box [(Qe v1.kind),(La v1.shape),(Qe v1.buffer),(La v1.starts),(Qe v1.axis),(Qe v1.amount),(La v1.perm),(Qil v1.kids),(.vec 2 ((List.map Ql.toD) v602))]),(.tok 90 (([]:List Ql).length))]⟩) r):=by
 refine Xo.partial_correctness _ (fun Xo Qdw x r hm=>?_);obtain ⟨p0,v1,v202,v203⟩:=x;exact lp (Qi (gr 3 (QH Qp.toD p0.sources (re 1 (ri hm (fun hm=>Qk (Qi (Qn (Yv (Qd 5 (QV 3 Qp.toD hm fun v603 hm=>Qd 2 (bi hm fun v604 hx hm=>Y9 90 3 64 2 Ql.toD v202 ([(⟨v603.name,v603.value⟩:Ql)]:List Ql) v604 (xs:=(List.map Ql.toD) v202) (es:=(List.map Ql.toD) ([(⟨v603.name,v603.value⟩:Ql)]:List Ql)) (L:=(List.map Ql.toD)) zY rfl rfl Ql.fit hx (re 2 ⟨kr,R_G (re 3 (Qdw _ _ hm _ kr))⟩)))))))) (fun hm=>QE zf))))))
def Qcv (x:Q9):Option QA :=
 match x with
 | p0 =>
 Qam (⟨p0.core.kind,p0.core.shape,p0.core.buffer,p0.core.starts,p0.core.axis,p0.core.amount,p0.core.perm,p0.core.kids⟩:Qh)>>=fun v1 =>
 Xo (p0,v1,([]:List Ql),0)>>=fun v602 =>
 some (⟨v1,v602⟩:QA)
def Qgk:Q9→QA→Prop:=fun x r=>match x,r with
 | p0,r0=>∀ H,PC prog env 12 ([(Q9.toD p0)].map .dat) H (.dat (QA.toD r0)) H
theorem QhT:∀ x r,Qcv x=some r→Qgk x r:=by
 intro p0 r0 hm;unfold Qcv at hm;unfold Qgk;intro H;refine PC_sx (ds:=[(Q9.toD p0)]) (fn:=f12) rfl ?_;exact ge 2 (gr 2 (bi hm fun v1 hx hm=>ZL (Qfc _ _ hx []) (re 3 (Qi (ge 1 (Qn (ru1 hm (Qdw _) fun v602 d hm=>ge 2 (Qj zf))))))))
mutual
def Yt (x:(Qa × Qa × Int)):Option (Unit ⊕ Unit) :=
 match x with
 | (p0,p1,v211) =>
 if v211 < (p0.kids.length:Int) then
  idx p0.kids v211>>=fun v611 =>
  idx p1.kids v211>>=fun v612 =>
  Qao (v611,v612)>>=fun v613 =>
  if v613=false then
   some (Sum.inl ())
  else
  Yt (p0,p1,(W (v211+1)))
 else
 some (Sum.inr ())
 partial_fixpoint
def Qao (x:(Qa × Qa)):Option Bool :=
 match x with
 | (p0,p1) =>
 ((if p0.kind≠p1.kind then
  some true
 else
 some (p0.buffer != p1.buffer)
 )>>=fun (v2:Bool) =>
 (if v2=true then
  some true
 else
 some (p0.axis != p1.axis)
 )>>=fun (v3:Bool) =>
 (if v3=true then
  some true
 else
 some (p0.amount != p1.amount)
 )>>=fun (v4:Bool) =>
 (if v4=true then
  some true
 else
 some ((p0.kids.length:Int) != (p1.kids.length:Int))
 )>>=fun (v5:Bool) =>
 (if v5=true then
  some true
 else
 ZP (p0.shape,p1.shape)>>=fun v7 =>
 some (!v7)
 )>>=fun (v6:Bool) =>
 (if v6=true then
  some true
 else
 ZP (p0.starts,p1.starts)>>=fun v9 =>
 some (!v9)
 )>>=fun (v8:Bool) =>
 if v8=true then
  some true
 else
 ZP (p0.perm,p1.perm)>>=fun v10 =>
 some (!v10)
 )>>=fun (v1:Bool) =>
 if v1=true then
  some false
 else
 (
 Yt (p0,p1,0)>>=fun out =>
 match out with
 | .inl _ =>
  some false
 | .inr (_) =>
  some true
 )
 partial_fixpoint
end
def QbZ:(Qa × Qa × Int)→(Unit ⊕ Unit)→Prop:=fun x r=>match x with
 | (p0,p1,v211)=>LQ f32 32 [1,1,0,1,0,0] 2 ⟨kp 84 [(2,(.ptr 0 0)),(3,(.ptr 1 0)),(5,(Qe v211))],[(QX p0.kind p0.shape p0.buffer p0.starts p0.axis p0.amount p0.perm p0.kids),(QX p1.kind p1.shape p1.buffer p1.starts p1.axis p1.amount p1.perm p1.kids)]⟩ (P2 .ret (fun _ d=>⟨sl d 84 [(4,(Qm false))],[(QX p0.kind p0.shape p0.buffer p0.starts p0.axis p0.amount p0.perm p0.kids),(QX p1.kind p1.shape p1.buffer p1.starts p1.axis p1.amount p1.perm p1.kids)]⟩) (.exit 0) (fun _ d=>⟨sl d 84 [],[(QX p0.kind p0.shape p0.buffer p0.starts p0.axis p0.amount p0.perm p0.kids),(QX p1.kind p1.shape p1.buffer p1.starts p1.axis p1.amount p1.perm p1.kids)]⟩) r)
def QdK:(Qa × Qa)→Bool→Prop:=fun x r=>match x,r with
 | (p0,p1),r0=>∀ H,PC prog env 32 ([(Qa.ex p0),(Qa.ex p1)].map .dat) H (Qm r0) H
theorem g_ref14_Same_L1:(∀ x r,Yt x=some r→QbZ x r)∧(∀ x r,Qao x=some r→QdK x r):=by
 refine Yt.mutual_partial_correctness QbZ QdK ?_ ?_
 ·intro Yt Qao Qb5 Qfe x r hm;unfold QbZ;obtain ⟨p0,p1,v211⟩:=x;exact lp (Qi (gr 3 (Qae Qa.toD p0.kids (es:=Qa.toDs p0.kids) (Qa.toDs_eq _) (re 1 (ri hm (fun hm=>Qk (Qi (Qn (Qi (Yv (Qd 3 (bi hm fun v611 hx hm=>XA 8 Qa.toD p0.kids v211 v611 (es:=Qa.toDs p0.kids) (d:=(Qa.ex v611)) (Qa.toDs_eq _) hx (Qa.toD_eq v611) rfl (Qd 4 (bi hm fun v612 hx hm=>XA 8 Qa.toD p1.kids v211 v612 (es:=Qa.toDs p1.kids) (d:=(Qa.ex v612)) (Qa.toDs_eq _) hx (Qa.toD_eq v612) rfl (Qd 1 (bi hm fun v613 hx hm=>ZL (Qfe _ _ hx []) (re 1 ⟨kr,rin hm (fun hm=>ge 1 (Qj zf)) (fun hm=>Qk (R_G (re 3 (Qb5 _ _ hm _ kr))))⟩)))))))))))) (fun hm=>QE zf))))))
 ·intro Yt Qb5 x r0 hm;unfold QdK;obtain ⟨p0,p1⟩:=x;intro H;refine PC_sx (ds:=[(Qa.ex p0),(Qa.ex p1)]) (fn:=f32) rfl ?_
  exact ge 3 (Qi (Qi (bi hm fun v1 hs hm=>QY (fun d=>⟨sl d 84 [(2,(.ptr 0 0)),(3,(.ptr 1 0)),(64,(Qm v1))],[(QX p0.kind p0.shape p0.buffer p0.starts p0.axis p0.amount p0.perm p0.kids),(QX p1.kind p1.shape p1.buffer p1.starts p1.axis p1.amount p1.perm p1.kids)]⟩) (have hm:=hs;Qdg (Qd 6 (bi hm fun v2 hs hm=>ZH (j:=12) (fun d=>⟨sl d 84 [(2,(.ptr 0 0)),(3,(.ptr 1 0)),(17,(Qm v2))],[(QX p0.kind p0.shape p0.buffer p0.starts p0.axis p0.amount p0.perm p0.kids),(QX p1.kind p1.shape p1.buffer p1.starts p1.axis p1.amount p1.perm p1.kids)]⟩) (fun d=>Qd 1 (bi hm fun v3 hs hm=>ZH (j:=19) (fun d=>⟨sl d 84 [(2,(.ptr 0 0)),(3,(.ptr 1 0)),(24,(Qm v3))],[(QX p0.kind p0.shape p0.buffer p0.starts p0.axis p0.amount p0.perm p0.kids),(QX p1.kind p1.shape p1.buffer p1.starts p1.axis p1.amount p1.perm p1.kids)]⟩) (fun d=>Qd 1 (bi hm fun v4 hs hm=>ZH (j:=26) (fun d=>⟨sl d 84 [(2,(.ptr 0 0)),(3,(.ptr 1 0)),(31,(Qm v4))],[(QX p0.kind p0.shape p0.buffer p0.starts p0.axis p0.amount p0.perm p0.kids),(QX p1.kind p1.shape p1.buffer p1.starts p1.axis p1.amount p1.perm p1.kids)]⟩) (fun d=>Qd 1 (bi hm fun v5 hs hm=>ZH (j:=35) (fun d=>⟨sl d 84 [(2,(.ptr 0 0)),(3,(.ptr 1 0)),(40,(Qm v5))],[(QX p0.kind p0.shape p0.buffer p0.starts p0.axis p0.amount p0.perm p0.kids),(QX p1.kind p1.shape p1.buffer p1.starts p1.axis p1.amount p1.perm p1.kids)]⟩) (fun d=>Qd 1 (bi hm fun v6 hs hm=>ZH (j:=43) (fun d=>⟨sl d 84 [(2,(.ptr 0 0)),(3,(.ptr 1 0)),(48,(Qm v6))],[(QX p0.kind p0.shape p0.buffer p0.starts p0.axis p0.amount p0.perm p0.kids),(QX p1.kind p1.shape p1.buffer p1.starts p1.axis p1.amount p1.perm p1.kids)]⟩) (fun d=>Qd 1 (bi hm fun v8 hs hm=>ZH (j:=51) (fun d=>⟨sl d 84 [(2,(.ptr 0 0)),(3,(.ptr 1 0)),(56,(Qm v8))],[(QX p0.kind p0.shape p0.buffer p0.starts p0.axis p0.amount p0.perm p0.kids),(QX p1.kind p1.shape p1.buffer p1.starts p1.axis p1.amount p1.perm p1.kids)]⟩) (fun d=>Qd 1 (gsb 57 hm (fun hm=>re 7 ⟨kr,zf⟩) (fun hm=>Qd 4 (bi hm fun v10 hx hm=>cp (Jg hx) (re 2 ⟨kr,zf⟩))))) (fun hJ=>gsb 49 hs (fun hm=>Qd 7 zf) (fun hm=>Qd 4 (bi hm fun v9 hx hm=>cp (Jg hx) (Qd 2 zf)))))) (fun hJ=>gsb 41 hs (fun hm=>Qd 7 zf) (fun hm=>Qd 4 (bi hm fun v7 hx hm=>cp (Jg hx) (Qd 2 zf)))))) (fun hJ=>gsb 32 hs (fun hm=>Qd 8 zf) (fun hm=>Qd 2 (Qae Qa.toD p0.kids (es:=Qa.toDs p0.kids) (Qa.toDs_eq _) (Qd 2 (Qae Qa.toD p1.kids (es:=Qa.toDs p1.kids) (Qa.toDs_eq _) (Qd 2 zf)))))))) (fun hJ=>gsb 25 hs (fun hm=>Qd 6 zf) (fun hm=>Qd 6 zf)))) (fun hJ=>gsb 18 hs (fun hm=>Qd 6 zf) (fun hm=>Qd 6 zf)))) (fun hJ=>gsx 11 hs (fun hm=>Qd 6 zf) (fun hm=>Qd 6 zf))))) (fun d=>rib hm (fun hm=>ge 1 (Qj zf)) (fun hm=>Qk (Qi (ge 1 (Qn (ru2 hm (Qb5 _) (fun _ d hm=>zf) fun _ d hm=>ge 1 (Qj zf))))))))))
theorem Qb5:∀ x r,Yt x=some r→QbZ x r:=g_ref14_Same_L1.1
theorem Qfe:∀ x r,Qao x=some r→QdK x r:=g_ref14_Same_L1.2
def YZ (x:(Qo × Qo × Int)):Option (Unit ⊕ Unit) :=
 match x with
 | (p0,p1,v203) =>
 if v203 < (p0.data.length:Int) then
  idx p0.data v203>>=fun v603 =>
  idx p1.data v203>>=fun v604 =>
  if v603≠v604 then
   some (Sum.inl ())
  else
  YZ (p0,p1,(W (v203+1)))
 else
 some (Sum.inr ())
 partial_fixpoint
theorem QcR:∀ x r,YZ x=some r→match x with|(p0,p1,v203)=>LQ f15 15 [1,1,0,1,0,0] 2 ⟨kp 39 [(2,(.ptr 0 0)),(3,(.ptr 1 0)),(5,(Qe v203))],[(YW p0.shape p0.data),(YW p1.shape p1.data)]⟩ (P2 .ret (fun _ d=>⟨sl d 39 [(4,(Qm false))],[(YW p0.shape p0.data),(YW p1.shape p1.data)]⟩) (.exit 0) (fun _ d=>⟨sl d 39 [],[(YW p0.shape p0.data),(YW p1.shape p1.data)]⟩) r):=by
 refine YZ.partial_correctness _ (fun YZ QcR x r hm=>?_);obtain ⟨p0,p1,v203⟩:=x;exact lp (Qi (gr 3 (QH Qf p0.data (re 1 (ri hm (fun hm=>Qk (Qi (Qn (Qi (Yv (Qd 3 (QV 1 Qf hm fun v603 hm=>Qd 4 (QV 1 Qf hm fun v604 hm=>re 2 ⟨kr,rix hm (fun hm=>ge 1 (Qj zf)) (fun hm=>Qk (R_G (re 3 (QcR _ _ hm _ kr))))⟩)))))))) (fun hm=>QE zf))))))
def QaM (x:(Qo × Qo)):Option Bool :=
 match x with
 | (p0,p1) =>
 (ZP (p0.shape,p1.shape)>>=fun (v2:Bool) =>
 if v2=false then
  some true
 else
 some ((p0.data.length:Int) != (p1.data.length:Int))
 )>>=fun (v1:Bool) =>
 if v1=true then
  some false
 else
 (
 YZ (p0,p1,0)>>=fun out =>
 match out with
 | .inl _ =>
  some false
 | .inr (_) =>
  some true
 )
theorem Qf4 {p0 p1 r0} (hm:QaM (p0,p1)=some r0):FQ 15 [(Qo.toD p0),(Qo.toD p1)] (Qm r0):=by
 unfold QaM at hm;exact fp (fn:=f15) rfl (ge 3 (Qi (Qi (bi hm fun v1 hs hm=>QY (fun d=>⟨sl d 39 [(2,(.ptr 0 0)),(3,(.ptr 1 0)),(20,(Qm v1))],[(YW p0.shape p0.data),(YW p1.shape p1.data)]⟩) (have hm:=hs;R_G (Qd 4 (bi hm fun v2 hx hm=>cp (Jg hx) (Qd 2 (gsn 12 hm (fun hm=>re 8 zf) (fun hm=>Qd 2 (QH Qf p0.data (Qd 2 (QH Qf p1.data (re 2 zf)))))))))) (fun d=>rib hm (fun hm=>ge 1 (Qj zf)) (fun hm=>Qk (Qi (ge 1 (Qn (ru2 hm (QcR _) (fun _ d hm=>zf) fun _ d hm=>ge 1 (Qj zf)))))))))))
def ZC (x:((List Ql) × (List Ql) × Int)):Option (Unit ⊕ Unit) :=
 match x with
 | (p0,p1,v201) =>
 if v201 < (p0.length:Int) then
  (idx p0 v201>>=fun v602 =>
  idx p1 v201>>=fun v603 =>
  if v602.name≠v603.name then
   some true
  else
  idx p0 v201>>=fun v604 =>
  idx p1 v201>>=fun v605 =>
  QaM (v604.value,v605.value)>>=fun v606 =>
  some (!v606)
  )>>=fun (v601:Bool) =>
  if v601=true then
   some (Sum.inl ())
  else
  ZC (p0,p1,(W (v201+1)))
 else
 some (Sum.inr ())
 partial_fixpoint
theorem Qaw:∀ x r,ZC x=some r→match x with|(p0,p1,v201)=>LQ f33 33 [1,1,0,1,0,0] 0 ⟨kp 42 [(0,(QaB p0)),(1,(QaB p1)),(5,(Qe v201))],[]⟩ (P2 .ret (fun _ d=>⟨sl d 42 [(4,(Qm false))],[]⟩) (.exit 0) (fun _ d=>⟨sl d 42 [],[]⟩) r):=by
 refine ZC.partial_correctness _ (fun ZC Qaw x r hm=>?_);obtain ⟨p0,p1,v201⟩:=x;exact lp (Qi (gr 2 (QH Ql.toD p0 (re 1 (ri hm (fun hm=>Qk (Qi (Qn (Qi (bi hm fun v601 hs hm=>QY (fun d=>⟨sl d 42 [(0,(QaB p0)),(1,(QaB p1)),(5,(Qe v201)),(41,(Qm v601))],[]⟩) (have hm:=hs;Yv (Qd 2 (QV 3 Ql.toD hm fun v602 hm=>Qd 4 (QV 3 Ql.toD hm fun v603 hm=>Qd 2 (QG rfl (fun _=>Qgj (a:=v602.name) (b:=v603.name) rfl kr kr) (Qd 1 (gs 28 hm (fun hm=>re 13 ⟨kr,zf⟩) (fun hm=>Qd 2 (QV 3 Ql.toD hm fun v604 hm=>Qd 4 (QV 3 Ql.toD hm fun v605 hm=>Qd 2 (bi hm fun v606 hx hm=>cp (Qf4 hx) (re 2 ⟨kr,zf⟩)))))))))))) (fun d=>rib hm (fun hm=>ge 1 (Qj zf)) (fun hm=>Qk (R_G (re 3 (Qaw _ _ hm _ kr)))))))))) (fun hm=>QE zf))))))
def JX (x:((List Ql) × (List Ql))):Option Bool :=
 match x with
 | (p0,p1) =>
 if (p0.length:Int)≠(p1.length:Int) then
  some false
 else
 (
 ZC (p0,p1,0)>>=fun out =>
 match out with
 | .inl _ =>
  some false
 | .inr (_) =>
  some true
 )
theorem QfT {p0 p1 r0} (hm:JX (p0,p1)=some r0):FQ 33 [(.lst ((List.map Ql.toD) p0)),(.lst ((List.map Ql.toD) p1))] (Qm r0):=by
 unfold JX at hm;exact fp (fn:=f33) rfl (ge 1 (Qi (gr 1 (QH Ql.toD p0 (Qd 1 (QH Ql.toD p1 (re 1 (rix hm (fun hm=>ge 1 (Qj zf)) (fun hm=>Qk (Qi (ge 1 (Qn (ru2 hm (Qaw _) (fun _ d hm=>zf) fun _ d hm=>ge 1 (Qj zf))))))))))))))
def Qcz (x:(QA × QA)):Option Bool :=
 match x with
 | (p0,p1) =>
 Qao ((⟨p0.core.kind,p0.core.shape,p0.core.buffer,p0.core.starts,p0.core.axis,p0.core.amount,p0.core.perm,p0.core.kids⟩:Qa),(⟨p1.core.kind,p1.core.shape,p1.core.buffer,p1.core.starts,p1.core.axis,p1.core.amount,p1.core.perm,p1.core.kids⟩:Qa))>>=fun v1 =>
 if v1=true then
  JX (p0.sources,p1.sources)>>=fun v2 =>
  some v2
 else
 some false
theorem QhZ {p0 p1 r0} (hm:Qcz (p0,p1)=some r0):FQ 11 [(QA.toD p0),(QA.toD p1)] (Qm r0):=by
 unfold Qcz at hm;exact fp (fn:=f11) rfl (ge 3 (gr 4 (bi hm fun v1 hx hm=>ZL (Qfe _ _ hx []) (Qd 1 (gsb 10 hm (fun hm=>Qd 4 (bi hm fun v2 hx hm=>cp (QfT hx) (re 2 (Qj zf)))) (fun hm=>re 7 (Qj zf)))))))
def Yo (x:((List Int) × (List Int) × (List Int) × Int × Int)):Option ((List Int)) :=
 match x with
 | (p0,v2,v204,v205,v206) =>
 if v206 < (p0.length:Int) then
  QS (v204.length=v2.length)>>=fun _ =>
  idx v204 (W ((W ((p0.length:Int) - 1)) - v206))>>=fun v605 =>
  setM v204 (W ((W ((p0.length:Int) - 1)) - v206)) v205>>=fun v607 =>
  idx p0 (W ((W ((p0.length:Int) - 1)) - v206))>>=fun v608 =>
  Yo (p0,v2,v607,(W (v205 * v608)),(W (v206+1)))
 else
 some v204
 partial_fixpoint
theorem Qce:∀ x r,Yo x=some r→match x with|(p0,v2,v204,v205,v206)=>LQ f124 124 [1,1,1,1,1,0,1,0,0] 1 ⟨kp 39 [(0,(La p0)),(3,(.arr 0 0 v2.length v2.length)),(4,(Qe v205)),(18,(Qe (p0.length:Int))),(19,(Qe v206))],[(.box (cellsOf Qf v204))]⟩ (P1 (.exit 0) (fun v604 d=>⟨sl d 39 [(3,(.arr 0 0 v2.length v2.length))],[(.box (cellsOf Qf v604))]⟩) r):=by
 refine Yo.partial_correctness _ (fun Yo Qce x r hm=>?_);obtain ⟨p0,v2,v204,v205,v206⟩:=x;exact lp (ge 1 (Qi (ri hm (fun hm=>Qk (Qi (Qn (ge 2 (gr 1 (QH Qf p0 (re 4 (gr 3 (gi hm fun hl606 hm=>bi hm fun v605 hx hm=>QG rfl (fun _=>QgV (e:=3) (l:=v204) (n:=(W ((W ((p0.length:Int) - 1)) - v206))) (i:=0) (cap:=v2.length) (m:=v2.length) hx hl606 kr kr rfl kr kr) (bi hm fun v607 hx hm=>ZR (fun H=>H.set 0 (.box (cellsOf Qf v607))) rfl kr (fun _=>QgW Qf (l:=v204) (n:=(W ((W ((p0.length:Int) - 1)) - v206))) (y:=v205) hx zY kr rfl kr kr kr kr) (Yf (R_G (Qd 3 (QV 1 Qf hm fun v608 hm=>re 3 (R_G (re 2 (Qce _ _ hm _ (prune_of2 [(.box (cellsOf Qf v607))] (fun _=>(pg_cons (purge_box Qf _ _ _) pg_nil)) rfl)))))))))))))))))) (fun hm=>QE zf))))
def QaH (x:(List Int)):Option (List Int) :=
 match x with
 | p0 =>
 Zd p0>>=fun v1 =>
 if v1≠0 then
  some ([]:(List Int))
 else
 makeM 8 (p0.length:Int) 0>>=fun v2 =>
 Z8 p0>>=fun v3 =>
 if v3=0 then
  some v2
 else
 Yo (p0,v2,v2,1,0)>>=fun v604 =>
 QS (v604.length=v2.length)>>=fun _ =>
 some v604
theorem QgU {p0 r0} (hm:QaH p0=some r0):FQ 124 [(Lb p0)] (La r0):=by
 unfold QaH at hm
 exact fp (fn:=f124) rfl (ge 1 (Qi (gr 1 (bi hm fun v1 hx hm=>cp (ZF hx) (re 1 (rix hm (fun hm=>ge 1 (Qj zf)) (fun hm=>Qk (gr 1 (QH Qf p0 (bi hm fun v2 hx hm=>ZR (v:=.arr 0 0 v2.length v2.length) (fun H=>H++[.box (cellsOf Qf v2)]) rfl kr (by intro K hk; exact QeP 0 Qf (z:=0) (n:=(p0.length:Int)) (bytes:=8) hx (e:=3) kr kr kr kr rfl rfl kr kr hk) (re 1 (Qi (gr 1 (bi hm fun v3 hx hm=>cp (QaQ hx) (re 1 (riq hm (fun hm=>ge 2 (Qj (by obtain rfl:=Qij hm; exact ⟨trivial,ZT [(.arr 0 0 v2.length v2.length)] kr (po_arr (pc_arr Qf v2 rfl zY kr))⟩))) (fun hm=>Qk (ge 1 (Qi (gr 1 (QH Qf p0 (re 1 (Qn (ru1 hm (Qce _) (fun v604 d hm=>ge 2 (Qj (gi hm fun hl609 hm=>(by obtain rfl:=Qij hm; exact ⟨trivial,ZT [(.arr 0 0 v2.length v2.length)] kr (po_arr (pc_arr Qf v604 hl609 zY kr))⟩)))) (hst:=(prune_of2 [(.box (cellsOf Qf v2))] (fun _=>(pg_cons (purge_box Qf _ _ _) pg_nil)) rfl))))))))))))))))))))))))))
def Jh (x:(List Int)):Option Yj :=
 match x with
 | p0 =>
 QaH p0>>=fun v1 =>
 some (⟨v1,p0⟩:Yj)
theorem Qe2 {p0 r0} (hm:Jh p0=some r0):FQ 80 [(Lb p0)] (.dat (Yj.toD r0)):=by
 unfold Jh at hm;exact fp (fn:=f80) rfl (ge 1 (gr 1 (bi hm fun v1 hx hm=>cp (QgU hx) (re 3 (Qj zf)))))
def Zu (x:(Yj × (List Int) × (List Int) × Int × Int)):Option ((List Int)) :=
 match x with
 | (p0,v1,v202,v203,v204) =>
 if v204 < (p0.strides.length:Int) then
  idx p0.strides v204>>=fun v603 =>
  quoM v203 v603>>=fun v604 =>
  QS (v202.length=v1.length)>>=fun _ =>
  idx v202 v204>>=fun v605 =>
  setM v202 v204 v604>>=fun v607 =>
  remM v203 v603>>=fun v608 =>
  Zu (p0,v1,v607,v608,(W (v204+1)))
 else
 some v202
 partial_fixpoint
theorem Qaa:∀ x r,Zu x=some r→match x with|(p0,v1,v202,v203,v204)=>LQ f84 84 [1,1,0,1,0,0] 2 ⟨kp 31 [(1,(Qe v203)),(5,(.arr 1 0 v1.length v1.length)),(13,(La p0.strides)),(14,(Qe (p0.strides.length:Int))),(15,(Qe v204))],[(YW p0.strides p0.dims),(.box (cellsOf Qf v202))]⟩ (P1 (.exit 0) (fun v602 d=>⟨sl d 31 [(5,(.arr 1 0 v1.length v1.length))],[(YW p0.strides p0.dims),(.box (cellsOf Qf v602))]⟩) r):=by
 refine Zu.partial_correctness _ (fun Zu Qaa x r hm=>?_);obtain ⟨p0,v1,v202,v203,v204⟩:=x;exact lp (ge 1 (Qi (ri hm (fun hm=>Qk (Qi (Qn (gr 1 (QV 1 Qf hm fun v603 hm=>re 3 (gr 4 (bi hm fun v604 hx hm=>QG rfl (fun _=>Qjq (a:=v203) (b:=v603) hx rfl kr kr) (gi hm fun hl606 hm=>bi hm fun v605 hx hm=>QG rfl (fun _=>QgV (e:=3) (l:=v202) (n:=v204) (i:=1) (cap:=v1.length) (m:=v1.length) hx hl606 kr kr rfl kr kr) (bi hm fun v607 hx hm=>ZR (fun H=>H.set 1 (.box (cellsOf Qf v607))) rfl kr (fun _=>QgW Qf (l:=v202) (n:=v204) (y:=v604) hx zY kr rfl kr kr kr kr) (Yf (R_G (Qd 2 (bi hm fun v608 hx hm=>QG rfl (fun _=>QhN (a:=v203) (b:=v603) hx rfl kr kr) (re 1 (R_G (re 2 (Qaa _ _ hm _ (prune_of2 [(YW p0.strides p0.dims),(.box (cellsOf Qf v607))] (fun _=>(pg_cons kr (pg_cons (purge_box Qf _ _ _) pg_nil))) rfl)))))))))))))))))) (fun hm=>QE zf))))
def JF (x:(Yj × Int)):Option (List Int) :=
 match x with
 | (p0,p1) =>
 makeM 8 (p0.dims.length:Int) 0>>=fun v1 =>
 Zu (p0,v1,v1,p1,0)>>=fun v602 =>
 QS (v602.length=v1.length)>>=fun _ =>
 some v602
theorem QfE {p0 p1 r0} (hm:JF (p0,p1)=some r0):FQ 84 [(Yj.toD p0),(Qf p1)] (La r0):=by
 unfold JF at hm;exact fp (fn:=f84) rfl (ge 2 (gr 2 (QH Qf p0.dims (bi hm fun v1 hx hm=>ZR (v:=.arr 1 0 v1.length v1.length) (fun H=>H++[.box (cellsOf Qf v1)]) rfl kr (by intro K hk; exact QeP 1 Qf (z:=0) (n:=(p0.dims.length:Int)) (bytes:=8) hx (e:=3) kr kr kr kr rfl rfl kr kr hk) (re 1 (Qi (gr 2 (QH Qf p0.strides (re 1 (Qn (ru1 hm (Qaa _) (fun v602 d hm=>ge 2 (Qj (gi hm fun hl609 hm=>(by obtain rfl:=Qij hm; exact ⟨trivial,ZT [(.arr 1 0 v1.length v1.length)] kr (po_arr (pc_arr Qf v602 hl609 zY kr))⟩)))) (hst:=(prune_of2 [(YW p0.strides p0.dims),(.box (cellsOf Qf v1))] (fun _=>(pg_cons kr (pg_cons (purge_box Qf _ _ _) pg_nil))) rfl)))))))))))))
def Jb (x:((List Int) × Int)):Option ((List Int) × Bool) :=
 match x with
 | (p0,p1) =>
 (if p1 < 0 then
  some true
 else
 Z8 p0>>=fun v2 =>
 some (decide (p1≥v2))
 )>>=fun (v1:Bool) =>
 if v1=true then
  some (([]:(List Int)),false)
 else
 Jh p0>>=fun v3 =>
 JF ((⟨v3.strides,v3.dims⟩:Yj),p1)>>=fun v4 =>
 some (v4,true)
theorem Qf0 {p0 p1 r0 r1} (hm:Jb (p0,p1)=some (r0,r1)):FQ 46 [(Lb p0),(Qf p1)] (.tup [(La r0),(Qm r1)]):=by
 unfold Jb at hm;exact fp (fn:=f46) rfl (ge 2 (Qi (Qi (bi hm fun v1 hs hm=>QY (fun d=>⟨sl d 18 [(0,(La p0)),(1,(Qe p1)),(13,(Qm v1))],[]⟩) (have hm:=hs;R_G (Qd 3 (gs 8 hm (fun hm=>re 5 zf) (fun hm=>Qd 2 (bi hm fun v2 hx hm=>cp (QaQ hx) (re 2 zf)))))) (fun d=>rib hm (fun hm=>ge 2 (Qj zf)) (fun hm=>Qk (gr 1 (bi hm fun v3 hx hm=>cp (Qe2 hx) (Qd 1 (bi hm fun v4 hx hm=>cp (QfE hx) (re 2 (Qj zf))))))))))))
def Yw (x:((List Int) × (List Int) × Int)):Option (Unit ⊕ Unit) :=
 match x with
 | (p1,p0,v201) =>
 if v201 < (p1.length:Int) then
  idx p1 v201>>=fun v601 =>
  (if v601 < 0 then
   some true
  else
  idx p0 v201>>=fun v603 =>
  some (decide (v601≥v603))
  )>>=fun (v602:Bool) =>
  if v602=true then
   some (Sum.inl ())
  else
  Yw (p1,p0,(W (v201+1)))
 else
 some (Sum.inr ())
 partial_fixpoint
theorem QcM:∀ x r,Yw x=some r→match x with|(p1,p0,v201)=>LQ f41 41 [1,1,0,1,0,0] 0 ⟨kp 30 [(0,(La p0)),(12,(La p1)),(13,(Qe (p1.length:Int))),(14,(Qe v201))],[]⟩ (P2 .ret (fun _ d=>⟨sl d 30 [(4,(Qm false))],[]⟩) (.exit 0) (fun _ d=>⟨sl d 30 [],[]⟩) r):=by
 refine Yw.partial_correctness _ (fun Yw QcM x r hm=>?_);obtain ⟨p1,p0,v201⟩:=x;exact lp (ge 1 (Qi (ri hm (fun hm=>Qk (Qi (Qn (gr 1 (QV 1 Qf hm fun v601 hm=>re 3 (Qi (bi hm fun v602 hs hm=>QY (fun d=>⟨sl d 30 [(0,(La p0)),(12,(La p1)),(13,(Qe (p1.length:Int))),(14,(Qe v201)),(28,(Qm v602))],[]⟩) (have hm:=hs;R_G (Qd 3 (gs 21 hm (fun hm=>re 7 zf) (fun hm=>Qd 3 (QV 1 Qf hm fun v603 hm=>re 3 zf))))) (fun d=>rib hm (fun hm=>ge 1 (Qj zf)) (fun hm=>Qk (R_G (re 2 (QcM _ _ hm _ kr)))))))))))) (fun hm=>QE zf))))
def Jc (x:((List Int) × (List Int))):Option Bool :=
 match x with
 | (p0,p1) =>
 if (p1.length:Int)≠(p0.length:Int) then
  some false
 else
 (
 Yw (p1,p0,0)>>=fun out =>
 match out with
 | .inl _ =>
  some false
 | .inr (_) =>
  some true
 )
theorem Qdd {p0 p1 r0} (hm:Jc (p0,p1)=some r0):FQ 41 [(Lb p0),(Lb p1)] (Qm r0):=by
 unfold Jc at hm;exact fp (fn:=f41) rfl (ge 1 (Qi (gr 1 (QH Qf p1 (Qd 1 (QH Qf p0 (re 1 (rix hm (fun hm=>ge 1 (Qj zf)) (fun hm=>Qk (Qi (gr 1 (QH Qf p1 (re 1 (Qn (ru2 hm (QcM _) (fun _ d hm=>zf) fun _ d hm=>ge 1 (Qj zf))))))))))))))))
def YO (x:((List Int) × (List Int) × Int × Int)):Option (Int) :=
 match x with
 | (p1,p0,v201,v202) =>
 if v202 < (if (p1.length:Int) < (p0.length:Int) then (p1.length:Int) else (p0.length:Int)) then
  idx p0 v202>>=fun v602 =>
  idx p1 v202>>=fun v603 =>
  YO (p1,p0,(W (v201+(W (v602 * v603)))),(W (v202+1)))
 else
 some v201
 partial_fixpoint
theorem Qd3:∀ x r,YO x=some r→match x with|(p1,p0,v201,v202)=>LQ f125 125 [1,1,0,1,0,0] 0 ⟨kp 28 [(0,(La p0)),(1,(La p1)),(5,(Qe v201)),(11,(Qe (if (p1.length:Int) < (p0.length:Int) then (p1.length:Int) else (p0.length:Int)))),(12,(Qe v202))],[]⟩ (P1 (.exit 0) (fun v601 d=>⟨sl d 28 [(5,(Qe v601))],[]⟩) r):=by
 refine YO.partial_correctness _ (fun YO Qd3 x r hm=>?_);obtain ⟨p1,p0,v201,v202⟩:=x;exact lp (ge 1 (Qi (ri hm (fun hm=>Qk (Qi (Qn (ge 2 (Yv (Qd 3 (QV 1 Qf hm fun v602 hm=>Qd 3 (QV 1 Qf hm fun v603 hm=>re 4 ⟨kr,R_G (re 2 (Qd3 _ _ hm _ kr))⟩)))))))) (fun hm=>QE zf))))
def Qel (x:((List Int) × (List Int))):Option Int :=
 match x with
 | (p0,p1) =>
 YO (p1,p0,0,0)>>=fun v601 =>
 some v601
theorem Qiu {p0 p1 r0} (hm:Qel (p0,p1)=some r0):FQ 125 [(Lb p0),(Lb p1)] (Qe r0):=by
 unfold Qel at hm;exact fp (fn:=f125) rfl (ge 1 (ge 1 (Qi (gr 1 (QH Qf p0 (Qd 1 (QH Qf p1 (QG rfl (fun _=>QiX (k:=.i64) (m:=(p0.length:Int)) (n:=(p1.length:Int)) rfl kr kr) (re 1 (Qn (ru1 hm (Qd3 _) fun v601 d hm=>ge 2 (Qj zf))))))))))))
def JW (x:((List Int) × (List Int))):Option Int :=
 match x with
 | (p0,p1) =>
 Qel (p0,p1)>>=fun v1 =>
 some v1
theorem QfR {p0 p1 r0} (hm:JW (p0,p1)=some r0):FQ 81 [(Lb p0),(Lb p1)] (Qe r0):=by
 unfold JW at hm;exact fp (fn:=f81) rfl (ge 1 (gr 2 (bi hm fun v1 hx hm=>cp (Qiu hx) (re 1 (Qj zf)))))
def J4 (x:((List Int) × (List Int))):Option (Int × Bool) :=
 match x with
 | (p0,p1) =>
 Jc (p0,p1)>>=fun v1 =>
 if v1=false then
  some (0,false)
 else
 Jh p0>>=fun v2 =>
 JW (v2.strides,p1)>>=fun v3 =>
 some (v3,true)
theorem QfD {p0 p1 r0 r1} (hm:J4 (p0,p1)=some (r0,r1)):FQ 42 [(Lb p0),(Lb p1)] (.tup [(Qe r0),(Qm r1)]):=by
 unfold J4 at hm;exact fp (fn:=f42) rfl (ge 2 (Qi (gr 2 (bi hm fun v1 hx hm=>cp (Qdd hx) (re 1 (rin hm (fun hm=>ge 2 (Qj zf)) (fun hm=>Qk (gr 1 (bi hm fun v2 hx hm=>cp (Qe2 hx) (Qd 2 (bi hm fun v3 hx hm=>cp (QfR hx) (re 2 (Qj zf)))))))))))))
def Qal (x:(Int × (List Int) × Int × (List Int) × Int × Int × (List Int) × (List Qh) × (List Int))):Option (Unit) :=
 match x with
 | (q0,q1,q2,q3,q4,q5,q6,q7,q8) =>
 some ()
theorem Qgd {q0 q1 q2 q3 q4 q5 q6 q7 q8} (hm:Qal (q0,q1,q2,q3,q4,q5,q6,q7,q8)=some ()):PC prog env 235 [(Qbd q0 q1 q2 q3 q4 q5 q6 q7),(.ms 1 1 0 q8.length q8.length)] (QdS q0 q1 q2 q3 q4 q5 q6 q7 q8) (.tup [(Qe 0),Ea,(Qm false)]) (Qbc q0 q1 q2 q3 q4 q5 q6 q7 q8):=by
 unfold Qal at hm;exact PC_sxB (fn:=f235) rfl (ge 4 (ge 3 (Qj zf)))
def Zf (x:((List Int) × (List Int) × Int × (List Int) × Int × Int × Int × (List Int) × (List Qh) × (List Int) × Int)):Option ((List Int)) :=
 match x with
 | (q3,q8,q0,q1,q2,q4,q5,q6,q7,v201,v202) =>
 if v202 < (q3.length:Int) then
  idx q3 v202>>=fun v602 =>
  QS (v201.length=q8.length)>>=fun _ =>
  idx v201 v202>>=fun v603 =>
  idx v201 v202>>=fun v605 =>
  QS (v201.length=q8.length)>>=fun _ =>
  idx v201 v202>>=fun v606 =>
  setM v201 v202 (W (v605+v602))>>=fun v608 =>
  Zf (q3,q8,q0,q1,q2,q4,q5,q6,q7,v608,(W (v202+1)))
 else
 some v201
 partial_fixpoint
theorem Jt:∀ x r,Zf x=some r→match x with|(q3,q8,q0,q1,q2,q4,q5,q6,q7,v201,v202)=>LQ f237 237 [1,0,1,0,0] 3 ⟨kp 34 [(1,(.ms 1 1 0 q8.length q8.length)),(2,(.ptr 2 0)),(10,(La q3)),(11,(Qe (q3.length:Int))),(12,(Qe v202))],(Qbc q0 q1 q2 q3 q4 q5 q6 q7 v201)⟩ (P1 (.exit 0) (fun v601 d=>⟨sl d 34 [(1,(.ms 1 1 0 q8.length q8.length)),(2,(.ptr 2 0))],(Qbc q0 q1 q2 q3 q4 q5 q6 q7 v601)⟩) r):=by
 refine Zf.partial_correctness _ (fun Zf Jt x r hm=>?_);obtain ⟨q3,q8,q0,q1,q2,q4,q5,q6,q7,v201,v202⟩:=x
 exact lp (ge 1 (Qi (ri hm (fun hm=>Qk (Qi (Qn (gr 1 (QV 1 Qf hm fun v602 hm=>re 3 (R_G (Qd 2 (gi hm fun hl604 hm=>bi hm fun v603 hx hm=>QG rfl (fun _=>ZS (e:=3) (n:=v202) (j:=(v202).toNat) (tt:=1) (g:=1) (lo:=0) (len:=q8.length) (cap:=q8.length) (k:=.i64) kr kr rfl kr kr (idx_nat hx) (jY (idx_lt hx) hl604)) (bi hm fun v605 hx hm=>QG rfl (fun _=>Qaz (tt:=1) (g:=1) (j:=(0+(v202).toNat)) (e:=3) (cs:=cellsOf Qf v201) (v:=.dat (Qf v605)) kr kr rfl kr (Z2 kr) (cells_idx Qf hx)) (Qd 2 (gi hm fun hl607 hm=>bi hm fun v606 hx hm=>QG rfl (fun _=>ZS (e:=3) (n:=v202) (j:=(v202).toNat) (tt:=1) (g:=1) (lo:=0) (len:=q8.length) (cap:=q8.length) (k:=.i64) kr kr rfl kr kr (idx_nat hx) (jY (idx_lt hx) hl607)) (bi hm fun v608 hx hm=>ZR (fun H=>H.set 1 (QB v608)) rfl kr (fun _=>QeA Qf (l:=v201) (n:=v202) (y:=(W (v605+v602))) hx zY kr rfl kr kr kr kr) (Yf (R_G (re 2 (Jt _ _ hm _ (prune_of2 (Qbc q0 q1 q2 q3 q4 q5 q6 q7 v608) (fun _=>(pg_cons kr (pg_cons (purge_mt Qf _ _ _ _ _) (pg_cons kr pg_nil)))) rfl))))))))))))))))) (fun hm=>QE zf))))
def XP (x:(Int × (List Int) × Int × (List Int) × Int × Int × (List Int) × (List Qh) × (List Int))):Option ((List Int) ⊕ (List Int)) :=
 match x with
 | (q0,q1,q2,q3,q4,q5,q6,q7,q8) =>
 Zf (q3,q8,q0,q1,q2,q4,q5,q6,q7,q8,0)>>=fun v601 =>
 idx q7 0>>=fun v609 =>
 QS (v601.length=q8.length)>>=fun _ =>
 Jc (v609.shape,v601)>>=fun v611 =>
 if v611=false then
  some (Sum.inl v601)
 else
 some (Sum.inr v601)
theorem Qcj {q0 q1 q2 q3 q4 q5 q6 q7 q8 r} (hm:XP (q0,q1,q2,q3,q4,q5,q6,q7,q8)=some r):PC prog env 237 [(Qbd q0 q1 q2 q3 q4 q5 q6 q7),(.ms 1 1 0 q8.length q8.length)] (QdS q0 q1 q2 q3 q4 q5 q6 q7 q8) (match r with|.inl v5001=>(.tup [(Qe 0),Ea,(Qm false)])|.inr (v5002)=>(.tup [(Qe 0),(.ms 1 1 0 q8.length q8.length),(Qm true)])) (match r with|.inl v5001=>(Qbc q0 q1 q2 q3 q4 q5 q6 q7 v5001)|.inr (v5002)=>(Qbc q0 q1 q2 q3 q4 q5 q6 q7 v5002)):=by
 unfold XP at hm;exact PC_sxB (fn:=f237) rfl (ge 4 (Qi (gr 2 (QH Qf q3 (re 1 (Qn (ru1 hm (Jt _) (fun v601 d hm=>Qi (gr 2 (bi hm fun v609 hx hm=>XA 8 Qh.toD q7 0 v609 (es:=Qh.toDs q7) (d:=(Qh.ex v609)) (Qh.toDs_eq _) hx (Qh.toD_eq v609) rfl (Qd 3 (gi hm fun hl610 hm=>bi hm fun v611 hx hm=>QdH (args:=[(La v609.shape),(.ms 1 1 0 q8.length q8.length)]) (Qdd hx []) (ps_cons kr (ps_cons (p1_ms (pc_ms (e:=3) Qf v601 hl610 zY kr)) ps_nil)) (re 1 (rin hm (fun hm=>ge 3 (Qj zf)) (fun hm=>Qk (ge 4 (Qj zf)))))))))) (hst:=(prune_of2 (Qbc q0 q1 q2 q3 q4 q5 q6 q7 q8) (fun _=>(pg_cons kr (pg_cons (purge_mt Qf _ _ _ _ _) (pg_cons kr pg_nil)))) rfl)))))))))
def Xu (x:(Int × (List Int) × Int × (List Int) × Int × Int × (List Int) × (List Qh) × (List Int))):Option ((List Int)) :=
 match x with
 | (q0,q1,q2,q3,q4,q5,q6,q7,q8) =>
 idx q1 q4>>=fun v1 =>
 idx q8 q4>>=fun v2 =>
 idx q8 q4>>=fun v3 =>
 idx q8 q4>>=fun v4 =>
 setM q8 q4 (W ((W (v1 - 1)) - v3))>>=fun v5 =>
 some v5
theorem QeF {q0 q1 q2 q3 q4 q5 q6 q7 q8 v5001} (hm:Xu (q0,q1,q2,q3,q4,q5,q6,q7,q8)=some v5001):PC prog env 239 [(Qbd q0 q1 q2 q3 q4 q5 q6 q7),(.ms 1 1 0 q8.length q8.length)] (QdS q0 q1 q2 q3 q4 q5 q6 q7 q8) (.tup [(Qe 0),(.ms 1 1 0 q8.length q8.length),(Qm true)]) (Qbc q0 q1 q2 q3 q4 q5 q6 q7 v5001):=by
 unfold Xu at hm;exact PC_sxB (fn:=f239) rfl (ge 4 (Qi (Yv (Qd 7 (QV 1 Qf hm fun v1 hm=>Qd 5 (bi hm fun v2 hx hm=>QG rfl (fun _=>ZS (e:=3) (n:=q4) (j:=(q4).toNat) (tt:=1) (g:=1) (lo:=0) (len:=q8.length) (cap:=q8.length) (k:=.i64) kr kr rfl kr kr (idx_nat hx) (jY (idx_lt hx) rfl)) (bi hm fun v3 hx hm=>QG rfl (fun _=>Qaz (tt:=1) (g:=1) (j:=(0+(q4).toNat)) (e:=3) (cs:=cellsOf Qf q8) (v:=.dat (Qf v3)) kr kr rfl kr (Z2 kr) (cells_idx Qf hx)) (Qd 1 (bi hm fun v4 hx hm=>QG rfl (fun _=>ZS (e:=3) (n:=q4) (j:=(q4).toNat) (tt:=1) (g:=1) (lo:=0) (len:=q8.length) (cap:=q8.length) (k:=.i64) kr kr rfl kr kr (idx_nat hx) (jY (idx_lt hx) rfl)) (bi hm fun v5 hx hm=>ZR (fun H=>H.set 1 (QB v5)) rfl kr (fun _=>QeA Qf (l:=q8) (n:=q4) (y:=(W ((W (v1 - 1)) - v3))) hx zY kr rfl kr kr kr kr) (Yf ⟨kr,ge 4 (Qj zf)⟩)))))))))))
def XO (x:(Int × (List Int) × Int × (List Int) × Int × Int × (List Int) × (List Qh) × (List Int))):Option ((List Int)) :=
 match x with
 | (q0,q1,q2,q3,q4,q5,q6,q7,q8) =>
 idx q8 q4>>=fun v1 =>
 idx q8 q4>>=fun v2 =>
 idx q1 q4>>=fun v3 =>
 Jr ((W (v2+q5)),v3)>>=fun v4 =>
 idx q8 q4>>=fun v5 =>
 setM q8 q4 v4>>=fun v6 =>
 some v6
theorem Qe0 {q0 q1 q2 q3 q4 q5 q6 q7 q8 v5001} (hm:XO (q0,q1,q2,q3,q4,q5,q6,q7,q8)=some v5001):PC prog env 241 [(Qbd q0 q1 q2 q3 q4 q5 q6 q7),(.ms 1 1 0 q8.length q8.length)] (QdS q0 q1 q2 q3 q4 q5 q6 q7 q8) (.tup [(Qe 0),(.ms 1 1 0 q8.length q8.length),(Qm true)]) (Qbc q0 q1 q2 q3 q4 q5 q6 q7 v5001):=by
 unfold XO at hm;exact PC_sxB (fn:=f241) rfl (ge 4 (Qi (Yv (Qd 6 (bi hm fun v1 hx hm=>QG rfl (fun _=>ZS (e:=3) (n:=q4) (j:=(q4).toNat) (tt:=1) (g:=1) (lo:=0) (len:=q8.length) (cap:=q8.length) (k:=.i64) kr kr rfl kr kr (idx_nat hx) (jY (idx_lt hx) rfl)) (bi hm fun v2 hx hm=>QG rfl (fun _=>Qaz (tt:=1) (g:=1) (j:=(0+(q4).toNat)) (e:=3) (cs:=cellsOf Qf q8) (v:=.dat (Qf v2)) kr kr rfl kr (Z2 kr) (cells_idx Qf hx)) (Qd 7 (QV 1 Qf hm fun v3 hm=>Qd 1 (bi hm fun v4 hx hm=>cp (Qgh hx) (bi hm fun v5 hx hm=>QG rfl (fun _=>ZS (e:=3) (n:=q4) (j:=(q4).toNat) (tt:=1) (g:=1) (lo:=0) (len:=q8.length) (cap:=q8.length) (k:=.i64) kr kr rfl kr kr (idx_nat hx) (jY (idx_lt hx) rfl)) (bi hm fun v6 hx hm=>ZR (fun H=>H.set 1 (QB v6)) rfl kr (fun _=>QeA Qf (l:=q8) (n:=q4) (y:=v4) hx zY kr rfl kr kr kr kr) (Yf ⟨kr,ge 4 (Qj zf)⟩))))))))))))
def QZ (x:((List Int) × (List Int) × Int × (List Int) × Int × (List Int) × Int × Int × (List Qh) × (List Int) × Int)):Option ((List Int)) :=
 match x with
 | (q6,q8,q0,q1,q2,q3,q4,q5,q7,v201,v202) =>
 if v202 < (q6.length:Int) then
  idx q6 v202>>=fun v602 =>
  idx q8 v602>>=fun v603 =>
  idx q8 v602>>=fun v604 =>
  app 8 v201 ([v604]:List Int)>>=fun v605 =>
  QZ (q6,q8,q0,q1,q2,q3,q4,q5,q7,v605,(W (v202+1)))
 else
 some v201
 partial_fixpoint
theorem XK:∀ x r,QZ x=some r→match x with|(q6,q8,q0,q1,q2,q3,q4,q5,q7,v201,v202)=>LQ f243 243 [1,1,0,1,0,0] 4 ⟨kp 26 [(1,(.ms 1 1 0 q8.length q8.length)),(7,(Qdi v201)),(11,(La q6)),(12,(Qe (q6.length:Int))),(13,(Qe v202))],(Qgp q0 q1 q2 q3 q4 q5 q6 q7 q8 v201.length)⟩ (P1 (.exit 0) (fun v601 d=>⟨sl d 26 [(7,(Qdi v601))],(Qgp q0 q1 q2 q3 q4 q5 q6 q7 q8 v601.length)⟩) r):=by
 refine QZ.partial_correctness _ (fun QZ XK x r hm=>?_);obtain ⟨q6,q8,q0,q1,q2,q3,q4,q5,q7,v201,v202⟩:=x
 exact lp (ge 1 (Qi (ri hm (fun hm=>Qk (Qi (Qn (Qi (R_G (QV 1 Qf hm fun v602 hm=>re 2 (R_G (Qd 3 (bi hm fun v603 hx hm=>QG rfl (fun _=>ZS (e:=3) (n:=v602) (j:=(v602).toNat) (tt:=1) (g:=1) (lo:=0) (len:=q8.length) (cap:=q8.length) (k:=.i64) kr kr rfl kr kr (idx_nat hx) (jY (idx_lt hx) rfl)) (bi hm fun v604 hx hm=>QG rfl (fun _=>Qaz (tt:=1) (g:=1) (j:=(0+(v602).toNat)) (e:=3) (cs:=cellsOf Qf q8) (v:=.dat (Qf v604)) kr kr rfl kr (Z2 kr) (cells_idx Qf hx)) (Qd 1 (bi hm fun v605 hx hm=>Y9 3 1 8 3 Qf v201 ([v604]:List Int) v605 (xs:=(List.map Qf) v201) (es:=(List.map Qf) ([v604]:List Int)) (L:=(List.map Qf)) zY rfl rfl zY hx (re 1 (R_G (re 2 (XK _ _ hm _ (prune_of2 (Qgp q0 q1 q2 q3 q4 q5 q6 q7 q8 v605.length) (fun _=>(pg_cons kr (pg_cons (purge_mt Qf _ _ _ _ _) (pg_cons kr (pg_cons kr pg_nil))))) rfl))))))))))))))))) (fun hm=>QE zf))))
def Xc (x:(Int × (List Int) × Int × (List Int) × Int × Int × (List Int) × (List Qh) × (List Int))):Option ((List Int)) :=
 match x with
 | (q0,q1,q2,q3,q4,q5,q6,q7,q8) =>
 QZ (q6,q8,q0,q1,q2,q3,q4,q5,q7,([]:List Int),0)>>=fun v601 =>
 some v601
theorem Qd2 {q0 q1 q2 q3 q4 q5 q6 q7 q8 v5001} (hm:Xc (q0,q1,q2,q3,q4,q5,q6,q7,q8)=some v5001):PC prog env 243 [(Qbd q0 q1 q2 q3 q4 q5 q6 q7),(.ms 1 1 0 q8.length q8.length)] (QdS q0 q1 q2 q3 q4 q5 q6 q7 q8) (.tup [(Qe 0),(Qdi v5001),(Qm true)]) (Qgp q0 q1 q2 q3 q4 q5 q6 q7 q8 v5001.length):=by
 unfold Xc at hm;exact PC_sxB (fn:=f243) rfl (ge 4 (ge 1 (Qi (gr 2 (QH Qf q6 (re 1 (Qn (ru1 hm (XK _) (fun v601 d hm=>ge 4 (Qj zf)) (hst:=(prune_of2 [(JE q0 q1 q2 q3 q4 q5 q6 q7),(QB q8),(JE q0 q1 q2 q3 q4 q5 q6 q7),(.tok 3 (([]:List Int).length))] (fun _=>(pg_cons kr (pg_cons (purge_mt Qf _ _ _ _ _) (pg_cons kr (pg_cons kr pg_nil))))) rfl))))))))))
def YN (x:(Int × (List Int) × Int × (List Int) × Int × Int × (List Int) × (List Qh) × (List Int))):Option (((List Int) × Bool)) :=
 match x with
 | (q0,q1,q2,q3,q4,q5,q6,q7,q8) =>
 J4 (q1,q8)>>=fun (v1,v2) =>
 idx q7 0>>=fun v3 =>
 Z8 v3.shape>>=fun v4 =>
 idx q7 0>>=fun v5 =>
 Jr (v1,v4)>>=fun v6 =>
 Jb (v5.shape,v6)>>=fun (v7,v8) =>
 some (v7,v8)
theorem QeE {q0 q1 q2 q3 q4 q5 q6 q7 q8 v5001 v5002} (hm:YN (q0,q1,q2,q3,q4,q5,q6,q7,q8)=some (v5001,v5002)):PC prog env 244 [(Qbd q0 q1 q2 q3 q4 q5 q6 q7),(.ms 1 1 0 q8.length q8.length)] (QdS q0 q1 q2 q3 q4 q5 q6 q7 q8) (.tup [(Qe 0),(La v5001),(Qm v5002)]) (Qbc q0 q1 q2 q3 q4 q5 q6 q7 q8):=by
 unfold YN at hm;exact PC_sxB (fn:=f244) rfl (ge 4 (gr 3 (bi2 hm fun v1 v2 hx hm=>QdH (args:=[(La q1),(.ms 1 1 0 q8.length q8.length)]) (QfD hx []) (ps_cons kr (ps_cons (p1_ms (pc_ms (e:=3) Qf q8 rfl zY kr)) ps_nil)) (re 5 (gr 2 (bi hm fun v3 hx hm=>XA 8 Qh.toD q7 0 v3 (es:=Qh.toDs q7) (d:=(Qh.ex v3)) (Qh.toDs_eq _) hx (Qh.toD_eq v3) rfl (Qd 2 (bi hm fun v4 hx hm=>cp (QaQ hx) (re 1 (Qi (Yv (Qd 2 (bi hm fun v5 hx hm=>XA 8 Qh.toD q7 0 v5 (es:=Qh.toDs q7) (d:=(Qh.ex v5)) (Qh.toDs_eq _) hx (Qh.toD_eq v5) rfl (Qd 4 (bi hm fun v6 hx hm=>cp (Qgh hx) (bi2 hm fun v7 v8 hx hm=>cp (Qf0 hx) (re 5 ⟨kr,ge 5 (Qj zf)⟩)))))))))))))))))
def YG (x:(Int × (List Int) × Int × (List Int) × Int × Int × (List Int) × (List Qh) × (List Int))):Option (((List Int) × Int)) :=
 match x with
 | (q0,q1,q2,q3,q4,q5,q6,q7,q8) =>
 idx q7 0>>=fun v1 =>
 idx v1.shape q4>>=fun v2 =>
 idx q8 q4>>=fun v3 =>
 idx q8 q4>>=fun v4 =>
 if v4 < v2 then
  some (q8,0)
 else
 idx q8 q4>>=fun v5 =>
 idx q8 q4>>=fun v6 =>
 idx q8 q4>>=fun v7 =>
 setM q8 q4 (W (v6 - v2))>>=fun v8 =>
 some (v8,1)
theorem Qei {q0 q1 q2 q3 q4 q5 q6 q7 q8 v5001 v5002} (hm:YG (q0,q1,q2,q3,q4,q5,q6,q7,q8)=some (v5001,v5002)):PC prog env 246 [(Qbd q0 q1 q2 q3 q4 q5 q6 q7),(.ms 1 1 0 q8.length q8.length)] (QdS q0 q1 q2 q3 q4 q5 q6 q7 q8) (.tup [(Qe v5002),(.ms 1 1 0 q8.length q8.length),(Qm true)]) (Qbc q0 q1 q2 q3 q4 q5 q6 q7 v5001):=by
 unfold YG at hm
 exact PC_sxB (fn:=f246) rfl (ge 4 (Qi (Yv (Qd 2 (bi hm fun v1 hx hm=>XA 8 Qh.toD q7 0 v1 (es:=Qh.toDs q7) (d:=(Qh.ex v1)) (Qh.toDs_eq _) hx (Qh.toD_eq v1) rfl (Qd 4 (QV 1 Qf hm fun v2 hm=>re 2 ⟨kr,Qi (gr 3 (bi hm fun v3 hx hm=>QG rfl (fun _=>ZS (e:=3) (n:=q4) (j:=(q4).toNat) (tt:=1) (g:=1) (lo:=0) (len:=q8.length) (cap:=q8.length) (k:=.i64) kr kr rfl kr kr (idx_nat hx) (jY (idx_lt hx) rfl)) (bi hm fun v4 hx hm=>QG rfl (fun _=>Qaz (tt:=1) (g:=1) (j:=(0+(q4).toNat)) (e:=3) (cs:=cellsOf Qf q8) (v:=.dat (Qf v4)) kr kr rfl kr (Z2 kr) (cells_idx Qf hx)) (re 2 (ri hm (fun hm=>ge 4 (Qj zf)) (fun hm=>Qk (gr 3 (bi hm fun v5 hx hm=>QG rfl (fun _=>ZS (e:=3) (n:=q4) (j:=(q4).toNat) (tt:=1) (g:=1) (lo:=0) (len:=q8.length) (cap:=q8.length) (k:=.i64) kr kr rfl kr kr (idx_nat hx) (jY (idx_lt hx) rfl)) (bi hm fun v6 hx hm=>QG rfl (fun _=>Qaz (tt:=1) (g:=1) (j:=(0+(q4).toNat)) (e:=3) (cs:=cellsOf Qf q8) (v:=.dat (Qf v6)) kr kr rfl kr (Z2 kr) (cells_idx Qf hx)) (Qd 2 (bi hm fun v7 hx hm=>QG rfl (fun _=>ZS (e:=3) (n:=q4) (j:=(q4).toNat) (tt:=1) (g:=1) (lo:=0) (len:=q8.length) (cap:=q8.length) (k:=.i64) kr kr rfl kr kr (idx_nat hx) (jY (idx_lt hx) rfl)) (bi hm fun v8 hx hm=>ZR (fun H=>H.set 1 (QB v8)) rfl kr (fun _=>QeA Qf (l:=q8) (n:=q4) (y:=(W (v6 - v2))) hx zY kr rfl kr kr kr kr) (Yf (ge 4 (Qj zf)))))))))))))))⟩)))))))
def YK (x:(Qh × (List Int))):Option (Int × (List Int) × Bool) :=
 match x with
 | (p0,p1) =>
 Jc (p0.shape,p1)>>=fun v1 =>
 if v1=false then
  some (0,([]:(List Int)),false)
 else
 QS (0≤p0.kind∧p0.kind < 8)>>=fun _ =>
 if p0.kind=0 then
  none
 else
 if p0.kind=1 then
  Qs p1>>=fun v3 =>
  Qal (p0.kind,p0.shape,p0.buffer,p0.starts,p0.axis,p0.amount,p0.perm,p0.kids,v3)>>=fun _ =>
  some (0,([]:(List Int)),false)
 else
 if p0.kind=2 then
  Qs p1>>=fun v4 =>
  (
  XP (p0.kind,p0.shape,p0.buffer,p0.starts,p0.axis,p0.amount,p0.perm,p0.kids,v4)>>=fun out =>
  match out with
  | .inl v5 =>
   some (0,([]:(List Int)),false)
  | .inr (v6) =>
   QS (v6.length=v4.length)>>=fun _ =>
   some (0,v6,true)
  )
 else
 if p0.kind=3 then
  Qs p1>>=fun v8 =>
  Xu (p0.kind,p0.shape,p0.buffer,p0.starts,p0.axis,p0.amount,p0.perm,p0.kids,v8)>>=fun v9 =>
  QS (v9.length=v8.length)>>=fun _ =>
  some (0,v9,true)
 else
 if p0.kind=4 then
  Qs p1>>=fun v11 =>
  XO (p0.kind,p0.shape,p0.buffer,p0.starts,p0.axis,p0.amount,p0.perm,p0.kids,v11)>>=fun v12 =>
  QS (v12.length=v11.length)>>=fun _ =>
  some (0,v12,true)
 else
 if p0.kind=5 then
  Qs p1>>=fun v14 =>
  Xc (p0.kind,p0.shape,p0.buffer,p0.starts,p0.axis,p0.amount,p0.perm,p0.kids,v14)>>=fun v15 =>
  some (0,v15,true)
 else
 if p0.kind=6 then
  Qs p1>>=fun v16 =>
  YN (p0.kind,p0.shape,p0.buffer,p0.starts,p0.axis,p0.amount,p0.perm,p0.kids,v16)>>=fun (v17,v18) =>
  some (0,v17,v18)
 else
 if p0.kind=7 then
  Qs p1>>=fun v19 =>
  YG (p0.kind,p0.shape,p0.buffer,p0.starts,p0.axis,p0.amount,p0.perm,p0.kids,v19)>>=fun (v20,v21) =>
  QS (v20.length=v19.length)>>=fun _ =>
  some (v21,v20,true)
 else
 none
theorem Qis {p0 p1 r0 r1 r2} (hm:YK (p0,p1)=some (r0,r1,r2)):FQ 43 [(Qh.ex p0),(Lb p1)] (.tup [(Qe r0),(La r1),(Qm r2)]):=by
 unfold YK at hm;refine fp (fn:=f43) rfl (ge 4 (Qi (gr 3 (bi hm fun v1 hx hm=>cp (Qdd hx) (re 1 (rin hm (fun hm=>ge 3 (Qj zf)) (fun hm=>Qk (Qi (Yv (Qd 2 (gi hm fun hl2 hm=>Qjt 8 3 [(Qf 0),(.raw .nilFunc),(.raw .nilFunc),(Qf 0),(.raw (.func (.func 234) #[] #[])),(.raw (.func (.func 235) #[] #[])),(Qf 1),(.raw (.func (.func 236) #[] #[])),(.raw (.func (.func 237) #[] #[])),(Qf 1),(.raw (.func (.func 238) #[] #[])),(.raw (.func (.func 239) #[] #[])),(Qf 1),(.raw (.func (.func 240) #[] #[])),(.raw (.func (.func 241) #[] #[])),(Qf 1),(.raw (.func (.func 242) #[] #[])),(.raw (.func (.func 243) #[] #[])),(Qf 1),(.raw (.func (.func 234) #[] #[])),(.raw (.func (.func 244) #[] #[])),(Qf 2),(.raw (.func (.func 245) #[] #[])),(.raw (.func (.func 246) #[] #[]))] p0.kind hl2 (Qd 1 ?_))))))))))));by_cases hc:p0.kind=((0:Nat):Int)
 ·replace hm:=Qdc (show p0.kind=0 from hc) hm;exact (Qhk hm).elim
 replace hm:=Qdb (show ¬ p0.kind=0 from hc) hm;by_cases hc:p0.kind=((1:Nat):Int)
 ·replace hm:=Qdc (show p0.kind=1 from hc) hm;refine Qgb 1 3 2 [(Qf 0),(.raw .nilFunc),(.raw .nilFunc),(Qf 0),(.raw (.func (.func 234) #[] #[])),(.raw (.func (.func 235) #[] #[])),(Qf 1),(.raw (.func (.func 236) #[] #[])),(.raw (.func (.func 237) #[] #[])),(Qf 1),(.raw (.func (.func 238) #[] #[])),(.raw (.func (.func 239) #[] #[])),(Qf 1),(.raw (.func (.func 240) #[] #[])),(.raw (.func (.func 241) #[] #[])),(Qf 1),(.raw (.func (.func 242) #[] #[])),(.raw (.func (.func 243) #[] #[])),(Qf 1),(.raw (.func (.func 234) #[] #[])),(.raw (.func (.func 244) #[] #[])),(Qf 2),(.raw (.func (.func 245) #[] #[])),(.raw (.func (.func 246) #[] #[]))] p0.kind (.raw (.func (.func 235) #[] #[])) hc ?_;refine Qd 2 ?_;obtain ⟨v3,hx,hm⟩:=Zo hm;have hq:=Qv hx;have hl9:mtOf [Blk.mt 3 (cgm_slices_Clone_int_int v3) (cellsOf Qf v3)] 0=some (3,cgm_slices_Clone_int_int v3,cellsOf Qf v3):=Z2 (by kernel_rfl)
  refine ZR (v:=.ms 1 1 0 v3.length v3.length) (fun H=>H++[.mt 3 1 (cellsOf Qf v3)]) rfl (by kernel_rfl) ?_ ?_
  ·intro K hk;refine Qba 1 (first:=#[]) (cap:=#[]) (j:=(0,3)) (ow':=[]) (f0:=Qf) (l:=v3) rfl ?_ ?_ ?_ (ds:=[.lst ((List.map Qf) p1)]) ?_ hq hl9 ?_ ?_ ?_
   ·kernel_rfl
   ·kernel_rfl
   ·kernel_rfl
   ·kernel_rfl
   ·exact hk
   ·kernel_rfl
   ·decide
  obtain ⟨_,hx,hm⟩:=Zo hm;have hq:=Qgd hx;refine QM hq ?_;refine Qd 6 ?_;refine Yf ⟨by kernel_rfl,?_⟩;refine Qj ?_;obtain ⟨rfl,rfl,rfl⟩:=QhQ hm;exact ⟨trivial,Qfx⟩
 replace hm:=Qdb (show ¬ p0.kind=1 from hc) hm;by_cases hc:p0.kind=((2:Nat):Int)
 ·replace hm:=Qdc (show p0.kind=2 from hc) hm;refine Qgb 2 3 2 [(Qf 0),(.raw .nilFunc),(.raw .nilFunc),(Qf 0),(.raw (.func (.func 234) #[] #[])),(.raw (.func (.func 235) #[] #[])),(Qf 1),(.raw (.func (.func 236) #[] #[])),(.raw (.func (.func 237) #[] #[])),(Qf 1),(.raw (.func (.func 238) #[] #[])),(.raw (.func (.func 239) #[] #[])),(Qf 1),(.raw (.func (.func 240) #[] #[])),(.raw (.func (.func 241) #[] #[])),(Qf 1),(.raw (.func (.func 242) #[] #[])),(.raw (.func (.func 243) #[] #[])),(Qf 1),(.raw (.func (.func 234) #[] #[])),(.raw (.func (.func 244) #[] #[])),(Qf 2),(.raw (.func (.func 245) #[] #[])),(.raw (.func (.func 246) #[] #[]))] p0.kind (.raw (.func (.func 237) #[] #[])) hc ?_;refine Qd 2 ?_;obtain ⟨v4,hx,hm⟩:=Zo hm;have hq:=Qv hx;have hl9:mtOf [Blk.mt 3 (cgm_slices_Clone_int_int v4) (cellsOf Qf v4)] 0=some (3,cgm_slices_Clone_int_int v4,cellsOf Qf v4):=Z2 (by kernel_rfl)
  refine ZR (v:=.ms 1 1 0 v4.length v4.length) (fun H=>H++[.mt 3 1 (cellsOf Qf v4)]) rfl (by kernel_rfl) ?_ ?_
  ·intro K hk;refine Qba 1 (first:=#[]) (cap:=#[]) (j:=(0,3)) (ow':=[]) (f0:=Qf) (l:=v4) rfl ?_ ?_ ?_ (ds:=[.lst ((List.map Qf) p1)]) ?_ hq hl9 ?_ ?_ ?_
   ·kernel_rfl
   ·kernel_rfl
   ·kernel_rfl
   ·kernel_rfl
   ·exact hk
   ·kernel_rfl
   ·decide
  obtain ⟨out,hx,hm⟩:=Zo hm;rcases out with v5|v6
  ·have hq:=Qcj hx;refine QM hq ?_;refine Qd 6 ?_;refine Yf ⟨by kernel_rfl,?_⟩;refine Qj ?_;obtain ⟨rfl,rfl,rfl⟩:=QhQ hm;exact ⟨trivial,Qfx⟩
  ·have hq:=Qcj hx;refine QM hq ?_;refine Qd 6 ?_;refine Yf ⟨by kernel_rfl,?_⟩;refine Qj ?_;obtain ⟨_,hl7,hm⟩:=Zo hm;replace hl7:=QeR hl7;obtain ⟨rfl,rfl,rfl⟩:=QhQ hm;exact ⟨trivial,ZT [(Qe 0),(.ms 1 1 0 v4.length v4.length),(Qm true)] (by kernel_rfl) (po_tup (ps_cons (by kernel_rfl) (ps_cons (p1_ms (pc_ms (e:=3) Qf v6 hl7 zY (by kernel_rfl))) (ps_cons (by kernel_rfl) ps_nil))))⟩
 replace hm:=Qdb (show ¬ p0.kind=2 from hc) hm;by_cases hc:p0.kind=((3:Nat):Int)
 ·replace hm:=Qdc (show p0.kind=3 from hc) hm;refine Qgb 3 3 2 [(Qf 0),(.raw .nilFunc),(.raw .nilFunc),(Qf 0),(.raw (.func (.func 234) #[] #[])),(.raw (.func (.func 235) #[] #[])),(Qf 1),(.raw (.func (.func 236) #[] #[])),(.raw (.func (.func 237) #[] #[])),(Qf 1),(.raw (.func (.func 238) #[] #[])),(.raw (.func (.func 239) #[] #[])),(Qf 1),(.raw (.func (.func 240) #[] #[])),(.raw (.func (.func 241) #[] #[])),(Qf 1),(.raw (.func (.func 242) #[] #[])),(.raw (.func (.func 243) #[] #[])),(Qf 1),(.raw (.func (.func 234) #[] #[])),(.raw (.func (.func 244) #[] #[])),(Qf 2),(.raw (.func (.func 245) #[] #[])),(.raw (.func (.func 246) #[] #[]))] p0.kind (.raw (.func (.func 239) #[] #[])) hc ?_;refine Qd 2 ?_;obtain ⟨v8,hx,hm⟩:=Zo hm;have hq:=Qv hx;have hl9:mtOf [Blk.mt 3 (cgm_slices_Clone_int_int v8) (cellsOf Qf v8)] 0=some (3,cgm_slices_Clone_int_int v8,cellsOf Qf v8):=Z2 (by kernel_rfl)
  refine ZR (v:=.ms 1 1 0 v8.length v8.length) (fun H=>H++[.mt 3 1 (cellsOf Qf v8)]) rfl (by kernel_rfl) ?_ ?_
  ·intro K hk;refine Qba 1 (first:=#[]) (cap:=#[]) (j:=(0,3)) (ow':=[]) (f0:=Qf) (l:=v8) rfl ?_ ?_ ?_ (ds:=[.lst ((List.map Qf) p1)]) ?_ hq hl9 ?_ ?_ ?_
   ·kernel_rfl
   ·kernel_rfl
   ·kernel_rfl
   ·kernel_rfl
   ·exact hk
   ·kernel_rfl
   ·decide
  obtain ⟨v9,hx,hm⟩:=Zo hm;have hq:=QeF hx;refine QM hq ?_;refine Qd 6 ?_;refine Yf ⟨by kernel_rfl,?_⟩;refine Qj ?_;obtain ⟨_,hl10,hm⟩:=Zo hm;replace hl10:=QeR hl10;obtain ⟨rfl,rfl,rfl⟩:=QhQ hm;exact ⟨trivial,ZT [(Qe 0),(.ms 1 1 0 v8.length v8.length),(Qm true)] (by kernel_rfl) (po_tup (ps_cons (by kernel_rfl) (ps_cons (p1_ms (pc_ms (e:=3) Qf v9 hl10 zY (by kernel_rfl))) (ps_cons (by kernel_rfl) ps_nil))))⟩
 replace hm:=Qdb (show ¬ p0.kind=3 from hc) hm;by_cases hc:p0.kind=((4:Nat):Int)
 ·replace hm:=Qdc (show p0.kind=4 from hc) hm;refine Qgb 4 3 2 [(Qf 0),(.raw .nilFunc),(.raw .nilFunc),(Qf 0),(.raw (.func (.func 234) #[] #[])),(.raw (.func (.func 235) #[] #[])),(Qf 1),(.raw (.func (.func 236) #[] #[])),(.raw (.func (.func 237) #[] #[])),(Qf 1),(.raw (.func (.func 238) #[] #[])),(.raw (.func (.func 239) #[] #[])),(Qf 1),(.raw (.func (.func 240) #[] #[])),(.raw (.func (.func 241) #[] #[])),(Qf 1),(.raw (.func (.func 242) #[] #[])),(.raw (.func (.func 243) #[] #[])),(Qf 1),(.raw (.func (.func 234) #[] #[])),(.raw (.func (.func 244) #[] #[])),(Qf 2),(.raw (.func (.func 245) #[] #[])),(.raw (.func (.func 246) #[] #[]))] p0.kind (.raw (.func (.func 241) #[] #[])) hc ?_;refine Qd 2 ?_;obtain ⟨v11,hx,hm⟩:=Zo hm;have hq:=Qv hx;have hl9:mtOf [Blk.mt 3 (cgm_slices_Clone_int_int v11) (cellsOf Qf v11)] 0=some (3,cgm_slices_Clone_int_int v11,cellsOf Qf v11):=Z2 (by kernel_rfl)
  refine ZR (v:=.ms 1 1 0 v11.length v11.length) (fun H=>H++[.mt 3 1 (cellsOf Qf v11)]) rfl (by kernel_rfl) ?_ ?_
  ·intro K hk;refine Qba 1 (first:=#[]) (cap:=#[]) (j:=(0,3)) (ow':=[]) (f0:=Qf) (l:=v11) rfl ?_ ?_ ?_ (ds:=[.lst ((List.map Qf) p1)]) ?_ hq hl9 ?_ ?_ ?_
   ·kernel_rfl
   ·kernel_rfl
   ·kernel_rfl
   ·kernel_rfl
   ·exact hk
   ·kernel_rfl
   ·decide
  obtain ⟨v12,hx,hm⟩:=Zo hm;have hq:=Qe0 hx;refine QM hq ?_;refine Qd 6 ?_;refine Yf ⟨by kernel_rfl,?_⟩;refine Qj ?_;obtain ⟨_,hl13,hm⟩:=Zo hm;replace hl13:=QeR hl13;obtain ⟨rfl,rfl,rfl⟩:=QhQ hm;exact ⟨trivial,ZT [(Qe 0),(.ms 1 1 0 v11.length v11.length),(Qm true)] (by kernel_rfl) (po_tup (ps_cons (by kernel_rfl) (ps_cons (p1_ms (pc_ms (e:=3) Qf v12 hl13 zY (by kernel_rfl))) (ps_cons (by kernel_rfl) ps_nil))))⟩
 replace hm:=Qdb (show ¬ p0.kind=4 from hc) hm;by_cases hc:p0.kind=((5:Nat):Int)
 ·replace hm:=Qdc (show p0.kind=5 from hc) hm;refine Qgb 5 3 2 [(Qf 0),(.raw .nilFunc),(.raw .nilFunc),(Qf 0),(.raw (.func (.func 234) #[] #[])),(.raw (.func (.func 235) #[] #[])),(Qf 1),(.raw (.func (.func 236) #[] #[])),(.raw (.func (.func 237) #[] #[])),(Qf 1),(.raw (.func (.func 238) #[] #[])),(.raw (.func (.func 239) #[] #[])),(Qf 1),(.raw (.func (.func 240) #[] #[])),(.raw (.func (.func 241) #[] #[])),(Qf 1),(.raw (.func (.func 242) #[] #[])),(.raw (.func (.func 243) #[] #[])),(Qf 1),(.raw (.func (.func 234) #[] #[])),(.raw (.func (.func 244) #[] #[])),(Qf 2),(.raw (.func (.func 245) #[] #[])),(.raw (.func (.func 246) #[] #[]))] p0.kind (.raw (.func (.func 243) #[] #[])) hc ?_;refine Qd 2 ?_;obtain ⟨v14,hx,hm⟩:=Zo hm;have hq:=Qv hx;have hl9:mtOf [Blk.mt 3 (cgm_slices_Clone_int_int v14) (cellsOf Qf v14)] 0=some (3,cgm_slices_Clone_int_int v14,cellsOf Qf v14):=Z2 (by kernel_rfl)
  refine ZR (v:=.ms 1 1 0 v14.length v14.length) (fun H=>H++[.mt 3 1 (cellsOf Qf v14)]) rfl (by kernel_rfl) ?_ ?_
  ·intro K hk;refine Qba 1 (first:=#[]) (cap:=#[]) (j:=(0,3)) (ow':=[]) (f0:=Qf) (l:=v14) rfl ?_ ?_ ?_ (ds:=[.lst ((List.map Qf) p1)]) ?_ hq hl9 ?_ ?_ ?_
   ·kernel_rfl
   ·kernel_rfl
   ·kernel_rfl
   ·kernel_rfl
   ·exact hk
   ·kernel_rfl
   ·decide
  obtain ⟨v15,hx,hm⟩:=Zo hm;have hq:=Qd2 hx;refine QM hq ?_;refine Qd 6 ?_;refine Yf ⟨by kernel_rfl,?_⟩;refine Qj ?_;obtain ⟨rfl,rfl,rfl⟩:=QhQ hm;exact ⟨trivial,Qfx⟩
 replace hm:=Qdb (show ¬ p0.kind=5 from hc) hm;by_cases hc:p0.kind=((6:Nat):Int)
 ·replace hm:=Qdc (show p0.kind=6 from hc) hm;refine Qgb 6 3 2 [(Qf 0),(.raw .nilFunc),(.raw .nilFunc),(Qf 0),(.raw (.func (.func 234) #[] #[])),(.raw (.func (.func 235) #[] #[])),(Qf 1),(.raw (.func (.func 236) #[] #[])),(.raw (.func (.func 237) #[] #[])),(Qf 1),(.raw (.func (.func 238) #[] #[])),(.raw (.func (.func 239) #[] #[])),(Qf 1),(.raw (.func (.func 240) #[] #[])),(.raw (.func (.func 241) #[] #[])),(Qf 1),(.raw (.func (.func 242) #[] #[])),(.raw (.func (.func 243) #[] #[])),(Qf 1),(.raw (.func (.func 234) #[] #[])),(.raw (.func (.func 244) #[] #[])),(Qf 2),(.raw (.func (.func 245) #[] #[])),(.raw (.func (.func 246) #[] #[]))] p0.kind (.raw (.func (.func 244) #[] #[])) hc ?_;refine Qd 2 ?_;obtain ⟨v16,hx,hm⟩:=Zo hm;have hq:=Qv hx;have hl9:mtOf [Blk.mt 3 (cgm_slices_Clone_int_int v16) (cellsOf Qf v16)] 0=some (3,cgm_slices_Clone_int_int v16,cellsOf Qf v16):=Z2 (by kernel_rfl)
  refine ZR (v:=.ms 1 1 0 v16.length v16.length) (fun H=>H++[.mt 3 1 (cellsOf Qf v16)]) rfl (by kernel_rfl) ?_ ?_
  ·intro K hk;refine Qba 1 (first:=#[]) (cap:=#[]) (j:=(0,3)) (ow':=[]) (f0:=Qf) (l:=v16) rfl ?_ ?_ ?_ (ds:=[.lst ((List.map Qf) p1)]) ?_ hq hl9 ?_ ?_ ?_
   ·kernel_rfl
   ·kernel_rfl
   ·kernel_rfl
   ·kernel_rfl
   ·exact hk
   ·kernel_rfl
   ·decide
  obtain ⟨⟨v17,v18⟩,hx,hm⟩:=Zo hm;have hq:=QeE hx;refine QM hq ?_;refine Qd 6 ?_;refine Yf ⟨by kernel_rfl,?_⟩;refine Qj ?_;obtain ⟨rfl,rfl,rfl⟩:=QhQ hm;exact ⟨trivial,Qfx⟩
 replace hm:=Qdb (show ¬ p0.kind=6 from hc) hm;by_cases hc:p0.kind=((7:Nat):Int)
 ·replace hm:=Qdc (show p0.kind=7 from hc) hm;refine Qgb 7 3 2 [(Qf 0),(.raw .nilFunc),(.raw .nilFunc),(Qf 0),(.raw (.func (.func 234) #[] #[])),(.raw (.func (.func 235) #[] #[])),(Qf 1),(.raw (.func (.func 236) #[] #[])),(.raw (.func (.func 237) #[] #[])),(Qf 1),(.raw (.func (.func 238) #[] #[])),(.raw (.func (.func 239) #[] #[])),(Qf 1),(.raw (.func (.func 240) #[] #[])),(.raw (.func (.func 241) #[] #[])),(Qf 1),(.raw (.func (.func 242) #[] #[])),(.raw (.func (.func 243) #[] #[])),(Qf 1),(.raw (.func (.func 234) #[] #[])),(.raw (.func (.func 244) #[] #[])),(Qf 2),(.raw (.func (.func 245) #[] #[])),(.raw (.func (.func 246) #[] #[]))] p0.kind (.raw (.func (.func 246) #[] #[])) hc ?_;refine Qd 2 ?_;obtain ⟨v19,hx,hm⟩:=Zo hm;have hq:=Qv hx;have hl9:mtOf [Blk.mt 3 (cgm_slices_Clone_int_int v19) (cellsOf Qf v19)] 0=some (3,cgm_slices_Clone_int_int v19,cellsOf Qf v19):=Z2 (by kernel_rfl)
  refine ZR (v:=.ms 1 1 0 v19.length v19.length) (fun H=>H++[.mt 3 1 (cellsOf Qf v19)]) rfl (by kernel_rfl) ?_ ?_
  ·intro K hk;refine Qba 1 (first:=#[]) (cap:=#[]) (j:=(0,3)) (ow':=[]) (f0:=Qf) (l:=v19) rfl ?_ ?_ ?_ (ds:=[.lst ((List.map Qf) p1)]) ?_ hq hl9 ?_ ?_ ?_
   ·kernel_rfl
   ·kernel_rfl
   ·kernel_rfl
   ·kernel_rfl
   ·exact hk
   ·kernel_rfl
   ·decide
  obtain ⟨⟨v20,v21⟩,hx,hm⟩:=Zo hm;have hq:=Qei hx;refine QM hq ?_;refine Qd 6 ?_;refine Yf ⟨by kernel_rfl,?_⟩;refine Qj ?_;obtain ⟨_,hl22,hm⟩:=Zo hm;replace hl22:=QeR hl22;obtain ⟨rfl,rfl,rfl⟩:=QhQ hm;exact ⟨trivial,ZT [(Qe v21),(.ms 1 1 0 v19.length v19.length),(Qm true)] (by kernel_rfl) (po_tup (ps_cons (by kernel_rfl) (ps_cons (p1_ms (pc_ms (e:=3) Qf v20 hl22 zY (by kernel_rfl))) (ps_cons (by kernel_rfl) ps_nil))))⟩
 replace hm:=Qdb (show ¬ p0.kind=7 from hc) hm;exact (Qhk hm).elim
def YS (x:(Int × (List Int) × Int × (List Int) × Int × Int × (List Int) × (List Qh) × (List Int))):Option ((Int × (List Int) × Int × (List Int) × Int × Int × (List Int) × (List Qh) × Bool × Int × Int)) :=
 match x with
 | (v202,v203,v204,v205,v206,v207,v208,v209,v210) =>
 if v202=1 then
  J4 (v203,v210)>>=fun (v613,v614) =>
  some (v202,v203,v204,v205,v206,v207,v208,v209,false,v204,v613)
 else
 YK ((⟨v202,v203,v204,v205,v206,v207,v208,v209⟩:Qh),v210)>>=fun (v615,v616,v617) =>
 if v617=false then
  some (v202,v203,v204,v205,v206,v207,v208,v209,true,0,0)
 else
 idx v209 v615>>=fun v618 =>
 YS (v618.kind,v618.shape,v618.buffer,v618.starts,v618.axis,v618.amount,v618.perm,v618.kids,v616)
 partial_fixpoint
theorem Qdx:∀ x r,YS x=some r→match x with|(v202,v203,v204,v205,v206,v207,v208,v209,v210)=>LQ f19 19 [1,0,1,1,1,0,0,0] 3 ⟨kp 49 [(1,(La v210)),(2,(.ptr 0 0)),(4,(.ptr 1 0)),(6,(.ptr 2 0))],[(JE v202 v203 v204 v205 v206 v207 v208 v209),(.box [(Qm false),(Qe 0),(Qe 0)]),(.box [(Qm true),(Qe 0),(Qe 0)])]⟩ (P1 (.exit 0) (fun (v602,v603,v604,v605,v606,v607,v608,v609,v610,v611,v612) d=>⟨sl d 49 [(4,(.ptr 1 0)),(6,(.ptr 2 0))],[(JE v602 v603 v604 v605 v606 v607 v608 v609),(.box [(Qm false),(Qe 0),(Qe 0)]),(.box [(Qm v610),(Qe v611),(Qe v612)])]⟩) r):=by
 refine YS.partial_correctness _ (fun YS Qdx x r hm=>?_);obtain ⟨v202,v203,v204,v205,v206,v207,v208,v209,v210⟩:=x;exact lp (Qn (Qi (ge 3 (riq hm (fun hm=>gr 3 (bi2 hm fun v613 v614 hx hm=>cp (QfD hx) (re 5 (ge 5 (QE zf))))) (fun hm=>Qk (gr 2 (bi3 hm fun v615 v616 v617 hx hm=>cp (Qis hx) (re 7 (Qi (ge 2 (rin hm (fun hm=>QE zf) (fun hm=>Qk (R_G (Qd 3 (bi hm fun v618 hx hm=>XA 8 Qh.toD v209 v615 v618 (es:=Qh.toDs v209) (d:=(Qh.ex v618)) (Qh.toDs_eq _) hx (Qh.toD_eq v618) rfl (re 4 (Qdx _ _ hm _ kr)))))))))))))))))
def Qcx (x:(Qh × (List Int))):Option (XY × Bool) :=
 match x with
 | (p0,p1) =>
 Jc (p0.shape,p1)>>=fun v1 =>
 if v1=false then
  some ((⟨false,0,0⟩:XY),false)
 else
 YS (p0.kind,p0.shape,p0.buffer,p0.starts,p0.axis,p0.amount,p0.perm,p0.kids,p1)>>=fun (v602,v603,v604,v605,v606,v607,v608,v609,v610,v611,v612) =>
 some ((⟨v610,v611,v612⟩:XY),true)
theorem QhV {p0 p1 r0 r1} (hm:Qcx (p0,p1)=some (r0,r1)):FQ 19 [(Qh.ex p0),(Lb p1)] (.tup [(.dat (XY.toD r0)),(Qm r1)]):=by
 unfold Qcx at hm;exact fp (fn:=f19) rfl (ge 3 (Qjo (Qi (gr 3 (bi hm fun v1 hx hm=>cp (Qdd hx) (re 1 (rin hm (fun hm=>ge 3 (Qj zf)) (fun hm=>Qk (ge 3 (Qi (Qjn (Qi (Qn (ru1 hm (Qdx _) fun ⟨v602,v603,v604,v605,v606,v607,v608,v609,v610,v611,v612⟩ d hm=>ge 3 (Qj zf)))))))))))))))
def QdY (x:(Q9 × XY)):Option Int :=
 match x with
 | (p0,p1) =>
 if p1.fill=true then
  some 0
 else
 idx p0.sources p1.buffer>>=fun v1 =>
 idx v1.value.data p1.offset>>=fun v2 =>
 some v2
theorem QiP {p0 p1 r0} (hm:QdY (p0,p1)=some r0):FQ 44 [(Q9.toD p0),(XY.toD p1)] (Qe r0):=by
 unfold QdY at hm;exact fp (fn:=f44) rfl (ge 3 (Qi (ge 2 (rib hm (fun hm=>ge 1 (Qj zf)) (fun hm=>Qk (Qi (Yv (Qd 4 (QV 3 Qp.toD hm fun v1 hm=>Qd 5 (QV 1 Qf hm fun v2 hm=>re 2 ⟨kr,Qj zf⟩))))))))))
def Qdl (x:(Q9 × (List Int))):Option (Int × Bool) :=
 match x with
 | (p0,p1) =>
 Qcx ((⟨p0.core.kind,p0.core.shape,p0.core.buffer,p0.core.starts,p0.core.axis,p0.core.amount,p0.core.perm,p0.core.kids⟩:Qh),p1)>>=fun (v1,v2) =>
 if v2=false then
  some (0,false)
 else
 QdY (p0,(⟨v1.fill,v1.buffer,v1.offset⟩:XY))>>=fun v3 =>
 some (v3,true)
theorem Qix {p0 p1 r0 r1} (hm:Qdl (p0,p1)=some (r0,r1)):FQ 20 [(Q9.toD p0),(Lb p1)] (.tup [(Qe r0),(Qm r1)]):=by
 unfold Qdl at hm;exact fp (fn:=f20) rfl (ge 3 (gr 3 (bi2 hm fun v1 v2 hx hm=>cp (QhV hx) (re 6 (Qi (ge 2 (rin hm (fun hm=>ge 2 (Qj zf)) (fun hm=>Qk (gr 2 (bi hm fun v3 hx hm=>cp (QiP hx) (re 2 (Qj zf))))))))))))
def XC (x:((List Int) × Int × (List Int) × Int × (List Int) × Int × Int × (List Int) × (List Qh) × (List Qp) × (List Int) × (List Int) × Nat)):Option (Int) :=
 match x with
 | (q0,q1,q2,q3,q4,q5,q6,q7,q8,q9,q10,q11,q12) =>
 Qdl ((⟨(⟨q1,q2,q3,q4,q5,q6,q7,q8⟩:Qh),q9⟩:Q9),q0)>>=fun (v1,v2) =>
 some v1
theorem QfG {q0 q1 q2 q3 q4 q5 q6 q7 q8 q9 q10 q11 q12 v5001} (hm:XC (q0,q1,q2,q3,q4,q5,q6,q7,q8,q9,q10,q11,q12)=some v5001):PC prog env 36 [(La q0),(.ptr 0 0)] (Qcm q1 q2 q3 q4 q5 q6 q7 q8 q9 q10 q11 q12) (Qe v5001) (Qcm q1 q2 q3 q4 q5 q6 q7 q8 q9 q10 q11 q12):=by
 unfold XC at hm;exact PC_sxB (fn:=f36) rfl (ge 1 (gr 2 (bi2 hm fun v1 v2 hx hm=>cp (Qix hx) (re 5 (ge 2 (Qj zf))))))
def YM (x:(Int × (List Int) × Int × (List Int) × Int × (List Int) × Int × Int × (List Int) × (List Qh) × (List Qp) × (List Int) × (List Int) × Nat)):Option ((List Int)) :=
 match x with
 | (q0,q1,q2,q3,q4,q5,q6,q7,q8,q9,q10,q11,q12,q13) =>
 XC (q1,q2,q3,q4,q5,q6,q7,q8,q9,q10,q11,q12,q13)>>=fun v1 =>
 QS (q11.length=q13)>>=fun _ =>
 idx q11 q0>>=fun v2 =>
 setM q11 q0 v1>>=fun v4 =>
 some v4
theorem QeD {q0 q1 q2 q3 q4 q5 q6 q7 q8 q9 q10 q11 q12 q13 v5001} (hm:YM (q0,q1,q2,q3,q4,q5,q6,q7,q8,q9,q10,q11,q12,q13)=some v5001):PC prog env 72 [(Qe q0),(La q1),(.ptr 2 0),(.ptr 5 0)] (Qcm q2 q3 q4 q5 q6 q7 q8 q9 q10 q11 q12 q13) (.tup []) (Qcm q2 q3 q4 q5 q6 q7 q8 q9 q10 v5001 q12 q13):=by
 unfold YM at hm;exact PC_sxB (fn:=f72) rfl (Yv (Qd 5 (bi hm fun v1 hx hm=>Qjs (f:=36) (caps:=[(.ptr 0 0)]) (j:=6000) (e:=3) (ow':=[]) (QfG hx) (gi hm fun hl3 hm=>bi hm fun v2 hx hm=>QG rfl (fun _=>QgV (e:=2) (l:=q11) (n:=q0) (i:=4) (cap:=q13) (m:=q13) hx hl3 kr kr rfl kr kr) (bi hm fun v4 hx hm=>ZR (fun H=>H.set 4 (.box (cellsOf Qf v4))) rfl kr (fun _=>QgW Qf (l:=q11) (n:=q0) (y:=v1) hx zY kr rfl kr kr kr kr) (Yf ⟨kr,zf⟩))) rfl rfl kr kr kr kr kr)))
def ZJ (x:((List Int) × (List Int) × Int × (List Int) × Int × (List Int) × Int × Int × (List Int) × (List Qh) × (List Qp) × (List Int) × Int)):Option ((List Int)) :=
 match x with
 | (q1,q0,q2,q3,q4,q5,q6,q7,q8,q9,q10,v201,v202) =>
 if v202 < (q1.length:Int) then
  Jb (q0,v202)>>=fun (v602,v603) =>
  YM (v202,v602,q2,q3,q4,q5,q6,q7,q8,q9,q10,v201,q0,q1.length)>>=fun v604 =>
  ZJ (q1,q0,q2,q3,q4,q5,q6,q7,q8,q9,q10,v604,(W (v202+1)))
 else
 some v201
 partial_fixpoint
theorem QaR:∀ x r,ZJ x=some r→match x with|(q1,q0,q2,q3,q4,q5,q6,q7,q8,q9,q10,v201,v202)=>LQ f71 71 [1,1,0,0] 7 ⟨kp 25 [(1,(.fn 72 [(.ptr 2 0),(.ptr 5 0)])),(2,(.ptr 6 0)),(9,(Qe (q1.length:Int))),(10,(Qe v202))],(Qcm q2 q3 q4 q5 q6 q7 q8 q9 q10 v201 q0 q1.length)⟩ (P1 (.exit 0) (fun v601 d=>⟨sl d 25 [],(Qcm q2 q3 q4 q5 q6 q7 q8 q9 q10 v601 q0 q1.length)⟩) r):=by
 refine ZJ.partial_correctness _ (fun ZJ QaR x r hm=>?_);obtain ⟨q1,q0,q2,q3,q4,q5,q6,q7,q8,q9,q10,v201,v202⟩:=x;exact lp (ge 1 (Qi (ri hm (fun hm=>Qk (Qi (Qn (ge 2 (gr 3 (bi2 hm fun v602 v603 hx hm=>cp (Qf0 hx) (re 5 (R_G (Qd 3 (bi hm fun v604 hx hm=>QM (QeD hx) (Yf (R_G (re 2 (QaR _ _ hm _ (prune_of2 (Qcm q2 q3 q4 q5 q6 q7 q8 q9 q10 v604 q0 q1.length) (fun _=>(pg_cons kr (pg_cons kr (pg_cons kr (pg_cons kr (pg_cons (purge_box Qf _ _ _) (pg_cons kr (pg_cons kr pg_nil)))))))) rfl))))))))))))))) (fun hm=>QE zf))))
def Qak (x:((List Int) × (List Int) × Int × (List Int) × Int × (List Int) × Int × Int × (List Int) × (List Qh) × (List Qp))):Option ((List Int)) :=
 match x with
 | (q0,q1,q2,q3,q4,q5,q6,q7,q8,q9,q10) =>
 ZJ (q1,q0,q2,q3,q4,q5,q6,q7,q8,q9,q10,q1,0)>>=fun v601 =>
 some v601
theorem Qgc {q0 q1 q2 q3 q4 q5 q6 q7 q8 q9 q10 v5001} (hm:Qak (q0,q1,q2,q3,q4,q5,q6,q7,q8,q9,q10)=some v5001):PC prog env 71 [(.agg [(La q0),(.arr 4 0 q1.length q1.length)]),(.fn 72 [(.ptr 2 0),(.ptr 5 0)])] [(QaD q2 q3 q4 q5 q6 q7 q8 q9 q10),(.box [Ea,Ea]),Qgt,(.box [Ea,Ea]),(.box (cellsOf Qf q1)),(QeT q0 q1.length)] (.tup []) (Qcm q2 q3 q4 q5 q6 q7 q8 q9 q10 v5001 q0 q1.length):=by
 unfold Qak at hm;exact PC_sxB (fn:=f71) rfl (ge 1 (gr 2 (Qd 1 (re 1 (Qn (ru1 hm (QaR _) (fun v601 d hm=>zf) (hst:=(prune_of2 (Qcm q2 q3 q4 q5 q6 q7 q8 q9 q10 q1 q0 q1.length) (fun _=>(pg_cons kr (pg_cons kr (pg_cons kr (pg_cons kr (pg_cons (purge_box Qf _ _ _) (pg_cons kr (pg_cons kr pg_nil)))))))) rfl))))))))
end Go.Proofs.Tryz
