/-
 Models of functions, their walks, and plain laws.
-/
import Derived.Test.YtlddncgoekmflaaGreatKElabTextsA
namespace Go.Proofs.Tryz
open Go Go.Pm
set_option linter.unusedVariables false
set_option maxHeartbeats 2000000
set_option maxRecDepth 2000
def JY (x:(Qt × Qc)):Option Qc :=
 match x with
 | (p0,p1) =>
 Qap (p1,p0.right)>>=fun v1 =>
 some (⟨2,p0.shape,0,p0.starts,0,0,([]:(List Int)),([(⟨v1.kind,v1.shape,v1.buffer,v1.starts,v1.axis,v1.amount,v1.perm,v1.kids⟩:Qc)]:(List Qc))⟩:Qc)
theorem Qea {p0 p1 r0} (hm:JY (p0,p1)=some r0):FQ 112 [(Qt.toD p0),(Qc.ex p1)] (.dat (Qc.ex r0)):=by
 unfold JY at hm
 exact fp (fn:=f112) rfl (ge 3 (Qg (X0 (Qh 7 (bi hm fun v1 hx hm=>cp (QdP hx) (re 3 ⟨kr,Qk zf⟩))))))
def Qaw (x:(Int × Int)):Option (Int × Int) :=
 match x with
 | (p0,p1) =>
 XQ p1>>=fun (v1,v2) =>
 (if v2≠0 then
  some true
 else
 some (decide (v1 > p0))
 )>>=fun (v3:Bool) =>
 (if v3=true then
  some p0
 else
 some v1
 )>>=fun (v4:Int) =>
 if p1 < 0 then
  some ((W (p0 - v4)),0)
 else
 some ((W (p0 - v4)),v4)
theorem Qfw {p0 p1 r0 r1} (hm:Qaw (p0,p1)=some (r0,r1)):FQ 136 [(Qj p0),(Qj p1)] (.tup [(Qe r0),(Qe r1)]):=by
 unfold Qaw at hm
 exact fp (fn:=f136) rfl (ge 2 (gr 1 (bi2 hm fun v1 v2 hx hm=>cp (Qdk hx) (re 5 (Qg (Qg (bi hm fun v3 hs hm=>Ze (fun d=>⟨sl d 30 [(0,(Qe p0)),(1,(Qe p1)),(6,(Qe v1)),(19,(Qo v3))],[]⟩) (have hm:=hs;R_G (Qh 3 (gsx 15 hm (fun hm=>re 4 zf) (fun hm=>re 4 zf)))) (fun d=>bi hm fun v4 hs hm=>Ze (fun d=>⟨sl d 30 [(0,(Qe p0)),(1,(Qe p1)),(6,(Qe v4))],[]⟩) (have hm:=hs;rib hm (fun hm=>R_G (re 2 zf)) (fun hm=>Qi zf)) (fun d=>Qg (ge 2 (ri hm (fun hm=>ge 5 (Qk zf)) (fun hm=>Qi (ge 6 (Qk zf))))))))))))))
def Jr (x:(Nat × (List Int) × Bool × (List Int) × (List Int))):Option (Unit) :=
 match x with
 | (q0,q1,q2,q3,q4) =>
 some ()
theorem Qd6 {q0 q1 q2 q3 q4} (hm:Jr (q0,q1,q2,q3,q4)=some ()):PC prog env 135 [(.arr 3 0 q0 q0)] (QdK q1 q2 q3 q4) (.fn 152 [(.ptr 4 0)]) [(Q1 q1 q2),Qv,(QH q3),(.box (cellsOf Qj q4)),(.box [(.arr 3 0 q0 q0)])]:=by
 unfold Jr at hm
 exact PC_sxB (fn:=f135) rfl (ge 2 (ge 2 (Qk zf)))
def XZ (x:((List Int) × Bool × (List Int) × (List Int) × Nat × (List Int) × (List Int))):Option (Unit) :=
 match x with
 | (q0,q1,q2,q3,q4,q5,q6) =>
 some ()
theorem QdF {q0 q1 q2 q3 q4 q5 q6} (hm:XZ (q0,q1,q2,q3,q4,q5,q6)=some ()):PC prog env 152 [(.ptr 9 0),(.ptr 4 0)] (Qfi q0 q1 q2 q3 q4 q5 q6 q5.length q6.length) (.tup []) (Qe3 q0 q1 q2 q3 q4 q5 q6 q5.length q6.length):=by
 unfold XZ at hm
 exact PC_sxB (fn:=f152) rfl (R_G (re 5 zf))
def Qac (x:((List Int) × Nat × (List Int) × Bool × (List Int) × (List Int) × Nat)):Option (Int ⊕ ((List Int) × (List Int))) :=
 match x with
 | (q0,q1,q2,q3,q4,q5,q6) =>
 Xc (q4.length=q1)>>=fun _ =>
 Zo q4>>=fun v2 =>
 if v2≠0 then
  some (Sum.inl v2)
 else
 Qy q0>>=fun v3 =>
 Xc (q4.length=q1)>>=fun _ =>
 Qy q4>>=fun v5 =>
 XZ (q2,q3,q4,q5,q6,v3,v5)>>=fun _ =>
 some (Sum.inr (v3,v5))
theorem QcZ {q0 q1 q2 q3 q4 q5 q6 r} (hm:Qac (q0,q1,q2,q3,q4,q5,q6)=some r):PC prog env 105 [(La q0),(.ms 2 1 0 q1 q1),(.arr 5 0 1 1)] [(Q1 q2 q3),Qv,(QH q4),(.box (cellsOf Qj q5)),(.box [(.arr 3 0 q6 q6)]),QaQ] (match r with|.inl v5001=>(.tup [Qbo,(Qe v5001)])|.inr ((v5002,v5003))=>(.tup [(.agg [Ea,(.ms 7 1 0 v5002.length v5002.length),(.ms 8 1 0 v5003.length v5003.length),(.arr 3 0 q6 q6),(Qe (-1)),(Qe 0),Ea]),(Qe 0)])) (match r with|.inl v5001=>[(Q1 q2 q3),Qv,(QH q4),(.box (cellsOf Qj q5)),(.box [(.arr 3 0 q6 q6)]),QaQ,Qv]|.inr ((v5002,v5003))=>[(Q1 q2 q3),Qv,(QH q4),(.box (cellsOf Qj q5)),(.box [(.arr 3 0 q6 q6)]),QaQ,(Qfg v5002.length v5003.length q6),(QH v5002),(QH v5003),(Qfg v5002.length v5003.length q6)]):=by
 unfold Qac at hm
 exact PC_sxB (fn:=f105) rfl (ge 2 (Qg (gr 1 (gi hm fun hl1 hm=>bi hm fun v2 hx hm=>QgL (args:=[(.ms 2 1 0 q1 q1)]) (Z3 hx []) (ps_cons (p1_ms (pc_ms (e:=3) Qj q4 hl1 (fun _=>rfl) kr)) ps_nil) (re 1 (ge 2 (rix hm (fun hm=>ge 4 (Qk zf)) (fun hm=>Qi (gr 1 (bi hm fun v3 hx hm=>go 7 3 Qj (QD hx) (Qh 1 (gi hm fun hl4 hm=>bi hm fun v5 hx hm=>gol 8 3 Qj (args:=[(.ms 2 1 0 q1 q1)]) (QD hx) (Qa8 kr) (ps_cons (p1_ms (pc_ms (e:=3) Qj q4 hl4 (fun _=>rfl) kr)) ps_nil) (plain_or (cellsOf_plain (fun _=>rfl) _)) (re 3 (Qg (gr 1 (Qh 1 (re 1 (Qp (Qb5 (RL_at (st':=⟨kp 33 [(6,(.ptr 6 0)),(9,(.ptr 9 0)),(23,(.arr 5 0 1 1)),(24,(Qe 1)),(25,(Qe 0))],(Qfi q2 q3 q4 q5 q6 v3 v5 v3.length v5.length)⟩) (prune_of2 (Qfi q2 q3 q4 q5 q6 v3 v5 v3.length v5.length) (fun _=>(pg_cons kr (pg_cons kr (pg_cons (purge_mt Qj _ _ _ _ _) (pg_cons (purge_box Qj _ _ _) (pg_cons kr (pg_cons kr (pg_cons kr (pg_cons (purge_mt Qj _ _ _ _ _) (pg_cons (purge_mt Qj _ _ _ _ _) (pg_cons kr pg_nil))))))))))) rfl) (ge 1 (Qg (Qaj kr (Qi (Qg (Qp (gr 1 (re 2 (R_G (Qh 1 (bi hm fun _ hx hm=>Za (QdF hx) (Y9 (R_G (re 2 (RL_at (st':=⟨kp 33 [(6,(.ptr 6 0)),(9,(.ptr 9 0)),(23,(.arr 5 0 1 1)),(24,(Qe 1)),(25,(Qe 1))],(Qe3 q2 q3 q4 q5 q6 v3 v5 v3.length v5.length)⟩) (prune_of2 (Qe3 q2 q3 q4 q5 q6 v3 v5 v3.length v5.length) (fun _=>(pg_cons kr (pg_cons kr (pg_cons (purge_mt Qj _ _ _ _ _) (pg_cons (purge_box Qj _ _ _) (pg_cons kr (pg_cons kr (pg_cons kr (pg_cons (purge_mt Qj _ _ _ _ _) (pg_cons (purge_mt Qj _ _ _ _ _) (pg_cons kr pg_nil))))))))))) rfl) (ge 1 (Qg (Xt kr (QO (ge 3 (Qk zf)))))))))))))))))))))))))))))))))))))))))
def YZ (x:(QV × (List Int) × (List Int) × (List Int) × (List Int) × (List Int) × Int)):Option (((List Int) × (List Int))) :=
 match x with
 | (p0,v1,v7,v8,v209,v210,v211) =>
 if v211 < (p0.values.length:Int) then
  idx p0.values v211>>=fun v611 =>
  idx v1 v211>>=fun v612 =>
  Qaw (v612,v611)>>=fun (v613,v614) =>
  Xc (v209.length=v7.length)>>=fun _ =>
  idx v209 v211>>=fun v615 =>
  setM v209 v211 v613>>=fun v617 =>
  Xc (v210.length=v8.length)>>=fun _ =>
  idx v210 v211>>=fun v618 =>
  setM v210 v211 v614>>=fun v620 =>
  YZ (p0,v1,v7,v8,v617,v620,(W (v211+1)))
 else
 some (v209,v210)
 partial_fixpoint
theorem QcA:∀ x r,YZ x=some r→match x with|(p0,v1,v7,v8,v209,v210,v211)=>LQ f113 113 [1,1,1,1,1,0,1,0,0] 4 ⟨kp 72 [(4,(.ptr 1 0)),(6,(La v1)),(8,(.ms 2 1 0 v7.length v7.length)),(9,(.arr 3 0 v8.length v8.length)),(41,(La p0.values)),(42,(Qe (p0.values.length:Int))),(43,(Qe v211))],(QdK p0.values p0.scalar v209 v210)⟩ (P1 (.exit 0) (fun (v609,v610) d=>⟨sl d 72 [(4,(.ptr 1 0)),(6,(La v1)),(8,(.ms 2 1 0 v7.length v7.length)),(9,(.arr 3 0 v8.length v8.length))],(QdK p0.values p0.scalar v609 v610)⟩) r):=by
 refine YZ.partial_correctness _ (fun YZ QcA x r hm=>?_)
 obtain ⟨p0,v1,v7,v8,v209,v210,v211⟩:=x
 exact lp (ge 1 (Qg (ri hm (fun hm=>Qi (Qg (Qp (gr 1 (Zj 1 Qj hm fun v611 hm=>re 3 (R_G (Qh 6 (Zj 1 Qj hm fun v612 hm=>Qh 2 (bi2 hm fun v613 v614 hx hm=>cp (Qfw hx) (Qh 3 (gi hm fun hl616 hm=>bi hm fun v615 hx hm=>QT rfl (fun _=>QeL (e:=3) (n:=v211) (j:=(v211).toNat) (tt:=2) (g:=1) (lo:=0) (len:=v7.length) (cap:=v7.length) (k:=.i64) kr kr rfl kr kr (idx_nat hx) (Nat.lt_of_lt_of_eq (idx_lt hx) hl616)) (bi hm fun v617 hx hm=>Jk (fun H=>H.set 2 (QH v617)) rfl kr (fun _=>Qg7 Qj (l:=v209) (n:=v211) (y:=v613) hx (fun _=>rfl) kr rfl kr kr kr kr) (gi hm fun hl619 hm=>bi hm fun v618 hx hm=>QT rfl (fun _=>Qhk (e:=3) (l:=v210) (n:=v211) (i:=3) (cap:=v8.length) (m:=v8.length) hx hl619 kr kr rfl kr kr) (bi hm fun v620 hx hm=>Jk (fun H=>H.set 3 (.box (cellsOf Qj v620))) rfl kr (fun _=>Qhn Qj (l:=v210) (n:=v211) (y:=v614) hx (fun _=>rfl) kr rfl kr kr kr kr) (Y9 (R_G (re 2 (QcA _ _ hm _ (prune_of2 (QdK p0.values p0.scalar v617 v620) (fun _=>(pg_cons kr (pg_cons kr (pg_cons (purge_mt Qj _ _ _ _ _) (pg_cons (purge_box Qj _ _ _) pg_nil))))) rfl))))))))))))))))))) (fun hm=>QO zf))))
def Qbl (x:(QV × (List Int))):Option (Qt × Int) :=
 match x with
 | (p0,p1) =>
 Qax (p1,(p0.values.length:Int))>>=fun (v1,v2) =>
 if v2≠0 then
  ZB v2>>=fun (v3,v4) =>
  some (v3,v4)
 else
 if (p0.values.length:Int) > (v1.length:Int) then
  ZB 5>>=fun (v5,v6) =>
  some (v5,v6)
 else
 Qy v1>>=fun v7 =>
 makeM 8 (v1.length:Int) 0>>=fun v8 =>
 YZ (p0,v1,v7,v8,v7,v8,0)>>=fun (v609,v610) =>
 Jr (v8.length,p0.values,p0.scalar,v609,v610)>>=fun _ =>
 (
 Qac (v1,v7.length,p0.values,p0.scalar,v609,v610,v8.length)>>=fun out =>
 match out with
 | .inl v621 =>
  some ((⟨([]:(List Int)),([]:(List Int)),([]:(List Int)),([]:(List Int)),0,0,([]:(List Int))⟩:Qt),v621)
 | .inr ((v622,v623)) =>
  Xc (v610.length=v8.length)>>=fun _ =>
  some ((⟨([]:(List Int)),v622,v623,v610,(-1),0,([]:(List Int))⟩:Qt),0)
 )
theorem Qgr {p0 p1 r0 r1} (hm:Qbl (p0,p1)=some (r0,r1)):FQ 113 [(QV.toD p0),(Lb p1)] (.tup [(.dat (Qt.toD r0)),(Qe r1)]):=by
 unfold Qbl at hm
 exact fp (fn:=f113) rfl (ge 3 (gr 3 (QZ Qj p0.values (bi2 hm fun v1 v2 hx hm=>cp (QeT hx) (re 5 (Qg (ge 2 (rix hm (fun hm=>gr 1 (bi2 hm fun v3 v4 hx hm=>cp (Z2 hx) (re 4 (Qk zf)))) (fun hm=>Qi (Qg (gr 2 (QZ Qj p0.values (Qh 1 (QZ Qj v1 (re 1 (ri hm (fun hm=>Qg (R_G (bi2 hm fun v5 v6 hx hm=>cp (Z2 hx) (re 4 (Qk zf))))) (fun hm=>Qi (Qg (X0 (Qh 1 (bi hm fun v7 hx hm=>go 2 3 Qj (QD hx) (Qh 1 (QZ Qj v1 (bi hm fun v8 hx hm=>Jk (v:=.arr 3 0 v8.length v8.length) (fun H=>H++[.box (cellsOf Qj v8)]) rfl kr (by intro K hk; exact QeX 3 Qj (z:=0) (n:=(v1.length:Int)) (bytes:=8) hx (e:=3) kr kr kr kr rfl rfl kr kr hk) (re 2 ⟨kr,Qg (gr 2 (QZ Qj p0.values (re 1 (Qp (ru1 hm (QcA _) (fun ⟨v609,v610⟩ d hm=>gr 3 (bi hm fun _ hx hm=>Za (Qd6 hx) (Qh 1 (bs hm (fun v621 hx hm=>Za (QcZ hx) (re 4 (Qk zf))) fun ⟨v622,v623⟩ hx hm=>Za (QcZ hx) (re 4 (Qk (gi hm fun hl624 hm=>(by obtain ⟨rfl,rfl⟩:=QeV hm; exact ⟨trivial,Xu [(.agg [Ea,(.ms 7 1 0 v622.length v622.length),(.ms 8 1 0 v623.length v623.length),(.arr 3 0 v8.length v8.length),(Qe (-1)),(Qe 0),Ea]),(Qe 0)] kr (po_tup (ps_cons (p1_agg (pc_cons kr (pc_cons (pc_ms (e:=3) Qj v622 rfl (fun _=>rfl) kr) (pc_cons (pc_ms (e:=3) Qj v623 rfl (fun _=>rfl) kr) (pc_cons (pc_arr Qj v610 hl624 (fun _=>rfl) kr) (pc_cons kr (pc_cons kr (pc_cons kr pc_nil)))))))) (ps_cons kr ps_nil)))⟩)))))))) (hst:=(prune_of2 (QdK p0.values p0.scalar v7 v8) (fun _=>(pg_cons kr (pg_cons kr (pg_cons (purge_mt Qj _ _ _ _ _) (pg_cons (purge_box Qj _ _ _) pg_nil))))) rfl)))))))⟩)))))))))))))))))))))))))
def JC (x:(QV × Int)):Option ((List Int) × Int) :=
 match x with
 | (p0,p1) =>
 if (p0.values.length:Int)≠p1 then
  some (([]:(List Int)),5)
 else
 Yh p0.values>>=fun v1 =>
 some (v1,0)
theorem Qd1 {p0 p1 r0 r1} (hm:JC (p0,p1)=some (r0,r1)):FQ 153 [(QV.toD p0),(Qj p1)] (.tup [(La r0),(Qe r1)]):=by
 unfold JC at hm
 exact fp (fn:=f153) rfl (ge 3 (Qg (gr 2 (QZ Qj p0.values (re 2 (rix hm (fun hm=>ge 2 (Qk zf)) (fun hm=>Qi (gr 2 (bi hm fun v1 hx hm=>go 1 2 Qj (Qaz hx) (re 2 (Qk (by obtain ⟨rfl,rfl⟩:=QeV hm; exact ⟨trivial,Xu [(.ms 1 1 0 v1.length v1.length),(Qe 0)] kr (po_tup (ps_cons (p1_ms (pc_ms (e:=2) Qj v1 rfl (fun _=>rfl) kr)) (ps_cons kr ps_nil)))⟩))))))))))))
def Qdn (x:QV):Option (Int × Int) :=
 match x with
 | p0 =>
 JC (p0,1)>>=fun (v1,v2) =>
 if v2≠0 then
  some (0,v2)
 else
 idx v1 0>>=fun v3 =>
 some (v3,0)
theorem QgF {p0 r0 r1} (hm:Qdn p0=some (r0,r1)):FQ 137 [(QV.toD p0)] (.tup [(Qe r0),(Qe r1)]):=by
 unfold Qdn at hm
 exact fp (fn:=f137) rfl (ge 3 (gr 1 (bi2 hm fun v1 v2 hx hm=>cp (Qd1 hx) (re 5 (Qg (ge 2 (rix hm (fun hm=>ge 3 (Qk zf)) (fun hm=>Qi (gr 1 (Zj 1 Qj hm fun v3 hm=>re 3 (Qk zf)))))))))))
def Xz (x:((List Int) × (List Int) × Bool)):Option (Int ⊕ ((List Int) × (List Int))) :=
 match x with
 | (q0,q1,q2) =>
 Zo q0>>=fun v1 =>
 if v1≠0 then
  some (Sum.inl v1)
 else
 Qy q0>>=fun v2 =>
 Qy q0>>=fun v3 =>
 some (Sum.inr (v2,v3))
theorem QcY {q0 q1 q2 r} (hm:Xz (q0,q1,q2)=some r):PC prog env 105 [(La q0),(La q0),(.dat (.lst []))] [(Q1 q1 q2),Qv] (match r with|.inl v5001=>(.tup [Qbo,(Qe v5001)])|.inr ((v5002,v5003))=>(.tup [(.agg [Ea,(.ms 3 1 0 v5002.length v5002.length),(.ms 4 1 0 v5003.length v5003.length),Ea,(Qe (-1)),(Qe 0),Ea]),(Qe 0)])) (match r with|.inl v5001=>[(Q1 q1 q2),Qv,Qv]|.inr ((v5002,v5003))=>[(Q1 q1 q2),Qv,(Qdc v5002.length v5003.length),(QH v5002),(QH v5003),(Qdc v5002.length v5003.length)]):=by
 unfold Xz at hm
 exact PC_sxB (fn:=f105) rfl (ge 2 (Qg (gr 1 (bi hm fun v1 hx hm=>cp (Z3 hx) (re 1 (ge 2 (rix hm (fun hm=>ge 4 (Qk zf)) (fun hm=>Qi (gr 1 (bi hm fun v2 hx hm=>go 3 3 Qj (QD hx) (Qh 1 (bi hm fun v3 hx hm=>go 4 3 Qj (QD hx) (re 3 (Qg (gr 1 (Qh 1 (re 1 (Qp (Qb5 (RL_at (st':=⟨kp 33 [(6,(.ptr 2 0)),(9,(.ptr 5 0)),(23,(.dat (.lst []))),(24,(Qe 0)),(25,(Qe 0))],(Qer q1 q2 v2 v3 v2.length v3.length)⟩) (prune_of2 (Qer q1 q2 v2 v3 v2.length v3.length) (fun _=>(pg_cons kr (pg_cons kr (pg_cons kr (pg_cons (purge_mt Qj _ _ _ _ _) (pg_cons (purge_mt Qj _ _ _ _ _) (pg_cons kr pg_nil))))))) rfl) (ge 1 (Qg (Xt kr (QO (ge 3 (Qk zf))))))))))))))))))))))))))
def QbD (x:(Int × Int)):Option Int :=
 match x with
 | (p0,p1) =>
 if p1≤0 then
  some 0
 else
 remM p0 p1>>=fun v1 =>
 if v1 < 0 then
  some (W (v1+p1))
 else
 some v1
theorem QgC {p0 p1 r0} (hm:QbD (p0,p1)=some r0):FQ 138 [(Qj p0),(Qj p1)] (Qe r0):=by
 unfold QbD at hm
 exact fp (fn:=f138) rfl (ge 1 (Qg (ge 2 (ri hm (fun hm=>ge 1 (Qk zf)) (fun hm=>Qi (gr 2 (bi hm fun v1 hx hm=>QT rfl (fun _=>Qg5 (a:=p0) (b:=p1) hx rfl kr kr) (re 1 (Qg (ge 2 (ri hm (fun hm=>R_G (re 4 (ge 2 (Qk zf)))) (fun hm=>Qi (ge 2 (Qk zf))))))))))))))
def Qau (x:(Int × Int × (List Int) × Bool × (List Int) × (List Int))):Option (Unit) :=
 match x with
 | (q0,q1,q2,q3,q4,q5) =>
 some ()
theorem QdW {q0 q1 q2 q3 q4 q5} (hm:Qau (q0,q1,q2,q3,q4,q5)=some ()):PC prog env 127 [(.ptr 6 0),(.iptr [(Qj q0)]),(.iptr [(Qj q1)])] (Qe5 q2 q3 q0 q1 q4 q5 q4.length q5.length) (.tup []) (Qfc q2 q3 q0 q1 q4 q5 q4.length q5.length):=by
 unfold Qau at hm
 exact PC_sxB (fn:=f127) rfl (X0 (re 10 ⟨kr,zf⟩))
def Xy (x:((List Int) × (List Int) × Bool × Int × Int)):Option (Int ⊕ ((List Int) × (List Int))) :=
 match x with
 | (q0,q1,q2,q3,q4) =>
 Zo q0>>=fun v1 =>
 if v1≠0 then
  some (Sum.inl v1)
 else
 Qy q0>>=fun v2 =>
 Qy q0>>=fun v3 =>
 Qau (q3,q4,q1,q2,v2,v3)>>=fun _ =>
 some (Sum.inr (v2,v3))
theorem QcU {q0 q1 q2 q3 q4 r} (hm:Xy (q0,q1,q2,q3,q4)=some r):PC prog env 105 [(La q0),(La q0),(.arr 2 0 1 1)] [(Q1 q1 q2),Qv,(QaT q3 q4)] (match r with|.inl v5001=>(.tup [Qbo,(Qe v5001)])|.inr ((v5002,v5003))=>(.tup [(.agg [Ea,(.ms 4 1 0 v5002.length v5002.length),(.ms 5 1 0 v5003.length v5003.length),Ea,(Qe q3),(Qe q4),Ea]),(Qe 0)])) (match r with|.inl v5001=>[(Q1 q1 q2),Qv,(QaT q3 q4),Qv]|.inr ((v5002,v5003))=>[(Q1 q1 q2),Qv,(QaT q3 q4),(Qep v5002.length v5003.length q3 q4),(QH v5002),(QH v5003),(Qep v5002.length v5003.length q3 q4)]):=by
 unfold Xy at hm
 exact PC_sxB (fn:=f105) rfl (ge 2 (Qg (gr 1 (bi hm fun v1 hx hm=>cp (Z3 hx) (re 1 (ge 2 (rix hm (fun hm=>ge 4 (Qk zf)) (fun hm=>Qi (gr 1 (bi hm fun v2 hx hm=>go 4 3 Qj (QD hx) (Qh 1 (bi hm fun v3 hx hm=>go 5 3 Qj (QD hx) (re 3 (Qg (gr 1 (Qh 1 (re 1 (Qp (Qb5 (RL_at (st':=⟨kp 33 [(6,(.ptr 3 0)),(9,(.ptr 6 0)),(23,(.arr 2 0 1 1)),(24,(Qe 1)),(25,(Qe 0))],(Qe5 q1 q2 q3 q4 v2 v3 v2.length v3.length)⟩) (prune_of2 (Qe5 q1 q2 q3 q4 v2 v3 v2.length v3.length) (fun _=>(pg_cons kr (pg_cons kr (pg_cons kr (pg_cons kr (pg_cons (purge_mt Qj _ _ _ _ _) (pg_cons (purge_mt Qj _ _ _ _ _) (pg_cons kr pg_nil)))))))) rfl) (ge 1 (Qg (Qaj kr (Qi (Qg (Qp (gr 1 (re 2 (R_G (Qh 1 (bi hm fun _ hx hm=>Za (QdW hx) (Y9 (R_G (re 2 (RL_at (st':=⟨kp 33 [(6,(.ptr 3 0)),(9,(.ptr 6 0)),(23,(.arr 2 0 1 1)),(24,(Qe 1)),(25,(Qe 1))],(Qfc q1 q2 q3 q4 v2 v3 v2.length v3.length)⟩) (prune_of2 (Qfc q1 q2 q3 q4 v2 v3 v2.length v3.length) (fun _=>(pg_cons kr (pg_cons kr (pg_cons kr (pg_cons kr (pg_cons (purge_mt Qj _ _ _ _ _) (pg_cons (purge_mt Qj _ _ _ _ _) (pg_cons kr pg_nil)))))))) rfl) (ge 1 (Qg (Xt kr (QO (ge 3 (Qk zf)))))))))))))))))))))))))))))))))))))))))
def Qa0 (x:(QV × Int × (List Int))):Option (Qt × Int) :=
 match x with
 | (p0,p1,p2) =>
 Qdn p0>>=fun (v1,v2) =>
 if v2≠0 then
  ZB v2>>=fun (v3,v4) =>
  some (v3,v4)
 else
 J2 (p1,p2)>>=fun (v5,v6) =>
 if v6≠0 then
  ZB v6>>=fun (v7,v8) =>
  some (v7,v8)
 else
 if v5 < 0 then
  (
  Xz (p2,p0.values,p0.scalar)>>=fun out =>
  match out with
  | .inl v9 =>
   some ((⟨([]:(List Int)),([]:(List Int)),([]:(List Int)),([]:(List Int)),0,0,([]:(List Int))⟩:Qt),v9)
  | .inr ((v10,v11)) =>
   some ((⟨([]:(List Int)),v10,v11,([]:(List Int)),(-1),0,([]:(List Int))⟩:Qt),0)
  )
 else
 idx p2 v5>>=fun v12 =>
 QbD (v1,v12)>>=fun v13 =>
 Xg (v5,v13)>>=fun (v14,v15) =>
 (
 Xy (p2,p0.values,p0.scalar,v14,v15)>>=fun out =>
 match out with
 | .inl v16 =>
  some ((⟨([]:(List Int)),([]:(List Int)),([]:(List Int)),([]:(List Int)),0,0,([]:(List Int))⟩:Qt),v16)
 | .inr ((v17,v18)) =>
  some ((⟨([]:(List Int)),v17,v18,([]:(List Int)),v14,v15,([]:(List Int))⟩:Qt),0)
 )
theorem QfK {p0 p1 p2 r0 r1} (hm:Qa0 (p0,p1,p2)=some (r0,r1)):FQ 114 [(QV.toD p0),(Qj p1),(Lb p2)] (.tup [(.dat (Qt.toD r0)),(Qe r1)]):=by
 unfold Qa0 at hm
 exact fp (fn:=f114) rfl (ge 3 (gr 1 (bi2 hm fun v1 v2 hx hm=>cp (QgF hx) (re 5 (Qg (ge 2 (rix hm (fun hm=>gr 1 (bi2 hm fun v3 v4 hx hm=>cp (Z2 hx) (re 4 (Qk zf)))) (fun hm=>Qi (gr 2 (bi2 hm fun v5 v6 hx hm=>cp (Qef hx) (re 5 (Qg (ge 2 (rix hm (fun hm=>gr 1 (bi2 hm fun v7 v8 hx hm=>cp (Z2 hx) (re 4 (Qk zf)))) (fun hm=>Qi (Qg (ge 2 (ri hm (fun hm=>gr 2 (bs hm (fun v9 hx hm=>Za (QcY hx) (re 4 (Qk zf))) fun ⟨v10,v11⟩ hx hm=>Za (QcY hx) (re 4 (Qk (by obtain ⟨rfl,rfl⟩:=QeV hm; exact ⟨trivial,Xu [(.agg [Ea,(.ms 3 1 0 v10.length v10.length),(.ms 4 1 0 v11.length v11.length),Ea,(Qe (-1)),(Qe 0),Ea]),(Qe 0)] kr (po_tup (ps_cons (p1_agg (pc_cons kr (pc_cons (pc_ms (e:=3) Qj v10 rfl (fun _=>rfl) kr) (pc_cons (pc_ms (e:=3) Qj v11 rfl (fun _=>rfl) kr) (pc_cons kr (pc_cons kr (pc_cons kr (pc_cons kr pc_nil)))))))) (ps_cons kr ps_nil)))⟩))))) (fun hm=>Qi (gr 6 (Zj 1 Qj hm fun v12 hm=>Qh 1 (bi hm fun v13 hx hm=>cp (QgC hx) (bi2 hm fun v14 v15 hx hm=>cp (Qdt hx) (Qh 1 (bs hm (fun v16 hx hm=>Za (QcU hx) (re 4 (Qk zf))) fun ⟨v17,v18⟩ hx hm=>Za (QcU hx) (re 4 (Qk (by obtain ⟨rfl,rfl⟩:=QeV hm; exact ⟨trivial,Xu [(.agg [Ea,(.ms 4 1 0 v17.length v17.length),(.ms 5 1 0 v18.length v18.length),Ea,(Qe v14),(Qe v15),Ea]),(Qe 0)] kr (po_tup (ps_cons (p1_agg (pc_cons kr (pc_cons (pc_ms (e:=3) Qj v17 rfl (fun _=>rfl) kr) (pc_cons (pc_ms (e:=3) Qj v18 rfl (fun _=>rfl) kr) (pc_cons kr (pc_cons kr (pc_cons kr (pc_cons kr pc_nil)))))))) (ps_cons kr ps_nil)))⟩))))))))))))))))))))))))))))
def Y3 (x:(Int × (List Int) × Bool × Int × (List Int) × Nat)):Option (((List Int) × Int × Int)) :=
 match x with
 | (q0,q1,q2,q3,q4,q5) =>
 (if q0 < 0 then
  some true
 else
 some (decide (q0≥q3))
 )>>=fun (v1:Bool) =>
 if v1=true then
  some (q4,0,6)
 else
 some ((insK q4 q0),q0,0)
theorem QcF {q0 q1 q2 q3 q4 q5 v5001 v5002 v5003} (hm:Y3 (q0,q1,q2,q3,q4,q5)=some (v5001,v5002,v5003)):PC prog env 155 [(Qe q0),(.ptr 1 0),(.ptr 3 0)] (JU q1 q2 q3 q4 q5) (.tup [(Qe v5002),(Qe v5003)]) (JU q1 q2 q3 v5001 q5):=by
 unfold Y3 at hm
 exact PC_sxB (fn:=f155) rfl (ge 2 (Qg (Qg (bi hm fun v1 hs hm=>Ze (fun d=>⟨sl d 16 [(0,(Qe q0)),(2,(.ptr 3 0)),(12,(Qo v1))],(JU q1 q2 q3 q4 q5)⟩) (have hm:=hs;R_G (Qh 3 (gs 8 hm (fun hm=>re 4 zf) (fun hm=>re 4 zf)))) (fun d=>rib hm (fun hm=>ge 2 (Qk zf)) (fun hm=>Qi (gr 2 (Jk (fun H=>H.set 2 (.map (setE .i64 (Qdx true) (insK q4 q0)))) rfl kr (fun _=>Qg6 (i:=2) (kt:=3) (e:=4) (ik:=.i64) (l:=q4) (n:=q0) (v:=(Qdx true)) kr kr rfl kr kr kr kr) (Y9 (ge 3 (Qk zf)))))))))))
def QN (x:((List Int) × (List Int) × Bool × Int × (List Int) × (List Int) × Int)):Option (((List Int) × Int × Nat) ⊕ ((List Int) × (List Int))) :=
 match x with
 | (q0,q1,q2,q3,v201,v202,v203) =>
 if v203 < (q0.length:Int) then
  idx q0 v203>>=fun v606 =>
  Y3 (v606,q1,q2,q3,v201,v202.length)>>=fun (v607,v608,v609) =>
  if v609≠0 then
   some (Sum.inl (v607,v609,v202.length))
  else
  app 8 v202 ([v608]:List Int)>>=fun v610 =>
  QN (q0,q1,q2,q3,v607,v610,(W (v203+1)))
 else
 some (Sum.inr (v201,v202))
 partial_fixpoint
theorem Yz:∀ x r,QN x=some r→match x with|(q0,q1,q2,q3,v201,v202,v203)=>LQ f154 154 [1,1,0,1,0,0] 5 ⟨kp 35 [(1,(.fn 155 [(.ptr 1 0),(.ptr 3 0)])),(6,(.vec 4 ((List.map Qj) v202))),(14,(La q0)),(15,(Qe (q0.length:Int))),(16,(Qe v203))],(JU q1 q2 q3 v201 v202.length)⟩ (P2 .ret (fun (v601,v602,v603) d=>⟨sl d 35 [(4,Ea),(5,(Qe v602))],(JU q1 q2 q3 v601 v603)⟩) (.exit 0) (fun (v604,v605) d=>⟨sl d 35 [(6,(.vec 4 ((List.map Qj) v605)))],(JU q1 q2 q3 v604 v605.length)⟩) r):=by
 refine QN.partial_correctness _ (fun QN Yz x r hm=>?_)
 obtain ⟨q0,q1,q2,q3,v201,v202,v203⟩:=x
 exact lp (ge 1 (Qg (ri hm (fun hm=>Qi (Qg (Qp (Qg (R_G (Zj 1 Qj hm fun v606 hm=>re 2 (gr 2 (bi3 hm fun v607 v608 v609 hx hm=>Za (QcF hx) (re 5 (Qg (ge 2 (rix hm (fun hm=>ge 3 (Qk zf)) (fun hm=>Qi (R_G (Qh 3 (bi hm fun v610 hx hm=>Xk 3 1 8 4 Qj v202 ([v608]:List Int) v610 (xs:=(List.map Qj) v202) (es:=(List.map Qj) ([v608]:List Int)) (L:=(List.map Qj)) (fun _=>rfl) rfl rfl (fun _=>rfl) hx (re 1 (R_G (re 2 (Yz _ _ hm _ (prune_of2 (JU q1 q2 q3 v607 v610.length) (fun _=>(pg_cons kr (pg_cons kr (pg_cons (purge_set _ _ _ _ _) (pg_cons kr (pg_cons kr pg_nil)))))) rfl))))))))))))))))))))) (fun hm=>QO zf))))
def Ya (x:((List Int) × (List Int) × Bool × Int)):Option (((List Int) × Int × Nat) ⊕ ((List Int) × (List Int))) :=
 match x with
 | (q0,q1,q2,q3) =>
 Xc (0≤(q0.length:Int)∧(q0.length:Int) * (8:Int)≤(room:Int)∧(q0.length:Int)≤9223372036854775807)>>=fun _ =>
 (
 QN (q0,q1,q2,q3,([]:List Int),([]:List Int),0)>>=fun out =>
 match out with
 | .inl (v601,v602,v603) =>
  some (Sum.inl (v601,v602,v603))
 | .inr ((v604,v605)) =>
  some (Sum.inr (v604,v605))
 )
theorem Jj {q0 q1 q2 q3 r} (hm:Ya (q0,q1,q2,q3)=some r):PC prog env 154 [(La q0),(.fn 155 [(.ptr 1 0),(.ptr 3 0)])] [(Q1 q1 q2),(.box [(Qe q3)]),(.map (setE .i64 (Qdx true) ([]:List Int))),(.box [(.mapv 2)])] (match r with|.inl (v5001,v5002,v5003)=>(.tup [Ea,(Qe v5002)])|.inr ((v5004,v5005))=>(.tup [(.vec 4 ((List.map Qj) v5005)),(Qe 0)])) (match r with|.inl (v5001,v5002,v5003)=>(JU q1 q2 q3 v5001 v5003)|.inr ((v5004,v5005))=>(JU q1 q2 q3 v5004 v5005.length)):=by
 unfold Ya at hm
 exact PC_sxB (fn:=f154) rfl (ge 2 (gr 1 (QZ Qj q0 (gi hm fun hx hm=>Jk (v:=.vec 4 []) (fun H=>H++[.tok 3 0]) rfl kr (by intro K hk; exact Qf6 4 (n:=(q0.length:Int)) (j:=0) (os:=[]) (bytes:=8) (z:=(Qj 0)) hx kr kr kr kr kr kr rfl kr kr hk) (re 1 (Qg (gr 1 (QZ Qj q0 (re 1 (Qp (ru2 hm (Yz _) (fun ⟨v601,v602,v603⟩ d hm=>zf) (fun ⟨v604,v605⟩ d hm=>ge 3 (Qk zf)) (hst:=(prune_of2 (Qhe q1 q2 q3) (fun _=>(pg_cons kr (pg_cons kr (pg_cons (purge_set _ _ _ _ _) (pg_cons kr (pg_cons kr pg_nil)))))) rfl)))))))))))))
def Zk (x:((List Int) × Int × Int)):Option (Int) :=
 match x with
 | (p0,v202,v203) =>
 if v203 < (p0.length:Int) then
  idx p0 v203>>=fun v603 =>
  Zk (p0,(if v202 < v603 then v603 else v202),(W (v203+1)))
 else
 some v202
 partial_fixpoint
theorem JF:∀ x r,Zk x=some r→match x with|(p0,v202,v203)=>LQ f156 156 [1,1,1,0,1,0,0] 0 ⟨kp 25 [(0,(La p0)),(3,(Qe v202)),(4,(Qe v203))],[]⟩ (P1 (.exit 0) (fun v602 d=>⟨sl d 25 [(3,(Qe v602))],[]⟩) r):=by
 refine Zk.partial_correctness _ (fun Zk JF x r hm=>?_)
 obtain ⟨p0,v202,v203⟩:=x
 exact lp (Qg (gr 2 (QZ Qj p0 (re 1 (ri hm (fun hm=>Qi (Qg (Qp (R_G (Qh 3 (Zj 1 Qj hm fun v603 hm=>Qh 1 (QT rfl (fun _=>Qf5 (k:=.i64) (m:=v202) (n:=v603) rfl kr kr) (re 1 (R_G (re 3 (JF _ _ hm _ kr))))))))))) (fun hm=>QO zf))))))
def YN (x:(List Int)):Option Int :=
 match x with
 | p0 =>
 if (p0.length:Int) < 1 then
  none
 else
 idx p0 0>>=fun v1 =>
 Zk (p0,v1,1)>>=fun v602 =>
 some v602
theorem Qb4 {p0 r0} (hm:YN p0=some r0):FQ 156 [(Lb p0)] (Qe r0):=by
 unfold YN at hm
 exact fp (fn:=f156) rfl (ge 1 (Qg (gr 1 (QZ Qj p0 (re 1 (ri hm (fun hm=>R_G ((Qhi hm).elim)) (fun hm=>Qi (gr 1 (Zj 1 Qj hm fun v1 hm=>re 2 (Qg (ge 1 (Qp (ru1 hm (JF _) fun v602 d hm=>ge 2 (Qk zf))))))))))))))
def XW (x:(QV × Int)):Option ((List Int) × Int) :=
 match x with
 | (p0,p1) =>
 JC (p0,p1)>>=fun (v1,v2) =>
 if v2≠0 then
  some (([]:(List Int)),v2)
 else
 (
 Ya (v1,p0.values,p0.scalar,p1)>>=fun out =>
 match out with
 | .inl (v3,v4,v5) =>
  ((if v4=0 then
   some (decide (p1 > 0))
  else
  some false
  )>>=fun (v9:Bool) =>
  if v9=true then
   YN ([]:(List Int))>>=fun v10 =>
   some ((v3.length:Int) != (W (v10+1)))
  else
  some false
  )>>=fun (v8:Bool) =>
  if v8=true then
   some (([]:(List Int)),6)
  else
  some (([]:(List Int)),v4)
 | .inr ((v6,v7)) =>
  (if p1 > 0 then
   YN v7>>=fun v12 =>
   some ((v6.length:Int) != (W (v12+1)))
  else
  some false
  )>>=fun (v11:Bool) =>
  if v11=true then
   some (([]:(List Int)),6)
  else
  some (v7,0)
 )
theorem Qem {p0 p1 r0 r1} (hm:XW (p0,p1)=some (r0,r1)):FQ 139 [(QV.toD p0),(Qj p1)] (.tup [(La r0),(Qe r1)]):=by
 unfold XW at hm
 exact fp (fn:=f139) rfl (ge 4 (gr 2 (bi2 hm fun v1 v2 hx hm=>cp (Qd1 hx) (re 5 (Qg (ge 2 (rix hm (fun hm=>ge 3 (Qk zf)) (fun hm=>Qi (gr 1 (re 2 (gr 2 (bs hm (fun ⟨v3,v4,v5⟩ hx hm=>Za (Jj hx) (re 5 (Qg (Qg (bi hm fun v8 hs hm=>Ze (fun d=>⟨sl d 42 [(7,(Qe v4)),(9,Ea),(39,(Qo v8))],(JU p0.values p0.scalar p1 v3 v5)⟩) (have hm:=hs;Qc8 (Qh 3 (bi hm fun v9 hs hm=>Yu (j:=6) (fun d=>⟨sl d 42 [(7,(Qe v4)),(8,(.ptr 3 0)),(9,Ea),(31,(Qo v9))],(JU p0.values p0.scalar p1 v3 v5)⟩) (fun d=>Qh 1 (gsb 32 hm (fun hm=>Qh 1 (QT rfl (fun _=>Qf7 (kt:=3) (e:=4) (i:=2) (kk:=.i64) (v:=(Qdx true)) (l:=v3) kr rfl kr kr) (Qh 1 (bi hm fun v10 hx hm=>cp (Qb4 hx) (re 3 ⟨kr,zf⟩))))) (fun hm=>re 7 ⟨kr,zf⟩))) (fun hJ=>gsq 28 hs (fun hm=>Qh 3 zf) (fun hm=>Qh 3 zf))))) (fun d=>rib hm (fun hm=>ge 2 (Qk zf)) (fun hm=>Qi (ge 4 (Qk zf))))))))) fun ⟨v6,v7⟩ hx hm=>Za (Jj hx) (re 5 (Qg (Qg (bi hm fun v11 hs hm=>Ze (fun d=>⟨sl d 42 [(7,(Qe 0)),(9,(.vec 4 ((List.map Qj) v7))),(39,(Qo v11))],(JU p0.values p0.scalar p1 v6 v7.length)⟩) (have hm:=hs;Qc8 (Qh 7 (gs 32 hm (fun hm=>Qh 1 (QT rfl (fun _=>Qf7 (kt:=3) (e:=4) (i:=2) (kk:=.i64) (v:=(Qdx true)) (l:=v6) kr rfl kr kr) (Qh 1 (bi hm fun v12 hx hm=>cp (Qb4 hx) (re 3 ⟨kr,zf⟩))))) (fun hm=>re 7 ⟨kr,zf⟩)))) (fun d=>rib hm (fun hm=>ge 2 (Qk zf)) (fun hm=>Qi (ge 4 (Qk zf))))))))))))))))))))
def JA (x:(QV × (List Int))):Option (Qt × Int) :=
 match x with
 | (p0,p1) =>
 XW ((⟨p0.values,p0.scalar⟩:QV),(p1.length:Int))>>=fun (v1,v2) =>
 if v2≠0 then
  ZB v2>>=fun (v3,v4) =>
  some (v3,v4)
 else
 X6 (v1,p1)>>=fun (v5,v6) =>
 some (v5,v6)
theorem QeO {p0 p1 r0 r1} (hm:JA (p0,p1)=some (r0,r1)):FQ 115 [(QV.toD p0),(Lb p1)] (.tup [(.dat (Qt.toD r0)),(Qe r1)]):=by
 unfold JA at hm
 exact fp (fn:=f115) rfl (ge 3 (gr 2 (QZ Qj p1 (bi2 hm fun v1 v2 hx hm=>cp (Qem hx) (re 5 (Qg (ge 2 (rix hm (fun hm=>gr 1 (bi2 hm fun v3 v4 hx hm=>cp (Z2 hx) (re 4 (Qk zf)))) (fun hm=>Qi (gr 2 (bi2 hm fun v5 v6 hx hm=>cp (QdB hx) (re 4 (Qk zf)))))))))))))
def Js (x:Int):Option Bool :=
 match x with
 | p0 =>
 some (decide (p0 < 0))
theorem Qd7 {p0 r0} (hm:Js p0=some r0):FQ 158 [(Qj p0)] (Qo r0):=by
 unfold Js at hm
 exact fp (fn:=f158) rfl (ge 1 (ge 3 (Qk zf)))
def QB (x:((List Int) × Int)):Option (Int ⊕ Unit) :=
 match x with
 | (p0,v201) =>
 if v201 < (p0.length:Int) then
  idx p0 v201>>=fun v602 =>
  Js v602>>=fun v603 =>
  if v603=true then
   some (Sum.inl v201)
  else
  QB (p0,(W (v201+1)))
 else
 some (Sum.inr ())
 partial_fixpoint
theorem Zr:∀ x r,QB x=some r→match x with|(p0,v201)=>LQ f170 170 [1,0,1,0,0] 0 ⟨kp 19 [(0,(La p0)),(1,(.dat (.raw (.func (.func 158) #[] #[])))),(7,(Qe (p0.length:Int))),(8,(Qe v201))],[]⟩ (P2 .ret (fun v601 d=>⟨sl d 19 [(4,(Qe v601))],[]⟩) (.exit 0) (fun _ d=>⟨sl d 19 [],[]⟩) r):=by
 refine QB.partial_correctness _ (fun QB Zr x r hm=>?_)
 obtain ⟨p0,v201⟩:=x
 exact lp (ge 1 (Qg (ri hm (fun hm=>Qi (Qg (Qp (ge 2 (gr 3 (Zj 1 Qj hm fun v602 hm=>Qh 1 (bi hm fun v603 hx hm=>cp (Qd7 hx) (Y9 (rib hm (fun hm=>ge 2 (Qk zf)) (fun hm=>Qi (R_G (re 2 (Zr _ _ hm _ kr))))))))))))) (fun hm=>QO zf))))
def Zc (x:(List Int)):Option Int :=
 match x with
 | p0 =>
 (
 QB (p0,0)>>=fun out =>
 match out with
 | .inl v601 =>
  some v601
 | .inr (_) =>
  some (-1)
 )
theorem X2 {p0 r0} (hm:Zc p0=some r0):FQ 170 [(Lb p0),(.raw (.func (.func 158) #[] #[]))] (Qe r0):=by
 unfold Zc at hm
 exact fp (fn:=f170) rfl (ge 1 (Qg (gr 1 (QZ Qj p0 (re 1 (Qp (ru2 hm (Zr _) (fun v601 d hm=>zf) fun _ d hm=>ge 1 (Qk zf))))))))
def QU (x:(List Int)):Option Bool :=
 match x with
 | p0 =>
 Zc p0>>=fun v1 =>
 some (decide (v1≥0))
theorem XR {p0 r0} (hm:QU p0=some r0):FQ 157 [(Lb p0),(.raw (.func (.func 158) #[] #[]))] (Qo r0):=by
 unfold QU at hm
 exact fp (fn:=f157) rfl (ge 1 (gr 2 (bi hm fun v1 hx hm=>cp (X2 hx) (re 2 (Qk zf)))))
def QaI (x:Int):Option (Int × Int) :=
 match x with
 | p0 =>
 if p0 < 0 then
  some (0,6)
 else
 if p0 > 65536 then
  some (0,7)
 else
 some (p0,0)
theorem QeQ {p0 r0 r1} (hm:QaI p0=some (r0,r1)):FQ 159 [(Qj p0)] (.tup [(Qe r0),(Qe r1)]):=by
 unfold QaI at hm
 exact fp (fn:=f159) rfl (ge 2 (Qg (Qp (ge 3 (ri hm (fun hm=>ge 2 (Qk zf)) (fun hm=>ge 3 (ri hm (fun hm=>ge 2 (Qk zf)) (fun hm=>Qi (ge 3 (Qk zf))))))))))
def QM (x:((List Int) × Bool × (List Int) × Int)):Option ((Int × Nat) ⊕ (List Int)) :=
 match x with
 | (q0,q1,v201,v202) =>
 if v202 < (q0.length:Int) then
  idx q0 v202>>=fun v604 =>
  QaI v604>>=fun (v605,v606) =>
  if v606≠0 then
   some (Sum.inl (v606,v201.length))
  else
  app 8 v201 ([v605]:List Int)>>=fun v607 =>
  QM (q0,q1,v607,(W (v202+1)))
 else
 some (Sum.inr v201)
 partial_fixpoint
theorem Yy:∀ x r,QM x=some r→match x with|(q0,q1,v201,v202)=>LQ f154 154 [1,1,0,1,0,0] 2 ⟨kp 35 [(1,(.dat (.raw (.func (.func 159) #[] #[])))),(6,(Xl v201)),(14,(La q0)),(15,(Qe (q0.length:Int))),(16,(Qe v202))],(YV q0 q1 v201.length)⟩ (P2 .ret (fun (v601,v602) d=>⟨sl d 35 [(4,Ea),(5,(Qe v601))],(YV q0 q1 v602)⟩) (.exit 0) (fun v603 d=>⟨sl d 35 [(6,(Xl v603))],(YV q0 q1 v603.length)⟩) r):=by
 refine QM.partial_correctness _ (fun QM Yy x r hm=>?_)
 obtain ⟨q0,q1,v201,v202⟩:=x
 exact lp (ge 1 (Qg (ri hm (fun hm=>Qi (Qg (Qp (Qg (R_G (Zj 1 Qj hm fun v604 hm=>re 2 (gr 2 (bi2 hm fun v605 v606 hx hm=>cp (QeQ hx) (re 5 (Qg (ge 2 (rix hm (fun hm=>ge 3 (Qk zf)) (fun hm=>Qi (R_G (Qh 3 (bi hm fun v607 hx hm=>Xk 3 1 8 1 Qj v201 ([v605]:List Int) v607 (xs:=(List.map Qj) v201) (es:=(List.map Qj) ([v605]:List Int)) (L:=(List.map Qj)) (fun _=>rfl) rfl rfl (fun _=>rfl) hx (re 1 (R_G (re 2 (Yy _ _ hm _ kr)))))))))))))))))))) (fun hm=>QO zf))))
def Z9 (x:((List Int) × Bool)):Option ((Int × Nat) ⊕ (List Int)) :=
 match x with
 | (q0,q1) =>
 Xc (0≤(q0.length:Int)∧(q0.length:Int) * (8:Int)≤(room:Int)∧(q0.length:Int)≤9223372036854775807)>>=fun _ =>
 (
 QM (q0,q1,([]:List Int),0)>>=fun out =>
 match out with
 | .inl (v601,v602) =>
  some (Sum.inl (v601,v602))
 | .inr (v603) =>
  some (Sum.inr v603)
 )
theorem Ji {q0 q1 r} (hm:Z9 (q0,q1)=some r):PC prog env 154 [(La q0),(.dat (.raw (.func (.func 159) #[] #[])))] [(Q1 q0 q1)] (match r with|.inl (v5001,v5002)=>(.tup [Ea,(Qe v5001)])|.inr (v5003)=>(.tup [(Xl v5003),(Qe 0)])) (match r with|.inl (v5001,v5002)=>(YV q0 q1 v5002)|.inr (v5003)=>(YV q0 q1 v5003.length)):=by
 unfold Z9 at hm
 exact PC_sxB (fn:=f154) rfl (ge 2 (gr 1 (QZ Qj q0 (gi hm fun hx hm=>Jk (v:=.vec 1 []) (fun H=>H++[.tok 3 0]) rfl kr (by intro K hk; exact Qf6 1 (n:=(q0.length:Int)) (j:=0) (os:=[]) (bytes:=8) (z:=(Qj 0)) hx kr kr kr kr kr kr rfl kr kr hk) (re 1 (Qg (gr 1 (QZ Qj q0 (re 1 (Qp (ru2 hm (Yy _) (fun ⟨v601,v602⟩ d hm=>zf) fun v603 d hm=>ge 3 (Qk zf))))))))))))
def Jf (x:QV):Option ((List Int) × Int) :=
 match x with
 | p0 =>
 QU p0.values>>=fun v1 =>
 if v1=true then
  some (([]:(List Int)),6)
 else
 (
 Z9 (p0.values,p0.scalar)>>=fun out =>
 match out with
 | .inl (v2,v3) =>
  (if v2=0 then
   Zo ([]:(List Int))>>=fun v6 =>
   some v6
  else
  some v2
  )>>=fun (v5:Int) =>
  if v5≠0 then
   some (([]:(List Int)),v5)
  else
  some (([]:(List Int)),0)
 | .inr (v4) =>
  Zo v4>>=fun v7 =>
  if v7≠0 then
   some (([]:(List Int)),v7)
  else
  some (v4,0)
 )
theorem QeJ {p0 r0 r1} (hm:Jf p0=some (r0,r1)):FQ 140 [(QV.toD p0)] (.tup [(La r0),(Qe r1)]):=by
 unfold Jf at hm
 exact fp (fn:=f140) rfl (ge 3 (Qg (gr 2 (bi hm fun v1 hx hm=>cp (XR hx) (Y9 (rib hm (fun hm=>ge 2 (Qk zf)) (fun hm=>Qi (gr 2 (bs hm (fun ⟨v2,v3⟩ hx hm=>Za (Ji hx) (re 5 (Qg (ge 2 (bi hm fun v5 hs hm=>Ze (fun d=>⟨sl d 23 [(4,Ea),(5,(Qe v5))],(YV p0.values p0.scalar v3)⟩) (have hm:=hs;riq hm (fun hm=>R_G (Qh 1 (bi hm fun v6 hx hm=>cp (Z3 hx) (re 1 zf)))) (fun hm=>Qi zf)) (fun d=>Qg (ge 2 (rix hm (fun hm=>ge 3 (Qk zf)) (fun hm=>Qi (ge 3 (Qk zf))))))))))) fun v4 hx hm=>Za (Ji hx) (re 5 (Qg (ge 2 (Qaj kr (R_G (Qh 1 (bi hm fun v7 hx hm=>cp (Z3 hx) (re 1 (Qg (ge 2 (rix hm (fun hm=>ge 3 (Qk zf)) (fun hm=>Qi (ge 3 (Qk zf)))))))))))))))))))))))
def Qab (x:((List Int) × (List Int) × (List Int) × Bool)):Option (Int ⊕ ((List Int) × (List Int))) :=
 match x with
 | (q0,q1,q2,q3) =>
 Zo q1>>=fun v1 =>
 if v1≠0 then
  some (Sum.inl v1)
 else
 Qy q0>>=fun v2 =>
 Qy q1>>=fun v3 =>
 some (Sum.inr (v2,v3))
theorem QcX {q0 q1 q2 q3 r} (hm:Qab (q0,q1,q2,q3)=some r):PC prog env 105 [(La q0),(La q1),(.dat (.lst []))] [(Q1 q2 q3),Qv] (match r with|.inl v5001=>(.tup [Qbo,(Qe v5001)])|.inr ((v5002,v5003))=>(.tup [(.agg [Ea,(.ms 3 1 0 v5002.length v5002.length),(.ms 4 1 0 v5003.length v5003.length),Ea,(Qe (-1)),(Qe 0),Ea]),(Qe 0)])) (match r with|.inl v5001=>[(Q1 q2 q3),Qv,Qv]|.inr ((v5002,v5003))=>[(Q1 q2 q3),Qv,(Qdc v5002.length v5003.length),(QH v5002),(QH v5003),(Qdc v5002.length v5003.length)]):=by
 unfold Qab at hm
 exact PC_sxB (fn:=f105) rfl (ge 2 (Qg (gr 1 (bi hm fun v1 hx hm=>cp (Z3 hx) (re 1 (ge 2 (rix hm (fun hm=>ge 4 (Qk zf)) (fun hm=>Qi (gr 1 (bi hm fun v2 hx hm=>go 3 3 Qj (QD hx) (Qh 1 (bi hm fun v3 hx hm=>go 4 3 Qj (QD hx) (re 3 (Qg (gr 1 (Qh 1 (re 1 (Qp (Qb5 (RL_at (st':=⟨kp 33 [(6,(.ptr 2 0)),(9,(.ptr 5 0)),(23,(.dat (.lst []))),(24,(Qe 0)),(25,(Qe 0))],(Qer q2 q3 v2 v3 v2.length v3.length)⟩) (prune_of2 (Qer q2 q3 v2 v3 v2.length v3.length) (fun _=>(pg_cons kr (pg_cons kr (pg_cons kr (pg_cons (purge_mt Qj _ _ _ _ _) (pg_cons (purge_mt Qj _ _ _ _ _) (pg_cons kr pg_nil))))))) rfl) (ge 1 (Qg (Xt kr (QO (ge 3 (Qk zf))))))))))))))))))))))))))
def Qas (x:(QV × (List Int))):Option (Qt × Int) :=
 match x with
 | (p0,p1) =>
 Jf (⟨p0.values,p0.scalar⟩:QV)>>=fun (v1,v2) =>
 if v2≠0 then
  ZB v2>>=fun (v3,v4) =>
  some (v3,v4)
 else
 (
 Qab (p1,v1,p0.values,p0.scalar)>>=fun out =>
 match out with
 | .inl v5 =>
  some ((⟨([]:(List Int)),([]:(List Int)),([]:(List Int)),([]:(List Int)),0,0,([]:(List Int))⟩:Qt),v5)
 | .inr ((v6,v7)) =>
  some ((⟨([]:(List Int)),v6,v7,([]:(List Int)),(-1),0,([]:(List Int))⟩:Qt),0)
 )
theorem Qfu {p0 p1 r0 r1} (hm:Qas (p0,p1)=some (r0,r1)):FQ 116 [(QV.toD p0),(Lb p1)] (.tup [(.dat (Qt.toD r0)),(Qe r1)]):=by
 unfold Qas at hm
 exact fp (fn:=f116) rfl (ge 3 (gr 1 (bi2 hm fun v1 v2 hx hm=>cp (QeJ hx) (re 5 (Qg (ge 2 (rix hm (fun hm=>gr 1 (bi2 hm fun v3 v4 hx hm=>cp (Z2 hx) (re 4 (Qk zf)))) (fun hm=>Qi (gr 2 (bs hm (fun v5 hx hm=>Za (QcX hx) (re 4 (Qk zf))) fun ⟨v6,v7⟩ hx hm=>Za (QcX hx) (re 4 (Qk (by obtain ⟨rfl,rfl⟩:=QeV hm; exact ⟨trivial,Xu [(.agg [Ea,(.ms 3 1 0 v6.length v6.length),(.ms 4 1 0 v7.length v7.length),Ea,(Qe (-1)),(Qe 0),Ea]),(Qe 0)] kr (po_tup (ps_cons (p1_agg (pc_cons kr (pc_cons (pc_ms (e:=3) Qj v6 rfl (fun _=>rfl) kr) (pc_cons (pc_ms (e:=3) Qj v7 rfl (fun _=>rfl) kr) (pc_cons kr (pc_cons kr (pc_cons kr (pc_cons kr pc_nil)))))))) (ps_cons kr ps_nil)))⟩)))))))))))))
def Zf (x:(Int × Int × Int × ByteArray × (List Int) × (List Qa) × Int × (List Int) × Int × (List Int) × Int × Int × (List Int) × (List Qc) × (List (ByteArray × Int)) × (List Qb) × (List Qb) × (List Ql))):Option ((Int × (List Int) × Int × (List Int) × Int × Int × (List Int) × (List Qc) × Int)) :=
 match x with
 | (q0,q1,q2,q3,q4,q5,q6,q7,q8,q9,q10,q11,q12,q13,q14,q15,q16,q17) =>
 idx q5 0>>=fun v1 =>
 Yt (v1.kind,v1.fn,v1.axis,v1.name,v1.nums,v1.kids,q14,q15,q16)>>=fun (v2,v3,v4) =>
 if v4≠0 then
  some (0,([]:List Int),0,([]:List Int),0,0,([]:List Int),([]:List Qc),v4)
 else
 if q1=1 then
  Qb2 ((⟨v2,v3⟩:QV),q7)>>=fun (v5,v6) =>
  JY (v5,(⟨q6,q7,q8,q9,q10,q11,q12,q13⟩:Qc))>>=fun v7 =>
  some (v7.kind,v7.shape,v7.buffer,v7.starts,v7.axis,v7.amount,v7.perm,v7.kids,v6)
 else
 if q1=2 then
  Qbl ((⟨v2,v3⟩:QV),q7)>>=fun (v8,v9) =>
  JY (v8,(⟨q6,q7,q8,q9,q10,q11,q12,q13⟩:Qc))>>=fun v10 =>
  some (v10.kind,v10.shape,v10.buffer,v10.starts,v10.axis,v10.amount,v10.perm,v10.kids,v9)
 else
 if q1=3 then
  Qa0 ((⟨v2,v3⟩:QV),q2,q7)>>=fun (v11,v12) =>
  JX (4,v11,(⟨q6,q7,q8,q9,q10,q11,q12,q13⟩:Qc))>>=fun v13 =>
  some (v13.kind,v13.shape,v13.buffer,v13.starts,v13.axis,v13.amount,v13.perm,v13.kids,v12)
 else
 if q1=4 then
  JA ((⟨v2,v3⟩:QV),q7)>>=fun (v14,v15) =>
  Xv (v14,(⟨q6,q7,q8,q9,q10,q11,q12,q13⟩:Qc))>>=fun v16 =>
  some (v16.kind,v16.shape,v16.buffer,v16.starts,v16.axis,v16.amount,v16.perm,v16.kids,v15)
 else
 Qas ((⟨v2,v3⟩:QV),q7)>>=fun (v17,v18) =>
 XD ((⟨q6,q7,q8,q9,q10,q11,q12,q13⟩:Qc),v17.shape)>>=fun v19 =>
 some (v19.kind,v19.shape,v19.buffer,v19.starts,v19.axis,v19.amount,v19.perm,v19.kids,v18)
theorem Qcl {q0 q1 q2 q3 q4 q5 q6 q7 q8 q9 q10 q11 q12 q13 q14 q15 q16 q17 v5001 v5002 v5003 v5004 v5005 v5006 v5007 v5008 v5009} (hm:Zf (q0,q1,q2,q3,q4,q5,q6,q7,q8,q9,q10,q11,q12,q13,q14,q15,q16,q17)=some (v5001,v5002,v5003,v5004,v5005,v5006,v5007,v5008,v5009)):PCX prog env 78 [(.ptr 7 0),(QbW q0 q1 q2 q3 q4 q5),(Qev q6 q7 q8 q9 q10 q11 q12 q13)] (QaR q14 q15.length q15 q16 q17.length q17) (.tup [(Qev v5001 v5002 v5003 v5004 v5005 v5006 v5007 v5008),(Qe v5009)]) (QaR q14 q15.length q15 q16 q17.length q17):=by
 unfold Zf at hm
 exact PCX_sxB (fn:=f78) rfl (ge 4 (Qg (X0 (Qh 6 (bi hm fun v1 hx hm=>QbU 6 Qa.toD q5 0 v1 (es:=Qa.toDs q5) (d:=(Qa.ex v1)) (Qa.toDs_eq _) hx (Qa.toD_eq v1) rfl (Qh 1 (bi3 hm fun v2 v3 v4 hx hm=>QgM (n:=5) (QeK hx) (re 6 ⟨kr,Qg (ge 2 (rix hm (fun hm=>ge 4 (Qk zf)) (fun hm=>Qi (ge 1 (Qg (ge 2 (Qp (ge 2 (riq hm (fun hm=>gr 3 (bi2 hm fun v5 v6 hx hm=>cp (Qgt hx) (re 5 (gr 2 (bi hm fun v7 hx hm=>cp (Qea hx) (re 3 (Qk zf))))))) (fun hm=>ge 2 (riq hm (fun hm=>gr 3 (bi2 hm fun v8 v9 hx hm=>cp (Qgr hx) (re 5 (gr 2 (bi hm fun v10 hx hm=>cp (Qea hx) (re 3 (Qk zf))))))) (fun hm=>ge 2 (riq hm (fun hm=>gr 5 (bi2 hm fun v11 v12 hx hm=>cp (QfK hx) (re 5 (gr 2 (bi hm fun v13 hx hm=>cp (Qd9 hx) (re 3 (Qk zf))))))) (fun hm=>ge 2 (riq hm (fun hm=>gr 3 (bi2 hm fun v14 v15 hx hm=>cp (QeO hx) (re 5 (gr 2 (bi hm fun v16 hx hm=>cp (QcP hx) (re 3 (Qk zf))))))) (fun hm=>Qi (gr 3 (bi2 hm fun v17 v18 hx hm=>cp (Qfu hx) (re 5 (gr 3 (bi hm fun v19 hx hm=>cp (Qb7 hx) (re 3 (Qk zf)))))))))))))))))))))))⟩) (hi:=und_hi 0))))))))
mutual
def Q3 (x:(Int × Int × Int × ByteArray × (List Int) × (List Qa) × Int × (List Int) × Int × (List Int) × Int × Int × (List Int) × (List Qc) × (List (ByteArray × Int)) × (List Qb) × (List Qb) × (List Ql))):Option (((List Ql) × Int × (List Int) × Int × (List Qc) × Int)) :=
 match x with
 | (q0,q1,q2,q3,q4,q5,q6,q7,q8,q9,q10,q11,q12,q13,q14,q15,q16,q17) =>
 idx q5 0>>=fun v1 =>
 Qw (v1.kind,v1.fn,v1.axis,v1.name,v1.nums,v1.kids,q14,q15,q16,q17)>>=fun (v2,v3,v4,v5,v6,v7,v8,v9,v10,v11) =>
 if v11≠0 then
  some (v2,0,([]:List Int),0,([]:List Qc),v11)
 else
 Y8 (q2,v4,q7)>>=fun (v12,v13) =>
 Qap ((⟨v3,v4,v5,v6,v7,v8,v9,v10⟩:Qc),v12.left)>>=fun v14 =>
 Qap ((⟨q6,q7,q8,q9,q10,q11,q12,q13⟩:Qc),v12.right)>>=fun v15 =>
 some (v2,7,v12.shape,v12.axis,([(⟨v14.kind,v14.shape,v14.buffer,v14.starts,v14.axis,v14.amount,v14.perm,v14.kids⟩:Qc),(⟨v15.kind,v15.shape,v15.buffer,v15.starts,v15.axis,v15.amount,v15.perm,v15.kids⟩:Qc)]:List Qc),v13)
 partial_fixpoint
def Qw (x:(Int × Int × Int × ByteArray × (List Int) × (List Qa) × (List (ByteArray × Int)) × (List Qb) × (List Qb) × (List Ql))):Option (((List Ql) × Int × (List Int) × Int × (List Int) × Int × Int × (List Int) × (List Qc) × Int)) :=
 match x with
 | (q0,q1,q2,q3,q4,q5,q6,q7,q8,q9) =>
 if (q5.length:Int)=0 then
  ZO (q0,q1,q2,q3,q4,q5,q6,q7,q8,q9)>>=fun (v1,v2,v3,v4,v5) =>
  some (v1,v2,v3,v4,([]:List Int),0,0,([]:List Int),([]:List Qc),v5)
 else
 idx q5 (W ((q5.length:Int) - 1))>>=fun v6 =>
 Qw (v6.kind,v6.fn,v6.axis,v6.name,v6.nums,v6.kids,q6,q7,q8,q9)>>=fun (v7,v8,v9,v10,v11,v12,v13,v14,v15,v16) =>
 if v16≠0 then
  some (v7,0,([]:List Int),0,([]:List Int),0,0,([]:List Int),([]:List Qc),v16)
 else
 if q0=3 then
  Qbp ((⟨q0,q1,q2,q3,q4,q5⟩:Qa),(⟨v8,v9,v10,v11,v12,v13,v14,v15⟩:Qc))>>=fun (v17,v18) =>
  some (v7,v17.kind,v17.shape,v17.buffer,v17.starts,v17.axis,v17.amount,v17.perm,v17.kids,v18)
 else
 YE ()>>=fun _ =>
 if q1=6 then
  Q3 (q0,q1,q2,q3,q4,q5,v8,v9,v10,v11,v12,v13,v14,v15,q6,q7,q8,v7)>>=fun (v19,v20,v21,v22,v23,v24) =>
  some (v19,v20,v21,0,([]:List Int),v22,0,([]:List Int),v23,v24)
 else
 Zf (q0,q1,q2,q3,q4,q5,v8,v9,v10,v11,v12,v13,v14,v15,q6,q7,q8,v7)>>=fun (v25,v26,v27,v28,v29,v30,v31,v32,v33) =>
 some (v7,v25,v26,v27,v28,v29,v30,v31,v32,v33)
 partial_fixpoint
end
def YP:(Int × Int × Int × ByteArray × (List Int) × (List Qa) × Int × (List Int) × Int × (List Int) × Int × Int × (List Int) × (List Qc) × (List (ByteArray × Int)) × (List Qb) × (List Qb) × (List Ql))→((List Ql) × Int × (List Int) × Int × (List Qc) × Int)→Prop:=fun x r=>match x with
 | (q0,q1,q2,q3,q4,q5,q6,q7,q8,q9,q10,q11,q12,q13,q14,q15,q16,q17)=>PCX prog env 77 [(.ptr 7 0),(QbW q0 q1 q2 q3 q4 q5),(Qev q6 q7 q8 q9 q10 q11 q12 q13)] (QaR q14 q15.length q15 q16 q17.length q17) (match r with|(v5001,v5002,v5003,v5004,v5005,v5006)=>(.tup [(.dat (.agg [(Qj v5002),(Lb v5003),(Qj 0),Eb,(Qj v5004),(Qj 0),Eb,(.lst (Qc.toDs v5005))])),(Qe v5006)])) (match r with|(v5001,v5002,v5003,v5004,v5005,v5006)=>(QaR q14 q15.length q15 q16 v5001.length v5001))
def Xs:(Int × Int × Int × ByteArray × (List Int) × (List Qa) × (List (ByteArray × Int)) × (List Qb) × (List Qb) × (List Ql))→((List Ql) × Int × (List Int) × Int × (List Int) × Int × Int × (List Int) × (List Qc) × Int)→Prop:=fun x r=>match x with
 | (q0,q1,q2,q3,q4,q5,q6,q7,q8,q9)=>PCX prog env 24 [(.ptr 7 0),(QbW q0 q1 q2 q3 q4 q5)] (QaR q6 q7.length q7 q8 q9.length q9) (match r with|(v5001,v5002,v5003,v5004,v5005,v5006,v5007,v5008,v5009,v5010)=>(.tup [(Qev v5002 v5003 v5004 v5005 v5006 v5007 v5008 v5009),(Qe v5010)])) (match r with|(v5001,v5002,v5003,v5004,v5005,v5006,v5007,v5008,v5009,v5010)=>(QaR q6 q7.length q7 q8 v5001.length v5001))
theorem g_elab_maker_catenate_f318e:(∀ x r,Q3 x=some r→YP x r)∧(∀ x r,Qw x=some r→Xs x r):=by
 refine Q3.mutual_partial_correctness YP Xs ?_ ?_
 ·intro Qw YO x r hm
  unfold YP
  obtain ⟨q0,q1,q2,q3,q4,q5,q6,q7,q8,q9,q10,q11,q12,q13,q14,q15,q16,q17⟩:=x
  refine PCX_sxB (fn:=f77) rfl ?_
  exact ge 4 (gr 3 (bi hm fun v1 hx hm=>QbU 6 Qa.toD q5 0 v1 (es:=Qa.toDs q5) (d:=(Qa.ex v1)) (Qa.toDs_eq _) hx (Qa.toD_eq v1) rfl (Qh 1 (bi10 hm fun v2 v3 v4 v5 v6 v7 v8 v9 v10 v11 hx hm=>QbN (n:=8) (YO _ _ hx) (re 6 (Qg (ge 2 (rix hm (fun hm=>ge 4 (Qk zf)) (fun hm=>Qi (gr 6 (bi2 hm fun v12 v13 hx hm=>cp (QeW hx) (re 6 (Qg (X0 (Qh 7 (bi hm fun v14 hx hm=>cp (QdP hx) (Qh 3 (bi hm fun v15 hx hm=>cp (QdP hx) (re 5 ⟨kr,Qk zf⟩))))))))))))))) (hi:=und_hi 0) (hq:=und_hq 0)))))
 ·intro Q3 Qw Qad YO x r hm
  unfold Xs
  obtain ⟨q0,q1,q2,q3,q4,q5,q6,q7,q8,q9⟩:=x
  refine PCX_sxB (fn:=f24) rfl ?_
  exact ge 3 (Qg (gr 2 (QcI Qa.toD q5 (es:=Qa.toDs q5) (Qa.toDs_eq _) (re 1 (riq hm (fun hm=>gr 2 (bi5 hm fun v1 v2 v3 v4 v5 hx hm=>QbN (n:=8) (Qdg hx) (re 4 (Qk zf)) (hi:=und_hi 0) (hq:=und_hq 0))) (fun hm=>Qi (gr 5 (QcI Qa.toD q5 (es:=Qa.toDs q5) (Qa.toDs_eq _) (Qh 1 (bi hm fun v6 hx hm=>QbU 6 Qa.toD q5 (W ((q5.length:Int) - 1)) v6 (es:=Qa.toDs q5) (d:=(Qa.ex v6)) (Qa.toDs_eq _) hx (Qa.toD_eq v6) rfl (Qh 1 (bi10 hm fun v7 v8 v9 v10 v11 v12 v13 v14 v15 v16 hx hm=>QbN (n:=8) (YO _ _ hx) (re 6 (Qg (ge 2 (rix hm (fun hm=>ge 4 (Qk zf)) (fun hm=>Qi (Qg (ge 3 (riq hm (fun hm=>gr 2 (bi2 hm fun v17 v18 hx hm=>cp (QfN hx) (re 4 (Qk zf)))) (fun hm=>Qi (Qg (X0 (bi hm fun _ hx hm=>Jk (v:=.mapv 10) (fun H=>H++[(.map [(.bool true,(.dat (.raw (.func (.func 77) #[] #[])))),(.bool false,(.dat (.raw (.func (.func 78) #[] #[]))))])]) rfl kr (by intro K hK; exact QgR 10 (f:=48) (first:=#[]) (cap:=#[]) (j:=(0,3)) (ow':=[]) rfl kr kr kr (Qek hx) kr hK kr) (Qh 3 (gsq 45 hm (fun hm=>Qh 1 (Qh 3 (bi6 hm fun v19 v20 v21 v22 v23 v24 hx hm=>QbN (n:=8) (Qad _ _ hx) (re 4 ⟨kr,Qk zf⟩) (hi:=und_hi 0) (hq:=und_hq 0)))) (fun hm=>Qh 1 (Qh 3 (bi9 hm fun v25 v26 v27 v28 v29 v30 v31 v32 v33 hx hm=>QbN (n:=8) (Qcl hx) (re 4 ⟨kr,Qk zf⟩) (hi:=und_hi 0) (hq:=und_hq 0)))))))))))))))))) (hi:=und_hi 0) (hq:=und_hq 0)))))))))))))
theorem Qad:∀ x r,Q3 x=some r→YP x r:=g_elab_maker_catenate_f318e.1
theorem YO:∀ x r,Qw x=some r→Xs x r:=g_elab_maker_catenate_f318e.2
def YW (x:(Int × Int × Int × ByteArray × (List Int) × (List Qa) × (List (ByteArray × Int)) × (List Qb) × (List Qb))):Option ((Int × (List Int) × Int × (List Int) × Int × Int × (List Int) × (List Qc) × (List Ql) × Int)) :=
 match x with
 | (q0,q1,q2,q3,q4,q5,q6,q7,q8) =>
 Qw (q0,q1,q2,q3,q4,q5,q6,q7,q8,([]:List Ql))>>=fun (v1,v2,v3,v4,v5,v6,v7,v8,v9,v10) =>
 if v10≠0 then
  some (0,([]:List Int),0,([]:List Int),0,0,([]:List Int),([]:List Qc),([]:List Ql),v10)
 else
 some (v2,v3,v4,v5,v6,v7,v8,v9,v1,0)
theorem QcO {q0 q1 q2 q3 q4 q5 q6 q7 q8 v5001 v5002 v5003 v5004 v5005 v5006 v5007 v5008 v5009 v5010} (hm:YW (q0,q1,q2,q3,q4,q5,q6,q7,q8)=some (v5001,v5002,v5003,v5004,v5005,v5006,v5007,v5008,v5009,v5010)):PCX prog env 11 [(.ptr 4 0),(QbW q0 q1 q2 q3 q4 q5)] (QaS q6 q7.length q7 q8) (.tup [(Qfh v5001 v5002 v5003 v5004 v5005 v5006 v5007 v5008 v5009),(Qe v5010)]) (QaS q6 q7.length q7 q8):=by
 unfold YW at hm
 exact PCX_sxB (fn:=f11) rfl (ge 3 (ge 4 (gr 2 (bi10 hm fun v1 v2 v3 v4 v5 v6 v7 v8 v9 v10 hx hm=>QbN (n:=8) (YO _ _ hx) (re 6 (Qg (ge 2 (rix hm (fun hm=>ge 4 (Qk zf)) (fun hm=>Qi (Qg (X0 (re 8 ⟨kr,Qk zf⟩)))))))) (hi:=und_hi 0) (hq:=und_hq 0)))))
def Xn (x:((List Qb) × ByteArray × Int)):Option (((List Int) × (List Int)) ⊕ Unit) :=
 match x with
 | (p0,p1,v201) =>
 if v201 < (p0.length:Int) then
  idx p0 v201>>=fun v603 =>
  if v603.name=p1 then
   idx p0 v201>>=fun v604 =>
   some (Sum.inl (v604.value.shape,v604.value.data))
  else
  Xn (p0,p1,(W (v201+1)))
 else
 some (Sum.inr ())
 partial_fixpoint
theorem Qcz:∀ x r,Xn x=some r→match x with|(p0,p1,v201)=>LQ f79 79 [1,0,1,0,0] 1 ⟨kp 26 [(0,(YG p0)),(1,(.dat (strD p1))),(4,(.ptr 0 0)),(6,(Qe v201))],[(.box [Ea,Ea])]⟩ (P2 .ret (fun (v601,v602) d=>⟨sl d 26 [(4,(.ptr 0 0)),(5,(Qo true))],[(Qak v601 v602)]⟩) (.exit 0) (fun _ d=>⟨sl d 26 [(4,(.ptr 0 0))],[(.box [Ea,Ea])]⟩) r):=by
 refine Xn.partial_correctness _ (fun Xn Qcz x r hm=>?_)
 obtain ⟨p0,p1,v201⟩:=x
 exact lp (Qg (gr 2 (QZ Qb.toD p0 (re 1 (ri hm (fun hm=>Qi (Qg (Qp (gr 2 (Zj 3 Qb.toD hm fun v603 hm=>Qh 3 (QT rfl (fun _=>QaO (a:=v603.name) (b:=p1) rfl kr kr) (Y9 (ri hm (fun hm=>gr 2 (Zj 3 Qb.toD hm fun v604 hm=>re 4 (Qk zf))) (fun hm=>Qi (R_G (re 3 (Qcz _ _ hm _ kr)))))))))))) (fun hm=>QO zf))))))
def YK (x:((List Qb) × ByteArray)):Option (Qq × Bool) :=
 match x with
 | (p0,p1) =>
 (
 Xn (p0,p1,0)>>=fun out =>
 match out with
 | .inl (v601,v602) =>
  some ((⟨v601,v602⟩:Qq),true)
 | .inr (_) =>
  some ((⟨([]:(List Int)),([]:(List Int))⟩:Qq),false)
 )
theorem QeS {p0 p1 r0 r1} (hm:YK (p0,p1)=some (r0,r1)):FQ 79 [(.lst ((List.map Qb.toD) p0)),(strD p1)] (.tup [(.dat (Qq.toD r0)),(Qo r1)]):=by
 unfold YK at hm
 exact fp (fn:=f79) rfl (ge 2 (Qg (ge 1 (Qp (ru2 hm (Qcz _) (fun ⟨v601,v602⟩ d hm=>zf) fun _ d hm=>ge 3 (Qk zf))))))
def ZN (x:((List Qm) × Qm × Int × Int)):Option (Int) :=
 match x with
 | (p0,p1,v201,v202) =>
 if v202 < (p0.length:Int) then
  (if p1.name≠ByteArray.empty then
   idx p0 v202>>=fun v603 =>
   some (decide (v603.name=p1.name))
  else
  some false
  )>>=fun (v602:Bool) =>
  if v602=true then
   ZN (p0,p1,v202,(W (v202+1)))
  else
  ZN (p0,p1,v201,(W (v202+1)))
 else
 some v201
 partial_fixpoint
theorem Qbd:∀ x r,ZN x=some r→match x with|(p0,p1,v201,v202)=>LQ f80 80 [1,1,0,1,0,0] 2 ⟨kp 46 [(0,(X7 p0)),(3,(.ptr 0 0)),(4,(.ptr 1 0)),(6,(Qe v201)),(7,(Qe v202))],[(Qal p1.name p1.value.shape p1.value.data),YU]⟩ (P1 (.exit 0) (fun v601 d=>⟨sl d 46 [(0,(X7 p0)),(3,(.ptr 0 0)),(4,(.ptr 1 0)),(6,(Qe v601))],[(Qal p1.name p1.value.shape p1.value.data),YU]⟩) r):=by
 refine ZN.partial_correctness _ (fun ZN Qbd x r hm=>?_)
 obtain ⟨p0,p1,v201,v202⟩:=x
 exact lp (Qg (gr 2 (QZ Qm.toD p0 (re 1 (ri hm (fun hm=>Qi (Qg (Qp (Qg (bi hm fun v602 hs hm=>Ze (fun d=>⟨sl d 46 [(0,(X7 p0)),(3,(.ptr 0 0)),(4,(.ptr 1 0)),(6,(Qe v201)),(7,(Qe v202)),(28,(Qo v602))],[(Qal p1.name p1.value.shape p1.value.data),YU]⟩) (have hm:=hs;X0 (Qh 2 (QT rfl (fun _=>QeY (a:=p1.name) (b:=ByteArray.empty) rfl kr kr) (Qh 1 (gs 19 hm (fun hm=>Qh 2 (Zj 3 Qm.toD hm fun v603 hm=>Qh 4 (QT rfl (fun _=>QaO (a:=v603.name) (b:=p1.name) rfl kr kr) (re 1 ⟨kr,zf⟩)))) (fun hm=>re 9 ⟨kr,zf⟩)))))) (fun d=>rib hm (fun hm=>R_G (re 2 (R_G (re 3 (Qbd _ _ hm _ kr))))) (fun hm=>Qi (R_G (re 3 (Qbd _ _ hm _ kr)))))))))) (fun hm=>QO zf))))))
def Jc (x:((List Qm) × Qm)):Option (Qf × (List Qm)) :=
 match x with
 | (p0,p1) =>
 ZN (p0,p1,(p0.length:Int),0)>>=fun v601 =>
 if v601=(p0.length:Int) then
  app 64 ([]:List Qm) p0>>=fun v604 =>
  app 64 v604 ([p1]:List Qm)>>=fun v605 =>
  some ((⟨1,p1.value.shape,v601,([]:(List Int)),0,0,([]:(List Int)),([]:(List Qf))⟩:Qf),v605)
 else
 some ((⟨1,p1.value.shape,v601,([]:(List Int)),0,0,([]:(List Int)),([]:(List Qf))⟩:Qf),p0)
theorem QeI {p0 p1 r0 r1} (hm:Jc (p0,p1)=some (r0,r1)):FQ 80 [(.lst ((List.map Qm.toD) p0)),(Qm.toD p1)] (.tup [(.dat (Qf.ex r0)),(X7 r1)]):=by
 unfold Jc at hm
 exact fp (fn:=f80) rfl (ge 3 (gr 1 (QZ Qm.toD p0 (re 1 (Qg (ge 1 (Qp (ru1 hm (Qbd _) fun v601 d hm=>Qg (gr 2 (QZ Qm.toD p0 (re 1 (riq hm (fun hm=>X0 (Qh 2 (bi hm fun v604 hx hm=>Xk 86 3 64 2 Qm.toD ([]:List Qm) p0 v604 (xs:=(List.map Qm.toD) ([]:List Qm)) (es:=(List.map Qm.toD) p0) (L:=(List.map Qm.toD)) (fun _=>rfl) rfl rfl Qm.fit hx (Qh 2 (bi hm fun v605 hx hm=>Xk 86 3 64 2 Qm.toD v604 ([p1]:List Qm) v605 (xs:=(List.map Qm.toD) v604) (es:=(List.map Qm.toD) ([p1]:List Qm)) (L:=(List.map Qm.toD)) (fun _=>rfl) rfl rfl Qm.fit hx (re 1 ⟨kr,ge 8 (Qk zf)⟩)))))) (fun hm=>Qi (ge 8 (Qk zf)))))))))))))))
def YD (x:((List Qb) × (List Qm) × Qa)):Option (Qf × (List Qm) × Int) :=
 match x with
 | (p0,p1,p2) =>
 if p2.kind=2 then
  YK (p0,p2.name)>>=fun (v1,v2) =>
  if v2=false then
   some ((⟨0,([]:(List Int)),0,([]:(List Int)),0,0,([]:(List Int)),([]:(List Qf))⟩:Qf),([]:(List Qm)),2)
  else
  Jc (p1,(⟨p2.name,(⟨v1.shape,v1.data⟩:Qq)⟩:Qm))>>=fun (v3,v4) =>
  some (v3,v4,0)
 else
 (if (p2.nums.length:Int)≠1 then
  some ([(p2.nums.length:Int)]:List Int)
 else
 some ([]:List Int)
 )>>=fun (v5:(List Int)) =>
 if (p2.nums.length:Int) > 65536 then
  some ((⟨0,([]:(List Int)),0,([]:(List Int)),0,0,([]:(List Int)),([]:(List Qf))⟩:Qf),([]:(List Qm)),7)
 else
 Jc (p1,(⟨p2.name,(⟨v5,p2.nums⟩:Qq)⟩:Qm))>>=fun (v6,v7) =>
 some (v6,v7,0)
theorem QfW {p0 p1 p2 r0 r1 r2} (hm:YD (p0,p1,p2)=some (r0,r1,r2)):FQ 49 [(.lst ((List.map Qb.toD) p0)),(.lst ((List.map Qm.toD) p1)),(Qa.ex p2)] (.tup [(.dat (Qf.ex r0)),(X7 r1),(Qe r2)]):=by
 unfold YD at hm
 exact fp (fn:=f49) rfl (ge 4 (ge 5 (Qg (ge 3 (riq hm (fun hm=>gr 3 (bi2 hm fun v1 v2 hx hm=>cp (QeS hx) (re 6 (Qg (ge 2 (rin hm (fun hm=>ge 4 (Qk zf)) (fun hm=>Qi (R_G (re 3 (gr 2 (bi2 hm fun v3 v4 hx hm=>cp (QeI hx) (re 6 (ge 5 (Qk zf)))))))))))))) (fun hm=>ge 5 (Qg (gr 2 (QZ Qj p2.nums (re 1 (bi hm fun v5 hs hm=>Ze (fun d=>⟨sl d 59 [(1,(X7 p1)),(5,(.ptr 0 0)),(6,(.ptr 1 0)),(9,(.ptr 2 0))],[(Q0 p2.kind p2.fn p2.axis p2.name p2.nums p2.kids),YU,(Qal p2.name v5 p2.nums)]⟩) (have hm:=hs;rix hm (fun hm=>R_G (Qh 2 (QZ Qj p2.nums (re 4 zf)))) (fun hm=>Qi zf)) (fun d=>gr 2 (QZ Qj p2.nums (re 1 (ri hm (fun hm=>ge 4 (Qk zf)) (fun hm=>Qi (gr 2 (bi2 hm fun v6 v7 hx hm=>cp (QeI hx) (re 6 (ge 5 (Qk zf)))))))))))))))))))))
def YY (x:((List Qb) × Qa)):Option (Q7 × Int) :=
 match x with
 | (p0,p1) =>
 if p1.kind=1 then
  some ((⟨p1.nums,((p1.nums.length:Int) == 1)⟩:Q7),0)
 else
 YK (p0,p1.name)>>=fun (v1,v2) =>
 if v2=false then
  some ((⟨([]:(List Int)),false⟩:Q7),2)
 else
 if (v1.shape.length:Int) > 1 then
  some ((⟨([]:(List Int)),false⟩:Q7),4)
 else
 some ((⟨v1.data,((v1.shape.length:Int) == 0)⟩:Q7),0)
theorem QfT {p0 p1 r0 r1} (hm:YY (p0,p1)=some (r0,r1)):FQ 81 [(.lst ((List.map Qb.toD) p0)),(Qa.ex p1)] (.tup [(.dat (Q7.toD r0)),(Qe r1)]):=by
 unfold YY at hm
 exact fp (fn:=f81) rfl (ge 3 (Qg (ge 3 (riq hm (fun hm=>gr 4 (QZ Qj p1.nums (re 4 (Qk zf)))) (fun hm=>Qi (gr 3 (bi2 hm fun v1 v2 hx hm=>cp (QeS hx) (re 6 (Qg (ge 2 (rin hm (fun hm=>ge 3 (Qk zf)) (fun hm=>Qi (Qg (gr 2 (QZ Qj v1.shape (re 1 (ri hm (fun hm=>ge 3 (Qk zf)) (fun hm=>Qi (gr 4 (QZ Qj v1.shape (re 4 (Qk zf))))))))))))))))))))))
def Y7 (x:(Int × (List Int) × Int)):Option ((List Int)) :=
 match x with
 | (p1,v201,v202) =>
 if v202 < p1 then
  app 8 v201 ([1]:List Int)>>=fun v602 =>
  Y7 (p1,v602,(W (v202+1)))
 else
 some v201
 partial_fixpoint
theorem Qcd:∀ x r,Y7 x=some r→match x with|(p1,v201,v202)=>LQ f117 117 [1,1,1,0,1,0,0] 1 ⟨kp 20 [(1,(Qe p1)),(5,(Qcq v201)),(6,(Qe v202))],[(.tok 3 v201.length)]⟩ (P1 (.exit 0) (fun v601 d=>⟨sl d 20 [(5,(Qcq v601))],[(.tok 3 v601.length)]⟩) r):=by
 refine Y7.partial_correctness _ (fun Y7 Qcd x r hm=>?_)
 obtain ⟨p1,v201,v202⟩:=x
 exact lp (Qg (ge 3 (ri hm (fun hm=>Qi (Qg (Qp (R_G (Qh 2 (bi hm fun v602 hx hm=>Xk 3 1 8 0 Qj v201 ([1]:List Int) v602 (xs:=(List.map Qj) v201) (es:=(List.map Qj) ([1]:List Int)) (L:=(List.map Qj)) (fun _=>rfl) rfl rfl (fun _=>rfl) hx (re 1 (R_G (re 3 (Qcd _ _ hm _ kr)))))))))) (fun hm=>QO zf))))
def QaG (x:((List Int) × Int)):Option (List Int) :=
 match x with
 | (p0,p1) =>
 if (p0.length:Int) > 0 then
  some p0
 else
 Y7 (p1,([]:List Int),0)>>=fun v601 =>
 some v601
theorem QeH {p0 p1 r0} (hm:QaG (p0,p1)=some r0):FQ 117 [(Lb p0),(Qj p1)] (La r0):=by
 unfold QaG at hm
 exact fp (fn:=f117) rfl (ge 1 (Qg (gr 1 (QZ Qj p0 (re 1 (ri hm (fun hm=>ge 2 (Qk zf)) (fun hm=>Qi (ge 1 (Qg (ge 1 (Qp (ru1 hm (Qcd _) fun v601 d hm=>ge 2 (Qk zf)))))))))))))
def X9 (x:Int):Option (Int × Int) :=
 match x with
 | p0 =>
 (if p0 > 65536 then
  some true
 else
 some (decide (p0 < (-65536)))
 )>>=fun (v1:Bool) =>
 if v1=true then
  some (0,7)
 else
 if p0 < 0 then
  some ((W (0 - p0)),0)
 else
 some (p0,0)
theorem QeD {p0 r0 r1} (hm:X9 p0=some (r0,r1)):FQ 118 [(Qj p0)] (.tup [(Qe r0),(Qe r1)]):=by
 unfold X9 at hm
 exact fp (fn:=f118) rfl (ge 2 (Qg (Qg (bi hm fun v1 hs hm=>Ze (fun d=>⟨sl d 15 [(0,(Qe p0)),(9,(Qo v1))],[]⟩) (have hm:=hs;R_G (Qh 3 (gs 6 hm (fun hm=>re 3 zf) (fun hm=>re 3 zf)))) (fun d=>rib hm (fun hm=>ge 2 (Qk zf)) (fun hm=>Qi (Qg (ge 2 (ri hm (fun hm=>ge 4 (Qk zf)) (fun hm=>Qi (ge 3 (Qk zf))))))))))))
def YC (x:((List Int) × (List Int) × (List Int) × (List Int) × Int)):Option (((List Int) × (List Int)) ⊕ ((List Int) × (List Int))) :=
 match x with
 | (p0,v2,v203,v204,v205) =>
 if v205 < (p0.length:Int) then
  idx p0 v205>>=fun v607 =>
  X9 v607>>=fun (v608,v609) =>
  if v609≠0 then
   some (Sum.inl (v203,v204))
  else
  app 8 v203 ([v608]:List Int)>>=fun v610 =>
  idx p0 v205>>=fun v611 =>
  (if v611 < 0 then
   idx v2 v205>>=fun v613 =>
   some (W (v613 - v608))
  else
  some 0
  )>>=fun (v612:Int) =>
  app 8 v204 ([v612]:List Int)>>=fun v614 =>
  YC (p0,v2,v610,v614,(W (v205+1)))
 else
 some (Sum.inr (v203,v204))
 partial_fixpoint
theorem Qcc:∀ x r,YC x=some r→match x with|(p0,v2,v203,v204,v205)=>LQ f82 82 [1,1,1,1,0,1,0,0] 6 ⟨kp 79 [(0,(La p0)),(4,(.ptr 0 0)),(6,(.ptr 3 0)),(7,(Qe v205))],(QbV v203.length v204.length v2 v203 v204)⟩ (P2 .ret (fun (v603,v604) d=>⟨sl d 79 [(4,(.ptr 0 0)),(5,(Qe 7))],(QbV v603.length v604.length v2 v603 v604)⟩) (.exit 0) (fun (v605,v606) d=>⟨sl d 79 [(4,(.ptr 0 0)),(6,(.ptr 3 0))],(QbV v605.length v606.length v2 v605 v606)⟩) r):=by
 refine YC.partial_correctness _ (fun YC Qcc x r hm=>?_)
 obtain ⟨p0,v2,v203,v204,v205⟩:=x
 exact lp (Qg (gr 2 (QZ Qj p0 (re 1 (ri hm (fun hm=>Qi (Qg (Qp (gr 2 (Zj 1 Qj hm fun v607 hm=>Qh 1 (bi2 hm fun v608 v609 hx hm=>cp (QeD hx) (re 5 (Qg (ge 2 (rix hm (fun hm=>ge 3 (Qk zf)) (fun hm=>Qi (gr 4 (bi hm fun v610 hx hm=>Xk 3 1 8 1 Qj v203 ([v608]:List Int) v610 (xs:=(List.map Qj) v203) (es:=(List.map Qj) ([v608]:List Int)) (L:=(List.map Qj)) (fun _=>rfl) rfl rfl (fun _=>rfl) hx (re 2 (ge 1 (Qg (gr 2 (Zj 1 Qj hm fun v611 hm=>re 2 (bi hm fun v612 hs hm=>Ze (fun d=>⟨sl d 79 [(0,(La p0)),(4,(.ptr 0 0)),(6,(.ptr 3 0)),(7,(Qe v205)),(10,(Qe v612))],(QbV v610.length v204.length v2 v610 v204)⟩) (have hm:=hs;ri hm (fun hm=>R_G (Qh 3 (Zj 1 Qj hm fun v613 hm=>re 4 zf))) (fun hm=>Qi zf)) (fun d=>R_G (Qh 4 (bi hm fun v614 hx hm=>Xk 3 1 8 2 Qj v204 ([v612]:List Int) v614 (xs:=(List.map Qj) v204) (es:=(List.map Qj) ([v612]:List Int)) (L:=(List.map Qj)) (fun _=>rfl) rfl rfl (fun _=>rfl) hx (re 2 (R_G (re 3 (Qcc _ _ hm _ kr)))))))))))))))))))))))))) (fun hm=>QO zf))))))
def QaF (x:((List Int) × (List Int))):Option (Qx × Int) :=
 match x with
 | (p0,p1) =>
 (if (p1.length:Int)=0 then
  some (decide ((p0.length:Int) > 16))
 else
 some false
 )>>=fun (v1:Bool) =>
 if v1=true then
  some ((⟨([]:(List Int)),([]:(List Int)),([]:(List Int)),([]:(List Int)),0,0,([]:(List Int))⟩:Qx),7)
 else
 QaG (p1,(p0.length:Int))>>=fun v2 =>
 if (p0.length:Int)≠(v2.length:Int) then
  some ((⟨([]:(List Int)),([]:(List Int)),([]:(List Int)),([]:(List Int)),0,0,([]:(List Int))⟩:Qx),5)
 else
 (
 YC (p0,v2,([]:List Int),([]:List Int),0)>>=fun out =>
 match out with
 | .inl (v603,v604) =>
  some ((⟨([]:(List Int)),([]:(List Int)),([]:(List Int)),([]:(List Int)),0,0,([]:(List Int))⟩:Qx),7)
 | .inr ((v605,v606)) =>
  YR v605>>=fun v615 =>
  if v615≠0 then
   some ((⟨([]:(List Int)),([]:(List Int)),([]:(List Int)),([]:(List Int)),0,0,([]:(List Int))⟩:Qx),7)
  else
  some ((⟨([]:(List Int)),v2,v605,v606,(-1),0,([]:(List Int))⟩:Qx),0)
 )
theorem QeG {p0 p1 r0 r1} (hm:QaF (p0,p1)=some (r0,r1)):FQ 82 [(Lb p0),(Lb p1)] (.tup [(.dat (Qx.toD r0)),(Qe r1)]):=by
 unfold QaF at hm
 exact fp (fn:=f82) rfl (ge 2 (Qg (Qg (bi hm fun v1 hs hm=>Ze (fun d=>⟨sl d 79 [(0,(La p0)),(1,(La p1)),(4,(.ptr 0 0)),(18,(Qo v1))],[Qv]⟩) (have hm:=hs;R_G (Qh 1 (QZ Qj p1 (Qh 2 (gsq 14 hm (fun hm=>Qh 1 (QZ Qj p0 (re 2 zf))) (fun hm=>re 4 zf)))))) (fun d=>rib hm (fun hm=>ge 3 (Qk zf)) (fun hm=>Qi (gr 2 (QZ Qj p0 (bi hm fun v2 hx hm=>cp (QeH hx) (re 3 (Qg (gr 1 (QZ Qj p0 (Qh 2 (QZ Qj v2 (re 1 (rix hm (fun hm=>ge 3 (Qk zf)) (fun hm=>Qi (Qg (ge 1 (Qp (ru2 hm (Qcc _) (fun ⟨v603,v604⟩ d hm=>zf) fun ⟨v605,v606⟩ d hm=>Qg (gr 2 (bi hm fun v615 hx hm=>cp (Qa1 hx) (re 1 (rix hm (fun hm=>ge 3 (Qk zf)) (fun hm=>Qi (ge 3 (Qk zf)))))))))))))))))))))))))))))
def ZY (x:((List Int) × (List Int) × (List Int) × (List Int) × Int)):Option (((List Int) × (List Int))) :=
 match x with
 | (v2,p0,v203,v204,v205) =>
 if v205 < (v2.length:Int) then
  idx v2 v205>>=fun v605 =>
  (if v205 < (p0.length:Int) then
   idx p0 v205>>=fun v607 =>
   some (decide (v607 > 0))
  else
  some false
  )>>=fun (v606:Bool) =>
  if v606=true then
   idx p0 v205>>=fun v608 =>
   app 8 v203 ([(W (v605 - (if v605 < v608 then v605 else v608)))]:List Int)>>=fun v609 =>
   app 8 v204 ([(if v605 < v608 then v605 else v608)]:List Int)>>=fun v610 =>
   ZY (v2,p0,v609,v610,(W (v205+1)))
  else
  (if v205 < (p0.length:Int) then
   idx p0 v205>>=fun v612 =>
   some (if v612 < (W (0 - v605)) then (W (0 - v605)) else v612)
  else
  some 0
  )>>=fun (v611:Int) =>
  app 8 v203 ([(W (v605+v611))]:List Int)>>=fun v613 =>
  app 8 v204 ([0]:List Int)>>=fun v614 =>
  ZY (v2,p0,v613,v614,(W (v205+1)))
 else
 some (v203,v204)
 partial_fixpoint
theorem Qbb:∀ x r,ZY x=some r→match x with|(v2,p0,v203,v204,v205)=>LQ f83 83 [1,1,1,1,0,1,0,0] 6 ⟨kp 99 [(0,(La p0)),(4,(.ptr 0 0)),(6,(.ptr 3 0)),(7,(Qe v205))],(QbV v203.length v204.length v2 v203 v204)⟩ (P1 (.exit 0) (fun (v603,v604) d=>⟨sl d 99 [(4,(.ptr 0 0)),(6,(.ptr 3 0))],(QbV v603.length v604.length v2 v603 v604)⟩) r):=by
 refine ZY.partial_correctness _ (fun ZY Qbb x r hm=>?_)
 obtain ⟨v2,p0,v203,v204,v205⟩:=x
 exact lp (Qg (gr 3 (QZ Qj v2 (re 1 (ri hm (fun hm=>Qi (Qg (Qp (gr 3 (Zj 1 Qj hm fun v605 hm=>re 2 (ge 1 (Qg (Qg (bi hm fun v606 hs hm=>Ze (fun d=>⟨sl d 99 [(0,(La p0)),(4,(.ptr 0 0)),(6,(.ptr 3 0)),(7,(Qe v205)),(8,(Qe v605)),(9,(Qe 0)),(53,(Qo v606))],(QbV v203.length v204.length v2 v203 v204)⟩) (have hm:=hs;R_G (Qh 2 (QZ Qj p0 (Qh 2 (gs 47 hm (fun hm=>Qh 2 (Zj 1 Qj hm fun v607 hm=>re 3 zf)) (fun hm=>re 6 zf)))))) (fun d=>rib hm (fun hm=>gr 2 (Zj 1 Qj hm fun v608 hm=>Qh 2 (QT rfl (fun _=>Qg4 (k:=.i64) (m:=v608) (n:=v605) rfl kr kr) (re 1 (gr 6 (bi hm fun v609 hx hm=>Xk 3 1 8 1 Qj v203 ([(W (v605 - (if v605 < v608 then v605 else v608)))]:List Int) v609 (xs:=(List.map Qj) v203) (es:=(List.map Qj) ([(W (v605 - (if v605 < v608 then v605 else v608)))]:List Int)) (L:=(List.map Qj)) (fun _=>rfl) rfl rfl (fun _=>rfl) hx (re 2 (gr 4 (bi hm fun v610 hx hm=>Xk 3 1 8 2 Qj v204 ([(if v605 < v608 then v605 else v608)]:List Int) v610 (xs:=(List.map Qj) v204) (es:=(List.map Qj) ([(if v605 < v608 then v605 else v608)]:List Int)) (L:=(List.map Qj)) (fun _=>rfl) rfl rfl (fun _=>rfl) hx (re 2 (QO (R_G (re 3 (Qbb _ _ hm _ kr)))))))))))))) (fun hm=>Qi (Qg (gr 2 (QZ Qj p0 (re 1 (bi hm fun v611 hs hm=>Ze (fun d=>⟨sl d 99 [(0,(La p0)),(4,(.ptr 0 0)),(6,(.ptr 3 0)),(7,(Qe v205)),(8,(Qe v605)),(9,(Qe v611))],(QbV v203.length v204.length v2 v203 v204)⟩) (have hm:=hs;ri hm (fun hm=>R_G (Qh 2 (Zj 1 Qj hm fun v612 hm=>Qh 3 (QT rfl (fun _=>Qf5 (k:=.i64) (m:=v612) (n:=(W (0 - v605))) rfl kr kr) (re 1 zf))))) (fun hm=>Qi zf)) (fun d=>gr 6 (bi hm fun v613 hx hm=>Xk 3 1 8 1 Qj v203 ([(W (v605+v611))]:List Int) v613 (xs:=(List.map Qj) v203) (es:=(List.map Qj) ([(W (v605+v611))]:List Int)) (L:=(List.map Qj)) (fun _=>rfl) rfl rfl (fun _=>rfl) hx (re 2 (R_G (Qh 3 (bi hm fun v614 hx hm=>Xk 3 1 8 2 Qj v204 ([0]:List Int) v614 (xs:=(List.map Qj) v204) (es:=(List.map Qj) ([0]:List Int)) (L:=(List.map Qj)) (fun _=>rfl) rfl rfl (fun _=>rfl) hx (re 2 (R_G (re 3 (Qbb _ _ hm _ kr)))))))))))))))))))))))))) (fun hm=>QO zf))))))
def QaD (x:((List Int) × (List Int))):Option (Qx × Int) :=
 match x with
 | (p0,p1) =>
 (if (p1.length:Int)=0 then
  some (decide ((p0.length:Int) > 16))
 else
 some false
 )>>=fun (v1:Bool) =>
 if v1=true then
  some ((⟨([]:(List Int)),([]:(List Int)),([]:(List Int)),([]:(List Int)),0,0,([]:(List Int))⟩:Qx),7)
 else
 QaG (p1,(p0.length:Int))>>=fun v2 =>
 if (p0.length:Int) > (v2.length:Int) then
  some ((⟨([]:(List Int)),([]:(List Int)),([]:(List Int)),([]:(List Int)),0,0,([]:(List Int))⟩:Qx),5)
 else
 ZY (v2,p0,([]:List Int),([]:List Int),0)>>=fun (v603,v604) =>
 some ((⟨([]:(List Int)),v2,v603,v604,(-1),0,([]:(List Int))⟩:Qx),0)
theorem QeE {p0 p1 r0 r1} (hm:QaD (p0,p1)=some (r0,r1)):FQ 83 [(Lb p0),(Lb p1)] (.tup [(.dat (Qx.toD r0)),(Qe r1)]):=by
 unfold QaD at hm
 exact fp (fn:=f83) rfl (ge 2 (Qg (Qg (bi hm fun v1 hs hm=>Ze (fun d=>⟨sl d 99 [(0,(La p0)),(1,(La p1)),(4,(.ptr 0 0)),(17,(Qo v1))],[Qv]⟩) (have hm:=hs;R_G (Qh 1 (QZ Qj p1 (Qh 2 (gsq 13 hm (fun hm=>Qh 1 (QZ Qj p0 (re 2 zf))) (fun hm=>re 4 zf)))))) (fun d=>rib hm (fun hm=>ge 3 (Qk zf)) (fun hm=>Qi (gr 2 (QZ Qj p0 (bi hm fun v2 hx hm=>cp (QeH hx) (re 3 (Qg (gr 1 (QZ Qj p0 (Qh 2 (QZ Qj v2 (re 1 (ri hm (fun hm=>ge 3 (Qk zf)) (fun hm=>Qi (Qg (ge 1 (Qp (ru1 hm (Qbb _) fun ⟨v603,v604⟩ d hm=>ge 3 (Qk zf)))))))))))))))))))))))
def XE (x:(Int × (List Int))):Option (Qx × Int) :=
 match x with
 | (p0,p1) =>
 if p0≥(p1.length:Int) then
  some ((⟨([]:(List Int)),([]:(List Int)),([]:(List Int)),([]:(List Int)),0,0,([]:(List Int))⟩:Qx),4)
 else
 (if p0 < 0 then
  some (W ((p1.length:Int) - 1))
 else
 some p0
 )>>=fun (v1:Int) =>
 some ((⟨([]:(List Int)),p1,p1,([]:(List Int)),v1,0,([]:(List Int))⟩:Qx),0)
theorem Qcb {p0 p1 r0 r1} (hm:XE (p0,p1)=some (r0,r1)):FQ 84 [(Qj p0),(Lb p1)] (.tup [(.dat (Qx.toD r0)),(Qe r1)]):=by
 unfold XE at hm
 exact fp (fn:=f84) rfl (ge 2 (Qg (gr 2 (QZ Qj p1 (re 1 (ri hm (fun hm=>ge 3 (Qk zf)) (fun hm=>Qi (Qg (ge 2 (bi hm fun v1 hs hm=>Ze (fun d=>⟨sl d 20 [(0,(Qe v1)),(1,(La p1)),(4,(.ptr 0 0))],[Qv]⟩) (have hm:=hs;ri hm (fun hm=>R_G (Qh 1 (QZ Qj p1 (re 2 zf)))) (fun hm=>Qi zf)) (fun d=>ge 6 (Qk zf))))))))))))
def Jz (x:((List Int) × Int × (List Int))):Option (Qx × Int) :=
 match x with
 | (p0,p1,p2) =>
 if (p0.length:Int)≠1 then
  some ((⟨([]:(List Int)),([]:(List Int)),([]:(List Int)),([]:(List Int)),0,0,([]:(List Int))⟩:Qx),5)
 else
 XE (p1,p2)>>=fun (v1,v2) =>
 ((if v2=0 then
  some (decide (v1.axis≥0))
 else
 some false
 )>>=fun (v4:Bool) =>
 if v4=true then
  idx p2 v1.axis>>=fun v5 =>
  some (decide (v5 > 0))
 else
 some false
 )>>=fun (v3:Bool) =>
 (if v3=true then
  idx p2 v1.axis>>=fun v7 =>
  idx p0 0>>=fun v8 =>
  remM v8 v7>>=fun v9 =>
  remM (W (v9+v7)) v7>>=fun v10 =>
  some v10
 else
 some v1.amount
 )>>=fun (v6:Int) =>
 some ((⟨v1.left,v1.right,v1.shape,v1.starts,v1.axis,v6,v1.perm⟩:Qx),v2)
theorem QdT {p0 p1 p2 r0 r1} (hm:Jz (p0,p1,p2)=some (r0,r1)):FQ 85 [(Lb p0),(Qj p1),(Lb p2)] (.tup [(.dat (Qx.toD r0)),(Qe r1)]):=by
 unfold Jz at hm
 exact fp (fn:=f85) rfl (ge 2 (Qg (gr 1 (QZ Qj p0 (re 1 (rix hm (fun hm=>ge 3 (Qk zf)) (fun hm=>Qi (gr 2 (bi2 hm fun v1 v2 hx hm=>cp (Qcb hx) (re 6 (Qg (Qg (bi hm fun v3 hs hm=>Ze (fun d=>⟨sl d 53 [(0,(La p0)),(2,(La p2)),(6,(.ptr 0 0)),(8,(.ptr 1 0)),(9,(Qe v2)),(35,(Qo v3))],[Qv,(JV v1.left v1.right v1.shape v1.starts v1.axis v1.amount v1.perm)]⟩) (have hm:=hs;Qc8 (Qh 3 (bi hm fun v4 hs hm=>Yu (j:=7) (fun d=>⟨sl d 53 [(0,(La p0)),(2,(La p2)),(6,(.ptr 0 0)),(8,(.ptr 1 0)),(9,(Qe v2)),(27,(Qo v4))],[Qv,(JV v1.left v1.right v1.shape v1.starts v1.axis v1.amount v1.perm)]⟩) (fun d=>Qh 1 (gsb 28 hm (fun hm=>Qh 3 (Zj 1 Qj hm fun v5 hm=>re 3 ⟨kr,zf⟩)) (fun hm=>re 7 ⟨kr,zf⟩))) (fun hJ=>gsq 23 hs (fun hm=>Qh 4 zf) (fun hm=>Qh 4 zf))))) (fun d=>bi hm fun v6 hs hm=>Ze (fun d=>⟨sl d 53 [(6,(.ptr 0 0)),(8,(.ptr 1 0)),(9,(Qe v2))],[Qv,(JV v1.left v1.right v1.shape v1.starts v1.axis v6 v1.perm)]⟩) (have hm:=hs;rib hm (fun hm=>gr 3 (Zj 1 Qj hm fun v7 hm=>re 2 (R_G (Qh 1 (Zj 1 Qj hm fun v8 hm=>Qh 2 (bi hm fun v9 hx hm=>QT rfl (fun _=>Qg5 (a:=v8) (b:=v7) hx rfl kr kr) (Qh 3 (bi hm fun v10 hx hm=>QT rfl (fun _=>Qg5 (a:=(W (v9+v7))) (b:=v7) hx rfl kr kr) (re 2 zf))))))))) (fun hm=>Qi zf)) (fun d=>ge 4 (Qk zf))))))))))))))))
def ZL (x:((List Int) × (List Int) × Int × (List Int) × Int × Int)):Option (Int) :=
 match x with
 | (p1,p0,v202,v201,v802,v803) =>
 if v803 < (p1.length:Int) then
  (idx p0 v803>>=fun v1204 =>
  if v1204=v202 then
   if v802 < 0 then
    some true
   else
   idx p1 v803>>=fun v1205 =>
   some (decide (v1205 < v802))
  else
  some false
  )>>=fun (v1203:Bool) =>
  if v1203=true then
   idx p1 v803>>=fun v1206 =>
   ZL (p1,p0,v202,v201,v1206,(W (v803+1)))
  else
  ZL (p1,p0,v202,v201,v802,(W (v803+1)))
 else
 some v802
 partial_fixpoint
theorem Ju:∀ x r,ZL x=some r→match x with|(p1,p0,v202,v201,v802,v803)=>LQ f119 119 [1,1,0,1,0,0,1,0,0,1,0,1,0,0] 4 ⟨kp 55 [(0,(La p0)),(1,(La p1)),(4,(.ptr 0 0)),(5,(.ptr 2 0)),(6,(Qe v202)),(7,(Qe v802)),(8,(Qe v803))],(QdL v201.length p1 v201 p0)⟩ (P1 (.exit 2) (fun v1202 d=>⟨sl d 55 [(0,(La p0)),(1,(La p1)),(4,(.ptr 0 0)),(5,(.ptr 2 0)),(6,(Qe v202)),(7,(Qe v1202))],(QdL v201.length p1 v201 p0)⟩) r):=by
 refine ZL.partial_correctness _ (fun ZL Ju x r hm=>?_)
 obtain ⟨p1,p0,v202,v201,v802,v803⟩:=x
 exact lp (Qg (gr 2 (QZ Qj p1 (re 1 (ri hm (fun hm=>Qi (Qg (Qp (Qg (bi hm fun v1203 hs hm=>Ze (fun d=>⟨sl d 55 [(0,(La p0)),(1,(La p1)),(4,(.ptr 0 0)),(5,(.ptr 2 0)),(6,(Qe v202)),(7,(Qe v802)),(8,(Qe v803)),(41,(Qo v1203))],(QdL v201.length p1 v201 p0)⟩) (have hm:=hs;R_G (Qh 2 (Zj 1 Qj hm fun v1204 hm=>Qh 4 (gsq 30 hm (fun hm=>Qh 3 (gs 33 hm (fun hm=>re 8 zf) (fun hm=>Qh 2 (Zj 1 Qj hm fun v1205 hm=>re 5 zf)))) (fun hm=>re 11 zf))))) (fun d=>rib hm (fun hm=>R_G (Qh 2 (Zj 1 Qj hm fun v1206 hm=>re 2 (R_G (re 3 (Ju _ _ hm _ kr)))))) (fun hm=>Qi (R_G (re 3 (Ju _ _ hm _ kr)))))))))) (fun hm=>QO zf))))))
def ZK (x:((List Int) × (List Int) × (List Int) × Int)):Option ((List Int)) :=
 match x with
 | (p1,p0,v201,v202) =>
 if v202 < (p1.length:Int) then
  ZL (p1,p0,v202,v201,(-1),0)>>=fun v1202 =>
  if v1202≥0 then
   app 8 v201 ([v1202]:List Int)>>=fun v1207 =>
   ZK (p1,p0,v1207,(W (v202+1)))
  else
  ZK (p1,p0,v201,(W (v202+1)))
 else
 some v201
 partial_fixpoint
theorem Jt:∀ x r,ZK x=some r→match x with|(p1,p0,v201,v202)=>LQ f119 119 [1,1,0,1,0,0] 4 ⟨kp 55 [(0,(La p0)),(1,(La p1)),(4,(.ptr 0 0)),(5,(.ptr 2 0)),(6,(Qe v202))],(QdL v201.length p1 v201 p0)⟩ (P1 (.exit 0) (fun v601 d=>⟨sl d 55 [(4,(.ptr 0 0)),(5,(.ptr 2 0))],(QdL v601.length p1 v601 p0)⟩) r):=by
 refine ZK.partial_correctness _ (fun ZK Jt x r hm=>?_)
 obtain ⟨p1,p0,v201,v202⟩:=x
 exact lp (Qg (gr 2 (QZ Qj p1 (re 1 (ri hm (fun hm=>Qi (Qg (Qp (ge 1 (Qg (ge 1 (Qp (ru1 hm (Ju _) fun v1202 d hm=>ge 2 (ri hm (fun hm=>R_G (Qh 4 (bi hm fun v1207 hx hm=>Xk 3 1 8 1 Qj v201 ([v1202]:List Int) v1207 (xs:=(List.map Qj) v201) (es:=(List.map Qj) ([v1202]:List Int)) (L:=(List.map Qj)) (fun _=>rfl) rfl rfl (fun _=>rfl) hx (re 2 (R_G (re 3 (Jt _ _ hm _ kr))))))) (fun hm=>Qi (R_G (re 3 (Jt _ _ hm _ kr))))))))))))) (fun hm=>QO zf))))))
def XP (x:((List Int) × (List Int))):Option Qx :=
 match x with
 | (p0,p1) =>
 ZK (p1,p0,([]:List Int),0)>>=fun v601 =>
 some (⟨([]:(List Int)),p1,v601,([]:(List Int)),(-1),0,p0⟩:Qx)
theorem Qdh {p0 p1 r0} (hm:XP (p0,p1)=some r0):FQ 119 [(Lb p0),(Lb p1)] (.dat (Qx.toD r0)):=by
 unfold XP at hm
 exact fp (fn:=f119) rfl (ge 1 (ge 5 (Qg (ge 1 (Qp (ru1 hm (Jt _) fun v601 d hm=>ge 2 (Qk zf)))))))
def Y6 (x:((List Int) × (List Int) × Int)):Option ((List Int)) :=
 match x with
 | (p0,v201,v202) =>
 if v202≥0 then
  app 8 v201 ([v202]:List Int)>>=fun v602 =>
  Y6 (p0,v602,(W (v202 - 1)))
 else
 some v201
 partial_fixpoint
theorem Qca:∀ x r,Y6 x=some r→match x with|(p0,v201,v202)=>LQ f86 86 [1,1,0,1,0,0] 2 ⟨kp 19 [(0,(La p0)),(2,(.ptr 0 0)),(3,(Xl v201)),(4,(Qe v202))],[Qv,(.tok 3 v201.length)]⟩ (P1 (.exit 0) (fun v601 d=>⟨sl d 19 [(0,(La p0)),(2,(.ptr 0 0)),(3,(Xl v601))],[Qv,(.tok 3 v601.length)]⟩) r):=by
 refine Y6.partial_correctness _ (fun Y6 Qca x r hm=>?_)
 obtain ⟨p0,v201,v202⟩:=x
 exact lp (Qg (ge 2 (ri hm (fun hm=>Qi (Qg (Qp (R_G (Qh 3 (bi hm fun v602 hx hm=>Xk 3 1 8 1 Qj v201 ([v202]:List Int) v602 (xs:=(List.map Qj) v201) (es:=(List.map Qj) ([v202]:List Int)) (L:=(List.map Qj)) (fun _=>rfl) rfl rfl (fun _=>rfl) hx (re 1 (R_G (re 3 (Qca _ _ hm _ kr)))))))))) (fun hm=>QO zf))))
def QaE (x:(List Int)):Option Qx :=
 match x with
 | p0 =>
 Y6 (p0,([]:List Int),(W ((p0.length:Int) - 1)))>>=fun v601 =>
 XP (v601,p0)>>=fun v603 =>
 some v603
theorem QeF {p0 r0} (hm:QaE p0=some r0):FQ 86 [(Lb p0)] (.dat (Qx.toD r0)):=by
 unfold QaE at hm
 exact fp (fn:=f86) rfl (ge 1 (ge 1 (Qg (gr 1 (QZ Qj p0 (re 2 (Qp (ru1 hm (Qca _) fun v601 d hm=>gr 2 (bi hm fun v603 hx hm=>cp (Qdh hx) (re 1 (Qk zf)))))))))))
def Zm (x:(Int × Q7 × (List Int) × Int × Int)):Option (Nat ⊕ ((List Int) × Int)) :=
 match x with
 | (p1,p0,v201,v202,v203) =>
 if v203 < p1 then
  (idx p0.values v203>>=fun v605 =>
  if v605 < 0 then
   some true
  else
  idx p0.values v203>>=fun v606 =>
  some (decide (v606≥p1))
  )>>=fun (v604:Bool) =>
  if v604=true then
   some (Sum.inl v201.length)
  else
  idx p0.values v203>>=fun v607 =>
  app 8 v201 ([v607]:List Int)>>=fun v608 =>
  idx v608 v203>>=fun v609 =>
  Zm (p1,p0,v608,(if v202 < v609 then v609 else v202),(W (v203+1)))
 else
 some (Sum.inr (v201,v202))
 partial_fixpoint
theorem JO:∀ x r,Zm x=some r→match x with|(p1,p0,v201,v202,v203)=>LQ f120 120 [1,1,1,1,0,1,0,0] 2 ⟨kp 73 [(1,(Qe p1)),(2,(.ptr 0 0)),(6,(Xl v201)),(7,(Qe v202)),(8,(Qe v203))],(YV p0.values p0.scalar v201.length)⟩ (P2 .ret (fun v601 d=>⟨sl d 73 [(4,Ea),(5,(Qe 6))],(YV p0.values p0.scalar v601)⟩) (.exit 0) (fun (v602,v603) d=>⟨sl d 73 [(1,(Qe p1)),(6,(Xl v602)),(7,(Qe v603))],(YV p0.values p0.scalar v602.length)⟩) r):=by
 refine Zm.partial_correctness _ (fun Zm JO x r hm=>?_)
 obtain ⟨p1,p0,v201,v202,v203⟩:=x
 exact lp (Qg (ge 3 (ri hm (fun hm=>Qi (Qg (Qp (Qg (Qg (bi hm fun v604 hs hm=>Ze (fun d=>⟨sl d 73 [(1,(Qe p1)),(2,(.ptr 0 0)),(6,(Xl v201)),(7,(Qe v202)),(8,(Qe v203)),(36,(Qo v604))],(YV p0.values p0.scalar v201.length)⟩) (have hm:=hs;R_G (Qh 3 (Zj 1 Qj hm fun v605 hm=>Qh 3 (gs 28 hm (fun hm=>re 8 zf) (fun hm=>Qh 3 (Zj 1 Qj hm fun v606 hm=>re 4 zf)))))) (fun d=>rib hm (fun hm=>ge 2 (Qk zf)) (fun hm=>Qi (gr 4 (Zj 1 Qj hm fun v607 hm=>Qh 2 (bi hm fun v608 hx hm=>Xk 3 1 8 1 Qj v201 ([v607]:List Int) v608 (xs:=(List.map Qj) v201) (es:=(List.map Qj) ([v607]:List Int)) (L:=(List.map Qj)) (fun _=>rfl) rfl rfl (fun _=>rfl) hx (re 1 (R_G (Qh 3 (Zj 1 Qj hm fun v609 hm=>Qh 1 (QT rfl (fun _=>Qf5 (k:=.i64) (m:=v202) (n:=v609) rfl kr kr) (re 1 (R_G (re 3 (JO _ _ hm _ kr)))))))))))))))))))) (fun hm=>QO zf))))
def Zn (x:(Int × (List Int) × Int × Int × Q7 × Bool × Int)):Option (Bool) :=
 match x with
 | (p1,v602,v810,v603,p0,v1410,v1411) =>
 if v1411 < p1 then
  if v1410=true then
   Zn (p1,v602,v810,v603,p0,true,(W (v1411+1)))
  else
  idx v602 v1411>>=fun v1811 =>
  Zn (p1,v602,v810,v603,p0,(v1811 == v810),(W (v1411+1)))
 else
 some v1410
 partial_fixpoint
theorem XM:∀ x r,Zn x=some r→match x with|(p1,v602,v810,v603,p0,v1410,v1411)=>LQ f120 120 [1,1,1,1,1,0,1,0,0,1,0,0,1,0,1,0,0] 2 ⟨kp 73 [(1,(Qe p1)),(6,(Xl v602)),(7,(Qe v603)),(9,(Qe v810)),(10,(Qo v1410)),(11,(Qe v1411))],(YV p0.values p0.scalar v602.length)⟩ (P1 (.exit 4) (fun v1810 d=>⟨sl d 73 [(1,(Qe p1)),(6,(Xl v602)),(7,(Qe v603)),(9,(Qe v810)),(10,(Qo v1810))],(YV p0.values p0.scalar v602.length)⟩) r):=by
 refine Zn.partial_correctness _ (fun Zn XM x r hm=>?_)
 obtain ⟨p1,v602,v810,v603,p0,v1410,v1411⟩:=x
 exact lp (Qg (ge 3 (ri hm (fun hm=>Qi (Qg (Qp (R_G (Qh 2 (gsb 62 hm (fun hm=>re 8 (R_G (re 3 (XM _ _ hm _ kr)))) (fun hm=>Qh 2 (Zj 1 Qj hm fun v1811 hm=>re 5 (R_G (re 3 (XM _ _ hm _ kr))))))))))) (fun hm=>QO zf))))
def ZF (x:(Int × Int × (List Int) × Q7 × Int)):Option (Unit ⊕ Unit) :=
 match x with
 | (v603,p1,v602,p0,v810) =>
 if v810≤v603 then
  Zn (p1,v602,v810,v603,p0,false,0)>>=fun v1810 =>
  if v1810=false then
   some (Sum.inl ())
  else
  ZF (v603,p1,v602,p0,(W (v810+1)))
 else
 some (Sum.inr ())
 partial_fixpoint
theorem JP:∀ x r,ZF x=some r→match x with|(v603,p1,v602,p0,v810)=>LQ f120 120 [1,1,1,1,1,0,1,0,0] 2 ⟨kp 73 [(1,(Qe p1)),(6,(Xl v602)),(7,(Qe v603)),(9,(Qe v810))],(YV p0.values p0.scalar v602.length)⟩ (P2 .ret (fun _ d=>⟨sl d 73 [(4,Ea),(5,(Qe 6))],(YV p0.values p0.scalar v602.length)⟩) (.exit 2) (fun _ d=>⟨sl d 73 [(6,(Xl v602))],(YV p0.values p0.scalar v602.length)⟩) r):=by
 refine ZF.partial_correctness _ (fun ZF JP x r hm=>?_)
 obtain ⟨v603,p1,v602,p0,v810⟩:=x
 exact lp (Qg (ge 3 (ri hm (fun hm=>Qi (Qg (Qp (ge 1 (Qg (ge 1 (Qp (ru1 hm (XM _) fun v1810 d hm=>ge 2 (rin hm (fun hm=>ge 2 (Qk zf)) (fun hm=>Qi (R_G (re 3 (JP _ _ hm _ kr))))))))))))) (fun hm=>QO zf))))
def XH (x:(Q7 × Int)):Option ((List Int) × Int) :=
 match x with
 | (p0,p1) =>
 if (p0.values.length:Int)≠p1 then
  some (([]:(List Int)),5)
 else
 (
 Zm (p1,p0,([]:List Int),(-1),0)>>=fun out =>
 match out with
 | .inl v601 =>
  some (([]:(List Int)),6)
 | .inr ((v602,v603)) =>
  (
  ZF (v603,p1,v602,p0,0)>>=fun out =>
  match out with
  | .inl _ =>
   some (([]:(List Int)),6)
  | .inr (_) =>
   some (v602,0)
  )
 )
theorem Qd3 {p0 p1 r0 r1} (hm:XH (p0,p1)=some (r0,r1)):FQ 120 [(Q7.toD p0),(Qj p1)] (.tup [(La r0),(Qe r1)]):=by
 unfold XH at hm
 exact fp (fn:=f120) rfl (ge 3 (Qg (gr 2 (QZ Qj p0.values (re 2 (rix hm (fun hm=>ge 2 (Qk zf)) (fun hm=>Qi (ge 1 (ge 1 (Qg (ge 1 (Qp (ru2 hm (JO _) (fun v601 d hm=>zf) fun ⟨v602,v603⟩ d hm=>Qg (ge 1 (Qp (ru2 hm (JP _) (fun _ d hm=>zf) fun _ d hm=>ge 3 (Qk zf)))))))))))))))))
def Xw (x:((List Int) × (List Int))):Option (Qx × Int) :=
 match x with
 | (p0,p1) =>
 XH ((⟨p0,false⟩:Q7),(p1.length:Int))>>=fun (v1,v2) =>
 if v2≠0 then
  some ((⟨([]:(List Int)),([]:(List Int)),([]:(List Int)),([]:(List Int)),0,0,([]:(List Int))⟩:Qx),v2)
 else
 XP (v1,p1)>>=fun v3 =>
 some (v3,0)
theorem QcQ {p0 p1 r0 r1} (hm:Xw (p0,p1)=some (r0,r1)):FQ 87 [(Lb p0),(Lb p1)] (.tup [(.dat (Qx.toD r0)),(Qe r1)]):=by
 unfold Xw at hm
 exact fp (fn:=f87) rfl (ge 2 (gr 3 (QZ Qj p1 (bi2 hm fun v1 v2 hx hm=>cp (Qd3 hx) (re 5 (Qg (ge 2 (rix hm (fun hm=>ge 4 (Qk zf)) (fun hm=>Qi (gr 2 (bi hm fun v3 hx hm=>cp (Qdh hx) (re 2 (Qk zf)))))))))))))
def ZJ (x:(Q7 × Int)):Option (Unit ⊕ Unit) :=
 match x with
 | (p0,v201) =>
 if v201 < (p0.values.length:Int) then
  idx p0.values v201>>=fun v601 =>
  if v601 < 0 then
   some (Sum.inl ())
  else
  ZJ (p0,(W (v201+1)))
 else
 some (Sum.inr ())
 partial_fixpoint
theorem J4:∀ x r,ZJ x=some r→match x with|(p0,v201)=>LQ f121 121 [1,0,1,0,0] 1 ⟨kp 52 [(1,(.ptr 0 0)),(4,(Qe v201))],[(Q1 p0.values p0.scalar)]⟩ (P2 .ret (fun _ d=>⟨sl d 52 [(2,Ea),(3,(Qe 6))],[(Q1 p0.values p0.scalar)]⟩) (.exit 0) (fun _ d=>⟨sl d 52 [(1,(.ptr 0 0))],[(Q1 p0.values p0.scalar)]⟩) r):=by
 refine ZJ.partial_correctness _ (fun ZJ J4 x r hm=>?_)
 obtain ⟨p0,v201⟩:=x
 exact lp (Qg (gr 3 (QZ Qj p0.values (re 1 (ri hm (fun hm=>Qi (Qg (Qp (gr 3 (Zj 1 Qj hm fun v601 hm=>re 2 (ri hm (fun hm=>ge 2 (Qk zf)) (fun hm=>Qi (R_G (re 3 (J4 _ _ hm _ kr)))))))))) (fun hm=>QO zf))))))
def Zv (x:(Q7 × (List Int) × Int)):Option (Nat ⊕ (List Int)) :=
 match x with
 | (p0,v802,v803) =>
 if v803 < (p0.values.length:Int) then
  (if v803≥16 then
   some true
  else
  idx p0.values v803>>=fun v1205 =>
  some (decide (v1205 > 65536))
  )>>=fun (v1204:Bool) =>
  if v1204=true then
   some (Sum.inl v802.length)
  else
  idx p0.values v803>>=fun v1206 =>
  app 8 v802 ([v1206]:List Int)>>=fun v1207 =>
  Zv (p0,v1207,(W (v803+1)))
 else
 some (Sum.inr v802)
 partial_fixpoint
theorem J5:∀ x r,Zv x=some r→match x with|(p0,v802,v803)=>LQ f121 121 [1,1,1,0,1,0,0] 2 ⟨kp 52 [(1,(.ptr 0 0)),(5,(Xl v802)),(6,(Qe v803))],(YV p0.values p0.scalar v802.length)⟩ (P2 .ret (fun v1202 d=>⟨sl d 52 [(2,Ea),(3,(Qe 7))],(YV p0.values p0.scalar v1202)⟩) (.exit 2) (fun v1203 d=>⟨sl d 52 [(5,(Xl v1203))],(YV p0.values p0.scalar v1203.length)⟩) r):=by
 refine Zv.partial_correctness _ (fun Zv J5 x r hm=>?_)
 obtain ⟨p0,v802,v803⟩:=x
 exact lp (Qg (gr 3 (QZ Qj p0.values (re 1 (ri hm (fun hm=>Qi (Qg (Qp (Qg (Qg (bi hm fun v1204 hs hm=>Ze (fun d=>⟨sl d 52 [(1,(.ptr 0 0)),(5,(Xl v802)),(6,(Qe v803)),(37,(Qo v1204))],(YV p0.values p0.scalar v802.length)⟩) (have hm:=hs;R_G (Qh 3 (gs 30 hm (fun hm=>re 7 zf) (fun hm=>Qh 3 (Zj 1 Qj hm fun v1205 hm=>re 3 zf))))) (fun d=>rib hm (fun hm=>ge 2 (Qk zf)) (fun hm=>Qi (R_G (Qh 4 (Zj 1 Qj hm fun v1206 hm=>Qh 2 (bi hm fun v1207 hx hm=>Xk 3 1 8 1 Qj v802 ([v1206]:List Int) v1207 (xs:=(List.map Qj) v802) (es:=(List.map Qj) ([v1206]:List Int)) (L:=(List.map Qj)) (fun _=>rfl) rfl rfl (fun _=>rfl) hx (re 1 (R_G (re 3 (J5 _ _ hm _ kr)))))))))))))))) (fun hm=>QO zf))))))
def XV (x:Q7):Option ((List Int) × Int) :=
 match x with
 | p0 =>
 (
 ZJ (p0,0)>>=fun out =>
 match out with
 | .inl _ =>
  some (([]:(List Int)),6)
 | .inr (_) =>
  (
  Zv (p0,([]:List Int),0)>>=fun out =>
  match out with
  | .inl v1202 =>
   some (([]:(List Int)),7)
  | .inr (v1203) =>
   YR v1203>>=fun v1208 =>
   if v1208≠0 then
    some (([]:(List Int)),v1208)
   else
   some (v1203,0)
  )
 )
theorem Qel {p0 r0 r1} (hm:XV p0=some (r0,r1)):FQ 121 [(Q7.toD p0)] (.tup [(La r0),(Qe r1)]):=by
 unfold XV at hm
 exact fp (fn:=f121) rfl (ge 3 (Qg (ge 1 (Qp (ru2 hm (J4 _) (fun _ d hm=>zf) fun _ d hm=>ge 1 (Qg (ge 1 (Qp (ru2 hm (J5 _) (fun v1202 d hm=>zf) fun v1203 d hm=>gr 1 (bi hm fun v1208 hx hm=>cp (Qa1 hx) (re 1 (Qg (ge 2 (rix hm (fun hm=>ge 3 (Qk zf)) (fun hm=>Qi (ge 3 (Qk zf)))))))))))))))))
def X5 (x:((List Int) × (List Int))):Option (Qx × Int) :=
 match x with
 | (p0,p1) =>
 XV (⟨p0,false⟩:Q7)>>=fun (v1,v2) =>
 if v2≠0 then
  some ((⟨([]:(List Int)),([]:(List Int)),([]:(List Int)),([]:(List Int)),0,0,([]:(List Int))⟩:Qx),v2)
 else
 some ((⟨([]:(List Int)),p1,v1,([]:(List Int)),(-1),0,([]:(List Int))⟩:Qx),0)
theorem QdA {p0 p1 r0 r1} (hm:X5 (p0,p1)=some (r0,r1)):FQ 88 [(Lb p0),(Lb p1)] (.tup [(.dat (Qx.toD r0)),(Qe r1)]):=by
 unfold X5 at hm
 exact fp (fn:=f88) rfl (ge 2 (gr 2 (bi2 hm fun v1 v2 hx hm=>cp (Qel hx) (re 5 (Qg (ge 2 (rix hm (fun hm=>ge 4 (Qk zf)) (fun hm=>Qi (ge 5 (Qk zf))))))))))
def J1 (x:(List Int)):Option Qx :=
 match x with
 | p0 =>
 JZ p0>>=fun v1 =>
 some (⟨([]:(List Int)),p0,([v1]:List Int),([]:(List Int)),(-1),0,([]:(List Int))⟩:Qx)
theorem Qee {p0 r0} (hm:J1 p0=some r0):FQ 89 [(Lb p0)] (.dat (Qx.toD r0)):=by
 unfold J1 at hm
 exact fp (fn:=f89) rfl (ge 1 (gr 2 (bi hm fun v1 hx hm=>cp (Qec hx) (re 3 (Qk zf)))))
def Yl (x:((List Int) × (List Int) × Int)):Option (Unit ⊕ Unit) :=
 match x with
 | (p0,p1,v201) =>
 if v201 < (p0.length:Int) then
  idx p0 v201>>=fun v601 =>
  idx p1 v201>>=fun v602 =>
  if v601≠v602 then
   some (Sum.inl ())
  else
  Yl (p0,p1,(W (v201+1)))
 else
 some (Sum.inr ())
 partial_fixpoint
theorem QbF:∀ x r,Yl x=some r→match x with|(p0,p1,v201)=>LQ f53 53 [1,1,0,1,0,0] 0 ⟨kp 26 [(0,(La p0)),(1,(La p1)),(5,(Qe v201))],[]⟩ (P2 .ret (fun _ d=>⟨sl d 26 [(4,(Qo false))],[]⟩) (.exit 0) (fun _ d=>⟨sl d 26 [],[]⟩) r):=by
 refine Yl.partial_correctness _ (fun Yl QbF x r hm=>?_)
 obtain ⟨p0,p1,v201⟩:=x
 exact lp (Qg (gr 2 (QZ Qj p0 (re 1 (ri hm (fun hm=>Qi (Qg (Qp (Qg (X0 (Qh 2 (Zj 1 Qj hm fun v601 hm=>Qh 3 (Zj 1 Qj hm fun v602 hm=>re 2 ⟨kr,rix hm (fun hm=>ge 1 (Qk zf)) (fun hm=>Qi (R_G (re 3 (QbF _ _ hm _ kr))))⟩)))))))) (fun hm=>QO zf))))))
def Xf (x:((List Int) × (List Int))):Option Bool :=
 match x with
 | (p0,p1) =>
 if (p0.length:Int)≠(p1.length:Int) then
  some false
 else
 (
 Yl (p0,p1,0)>>=fun out =>
 match out with
 | .inl _ =>
  some false
 | .inr (_) =>
  some true
 )
theorem Qa2 {p0 p1 r0} (hm:Xf (p0,p1)=some r0):FQ 53 [(Lb p0),(Lb p1)] (Qo r0):=by
 unfold Xf at hm
 exact fp (fn:=f53) rfl (ge 1 (Qg (gr 1 (QZ Qj p0 (Qh 1 (QZ Qj p1 (re 1 (rix hm (fun hm=>ge 1 (Qk zf)) (fun hm=>Qi (Qg (ge 1 (Qp (ru2 hm (QbF _) (fun _ d hm=>zf) fun _ d hm=>ge 1 (Qk zf))))))))))))))
def ZZ (x:(Qf × Qf)):Option Qf :=
 match x with
 | (p0,p1) =>
 some (⟨p0.kind,p0.shape,p0.buffer,p0.starts,p0.axis,p0.amount,p0.perm,([(⟨p1.kind,p1.shape,p1.buffer,p1.starts,p1.axis,p1.amount,p1.perm,p1.kids⟩:Qf)]:(List Qf))⟩:Qf)
theorem XX {p0 p1 r0} (hm:ZZ (p0,p1)=some r0):FQ 90 [(Qf.ex p0),(Qf.ex p1)] (.dat (Qf.ex r0)):=by
 unfold ZZ at hm
 exact fp (fn:=f90) rfl (ge 3 (ge 4 (ge 2 (Qk zf))))
def Zw (x:(Qf × (List Int))):Option Qf :=
 match x with
 | (p0,p1) =>
 Xf (p0.shape,p1)>>=fun v1 =>
 if v1=true then
  some (⟨p0.kind,p0.shape,p0.buffer,p0.starts,p0.axis,p0.amount,p0.perm,p0.kids⟩:Qf)
 else
 ZZ ((⟨6,p1,0,([]:(List Int)),0,0,([]:(List Int)),([]:(List Qf))⟩:Qf),p0)>>=fun v2 =>
 some v2
theorem Jh {p0 p1 r0} (hm:Zw (p0,p1)=some r0):FQ 52 [(Qf.ex p0),(Lb p1)] (.dat (Qf.ex r0)):=by
 unfold Zw at hm
 exact fp (fn:=f52) rfl (ge 2 (Qg (gr 3 (bi hm fun v1 hx hm=>cp (Qa2 hx) (Y9 (rib hm (fun hm=>ge 2 (Qk zf)) (fun hm=>Qi (gr 3 (bi hm fun v2 hx hm=>cp (XX hx) (re 1 (Qk zf)))))))))))
def Ys (x:((List Qb) × Qa × Qf)):Option (Qf × Int) :=
 match x with
 | (p0,p1,p2) =>
 if p1.kind=4 then
  idx p1.kids 0>>=fun v1 =>
  YY (p0,v1)>>=fun (v2,v3) =>
  if v3≠0 then
   some ((⟨0,([]:(List Int)),0,([]:(List Int)),0,0,([]:(List Int)),([]:(List Qf))⟩:Qf),v3)
  else
  (if p1.fn=1 then
   some (p1.fn == 1)
  else
  some (p1.fn == 2)
  )>>=fun (v4:Bool) =>
  if v4=true then
   (if p1.fn=1 then
    QaF (v2.values,p2.shape)>>=fun (v13,v14) =>
    some (v13.left,v13.right,v13.shape,v13.starts,v13.axis,v13.amount,v13.perm,v14)
   else
   QaD (v2.values,p2.shape)>>=fun (v15,v16) =>
   some (v15.left,v15.right,v15.shape,v15.starts,v15.axis,v15.amount,v15.perm,v16)
   )>>=fun ((v5,v6,v7,v8,v9,v10,v11,v12):((List Int) × (List Int) × (List Int) × (List Int) × Int × Int × (List Int) × Int)) =>
   if v12≠0 then
    some ((⟨0,([]:(List Int)),0,([]:(List Int)),0,0,([]:(List Int)),([]:(List Qf))⟩:Qf),v12)
   else
   Zw ((⟨p2.kind,p2.shape,p2.buffer,p2.starts,p2.axis,p2.amount,p2.perm,p2.kids⟩:Qf),v6)>>=fun v17 =>
   ZZ ((⟨2,v7,0,v8,0,0,([]:(List Int)),([]:(List Qf))⟩:Qf),v17)>>=fun v18 =>
   some (v18,0)
  else
  if p1.fn=3 then
   (if p1.kind=3 then
    XE (p1.axis,p2.shape)>>=fun (v27,v28) =>
    some (v27.left,v27.right,v27.shape,v27.starts,v27.axis,v27.amount,v27.perm,v28)
   else
   Jz (v2.values,p1.axis,p2.shape)>>=fun (v29,v30) =>
   some (v29.left,v29.right,v29.shape,v29.starts,v29.axis,v29.amount,v29.perm,v30)
   )>>=fun ((v19,v20,v21,v22,v23,v24,v25,v26):((List Int) × (List Int) × (List Int) × (List Int) × Int × Int × (List Int) × Int)) =>
   (if v26=0 then
    some (decide (v23 < 0))
   else
   some false
   )>>=fun (v31:Bool) =>
   if v31=true then
    some ((⟨p2.kind,p2.shape,p2.buffer,p2.starts,p2.axis,p2.amount,p2.perm,p2.kids⟩:Qf),0)
   else
   if v26≠0 then
    some ((⟨0,([]:(List Int)),0,([]:(List Int)),0,0,([]:(List Int)),([]:(List Qf))⟩:Qf),v26)
   else
   Zw ((⟨p2.kind,p2.shape,p2.buffer,p2.starts,p2.axis,p2.amount,p2.perm,p2.kids⟩:Qf),v20)>>=fun v32 =>
   ZZ ((⟨p1.kind,v21,0,([]:(List Int)),v23,v24,([]:(List Int)),([]:(List Qf))⟩:Qf),v32)>>=fun v33 =>
   some (v33,0)
  else
  (if p1.fn=4 then
   if p1.kind=3 then
    QaE p2.shape>>=fun v44 =>
    some (v44.left,v44.right,v44.shape,v44.starts,v44.axis,v44.amount,v44.perm,(5:Int),v44.perm,(0:Int))
   else
   Xw (v2.values,p2.shape)>>=fun (v45,v46) =>
   some (v45.left,v45.right,v45.shape,v45.starts,v45.axis,v45.amount,v45.perm,(5:Int),v45.perm,v46)
  else
  if p1.fn=5 then
   X5 (v2.values,p2.shape)>>=fun (v47,v48) =>
   some (v47.left,v47.right,v47.shape,v47.starts,v47.axis,v47.amount,v47.perm,(6:Int),([]:List Int),v48)
  else
  if p1.fn=6 then
   J1 p2.shape>>=fun v49 =>
   some (v49.left,v49.right,v49.shape,v49.starts,v49.axis,v49.amount,v49.perm,(6:Int),([]:List Int),(0:Int))
  else
  some (([]:List Int),([]:List Int),([]:List Int),([]:List Int),(0:Int),(0:Int),([]:List Int),(0:Int),([]:List Int),(0:Int))
  )>>=fun ((v34,v35,v36,v37,v38,v39,v40,v41,v42,v43):((List Int) × (List Int) × (List Int) × (List Int) × Int × Int × (List Int) × Int × (List Int) × Int)) =>
  if v43≠0 then
   some ((⟨0,([]:(List Int)),0,([]:(List Int)),0,0,([]:(List Int)),([]:(List Qf))⟩:Qf),v43)
  else
  Zw ((⟨p2.kind,p2.shape,p2.buffer,p2.starts,p2.axis,p2.amount,p2.perm,p2.kids⟩:Qf),v35)>>=fun v50 =>
  ZZ ((⟨v41,v36,0,([]:(List Int)),0,0,v42,([]:(List Qf))⟩:Qf),v50)>>=fun v51 =>
  some (v51,0)
 else
 (if p1.fn=1 then
  some (p1.fn == 1)
 else
 some (p1.fn == 2)
 )>>=fun (v52:Bool) =>
 if v52=true then
  (if p1.fn=1 then
   QaF (([]:(List Int)),p2.shape)>>=fun (v61,v62) =>
   some (v61.left,v61.right,v61.shape,v61.starts,v61.axis,v61.amount,v61.perm,v62)
  else
  QaD (([]:(List Int)),p2.shape)>>=fun (v63,v64) =>
  some (v63.left,v63.right,v63.shape,v63.starts,v63.axis,v63.amount,v63.perm,v64)
  )>>=fun ((v53,v54,v55,v56,v57,v58,v59,v60):((List Int) × (List Int) × (List Int) × (List Int) × Int × Int × (List Int) × Int)) =>
  if v60≠0 then
   some ((⟨0,([]:(List Int)),0,([]:(List Int)),0,0,([]:(List Int)),([]:(List Qf))⟩:Qf),v60)
  else
  Zw ((⟨p2.kind,p2.shape,p2.buffer,p2.starts,p2.axis,p2.amount,p2.perm,p2.kids⟩:Qf),v54)>>=fun v65 =>
  ZZ ((⟨2,v55,0,v56,0,0,([]:(List Int)),([]:(List Qf))⟩:Qf),v65)>>=fun v66 =>
  some (v66,0)
 else
 if p1.fn=3 then
  (if p1.kind=3 then
   XE (p1.axis,p2.shape)>>=fun (v75,v76) =>
   some (v75.left,v75.right,v75.shape,v75.starts,v75.axis,v75.amount,v75.perm,v76)
  else
  Jz (([]:(List Int)),p1.axis,p2.shape)>>=fun (v77,v78) =>
  some (v77.left,v77.right,v77.shape,v77.starts,v77.axis,v77.amount,v77.perm,v78)
  )>>=fun ((v67,v68,v69,v70,v71,v72,v73,v74):((List Int) × (List Int) × (List Int) × (List Int) × Int × Int × (List Int) × Int)) =>
  (if v74=0 then
   some (decide (v71 < 0))
  else
  some false
  )>>=fun (v79:Bool) =>
  if v79=true then
   some ((⟨p2.kind,p2.shape,p2.buffer,p2.starts,p2.axis,p2.amount,p2.perm,p2.kids⟩:Qf),0)
  else
  if v74≠0 then
   some ((⟨0,([]:(List Int)),0,([]:(List Int)),0,0,([]:(List Int)),([]:(List Qf))⟩:Qf),v74)
  else
  Zw ((⟨p2.kind,p2.shape,p2.buffer,p2.starts,p2.axis,p2.amount,p2.perm,p2.kids⟩:Qf),v68)>>=fun v80 =>
  ZZ ((⟨p1.kind,v69,0,([]:(List Int)),v71,v72,([]:(List Int)),([]:(List Qf))⟩:Qf),v80)>>=fun v81 =>
  some (v81,0)
 else
 (if p1.fn=4 then
  if p1.kind=3 then
   QaE p2.shape>>=fun v92 =>
   some (v92.left,v92.right,v92.shape,v92.starts,v92.axis,v92.amount,v92.perm,(5:Int),v92.perm,(0:Int))
  else
  Xw (([]:(List Int)),p2.shape)>>=fun (v93,v94) =>
  some (v93.left,v93.right,v93.shape,v93.starts,v93.axis,v93.amount,v93.perm,(5:Int),v93.perm,v94)
 else
 if p1.fn=5 then
  X5 (([]:(List Int)),p2.shape)>>=fun (v95,v96) =>
  some (v95.left,v95.right,v95.shape,v95.starts,v95.axis,v95.amount,v95.perm,(6:Int),([]:List Int),v96)
 else
 if p1.fn=6 then
  J1 p2.shape>>=fun v97 =>
  some (v97.left,v97.right,v97.shape,v97.starts,v97.axis,v97.amount,v97.perm,(6:Int),([]:List Int),(0:Int))
 else
 some (([]:List Int),([]:List Int),([]:List Int),([]:List Int),(0:Int),(0:Int),([]:List Int),(0:Int),([]:List Int),(0:Int))
 )>>=fun ((v82,v83,v84,v85,v86,v87,v88,v89,v90,v91):((List Int) × (List Int) × (List Int) × (List Int) × Int × Int × (List Int) × Int × (List Int) × Int)) =>
 if v91≠0 then
  some ((⟨0,([]:(List Int)),0,([]:(List Int)),0,0,([]:(List Int)),([]:(List Qf))⟩:Qf),v91)
 else
 Zw ((⟨p2.kind,p2.shape,p2.buffer,p2.starts,p2.axis,p2.amount,p2.perm,p2.kids⟩:Qf),v83)>>=fun v98 =>
 ZZ ((⟨v89,v84,0,([]:(List Int)),0,0,v90,([]:(List Qf))⟩:Qf),v98)>>=fun v99 =>
 some (v99,0)
theorem Qgq {p0 p1 p2 r0 r1} (hm:Ys (p0,p1,p2)=some (r0,r1)):FQ 50 [(.lst ((List.map Qb.toD) p0)),(Qa.ex p1),(Qf.ex p2)] (.tup [(.dat (Qf.ex r0)),(Qe r1)]):=by
 unfold Ys at hm
 exact fp (fn:=f50) rfl (ge 4 (ge 1 (Qg (ge 3 (riq hm (fun hm=>gr 3 (bi hm fun v1 hx hm=>QbU 6 Qa.toD p1.kids 0 v1 (es:=Qa.toDs p1.kids) (d:=(Qa.ex v1)) (Qa.toDs_eq _) hx (Qa.toD_eq v1) rfl (Qh 1 (bi2 hm fun v2 v3 hx hm=>cp (QfT hx) (re 6 (Qg (ge 2 (rix hm (fun hm=>ge 4 (Qk zf)) (fun hm=>Qi (R_G (re 3 (ge 1 (ge 1 (ge 3 (Qg (ge 2 (Qp (Qg (ge 2 (bi hm fun v4 hs hm=>Ze (fun d=>⟨sl d 146 [(4,(.ptr 0 0)),(5,(.ptr 1 0)),(6,(.ptr 2 0)),(8,(La v2.values)),(11,(.ptr 4 0)),(12,(Qe 0)),(13,(.ptr 5 0)),(34,(Qe p1.fn)),(35,(Qo v4))],[(Q0 p1.kind p1.fn p1.axis p1.name p1.nums p1.kids),(Zt p2.kind p2.shape p2.buffer p2.starts p2.axis p2.amount p2.perm p2.kids),YU,(Q1 v2.values v2.scalar),Qv,YU]⟩) (have hm:=hs;riq hm (fun hm=>Qi zf) (fun hm=>R_G (re 2 zf))) (fun d=>rib hm (fun hm=>ge 2 (Qg (ge 3 (bi8 hm fun v5 v6 v7 v8 v9 v10 v11 v12 hs hm=>Ze (fun d=>⟨sl d 146 [(5,(.ptr 1 0)),(6,(.ptr 2 0)),(11,(.ptr 4 0)),(12,(Qe v12)),(13,(.ptr 5 0))],[(Q0 p1.kind p1.fn p1.axis p1.name p1.nums p1.kids),(Zt p2.kind p2.shape p2.buffer p2.starts p2.axis p2.amount p2.perm p2.kids),YU,(Q1 v2.values v2.scalar),(JV v5 v6 v7 v8 v9 v10 v11),Qgi]⟩) (have hm:=hs;riq hm (fun hm=>R_G (Qh 3 (bi2 hm fun v13 v14 hx hm=>cp (QeG hx) (re 5 zf)))) (fun hm=>R_G (Qh 3 (bi2 hm fun v15 v16 hx hm=>cp (QeE hx) (re 5 zf))))) (fun d=>R_G (re 4 (ge 4 (Qg (ge 2 (rix hm (fun hm=>ge 4 (Qk zf)) (fun hm=>Qi (Qg (X0 (Qh 4 (bi hm fun v17 hx hm=>cp (Jh hx) (bi hm fun v18 hx hm=>cp (XX hx) (re 2 ⟨kr,Qk zf⟩))))))))))))))))) (fun hm=>ge 2 (riq hm (fun hm=>ge 4 (Qg (ge 3 (bi8 hm fun v19 v20 v21 v22 v23 v24 v25 v26 hs hm=>Ze (fun d=>⟨sl d 146 [(5,(.ptr 1 0)),(6,(.ptr 2 0)),(11,(.ptr 4 0)),(12,(Qe v26)),(13,(.ptr 5 0))],[(Q0 p1.kind p1.fn p1.axis p1.name p1.nums p1.kids),(Zt p2.kind p2.shape p2.buffer p2.starts p2.axis p2.amount p2.perm p2.kids),YU,(Q1 v2.values v2.scalar),(JV v19 v20 v21 v22 v23 v24 v25),(Qey p1.kind)]⟩) (have hm:=hs;riq hm (fun hm=>R_G (Qh 4 (bi2 hm fun v27 v28 hx hm=>cp (Qcb hx) (re 5 zf)))) (fun hm=>R_G (Qh 5 (bi2 hm fun v29 v30 hx hm=>cp (QdT hx) (re 5 zf))))) (fun d=>Qg (Qg (bi hm fun v31 hs hm=>Ze (fun d=>⟨sl d 146 [(5,(.ptr 1 0)),(6,(.ptr 2 0)),(11,(.ptr 4 0)),(12,(Qe v26)),(13,(.ptr 5 0)),(90,(Qo v31))],[(Q0 p1.kind p1.fn p1.axis p1.name p1.nums p1.kids),(Zt p2.kind p2.shape p2.buffer p2.starts p2.axis p2.amount p2.perm p2.kids),YU,(Q1 v2.values v2.scalar),(JV v19 v20 v21 v22 v23 v24 v25),(Qey p1.kind)]⟩) (have hm:=hs;R_G (Qh 3 (gsq 86 hm (fun hm=>re 4 zf) (fun hm=>re 4 zf)))) (fun d=>rib hm (fun hm=>ge 3 (Qk zf)) (fun hm=>Qi (ge 4 (R_G (re 4 (ge 4 (Qg (ge 2 (rix hm (fun hm=>ge 4 (Qk zf)) (fun hm=>Qi (Qg (X0 (Qh 4 (bi hm fun v32 hx hm=>cp (Jh hx) (bi hm fun v33 hx hm=>cp (XX hx) (re 2 ⟨kr,Qk zf⟩))))))))))))))))))))))) (fun hm=>ge 2 (bi10 hm fun v34 v35 v36 v37 v38 v39 v40 v41 v42 v43 hs hm=>Ze (fun d=>⟨sl d 146 [(5,(.ptr 1 0)),(6,(.ptr 2 0)),(11,(.ptr 4 0)),(12,(Qe v43)),(13,(.ptr 5 0))],[(Q0 p1.kind p1.fn p1.axis p1.name p1.nums p1.kids),(Zt p2.kind p2.shape p2.buffer p2.starts p2.axis p2.amount p2.perm p2.kids),YU,(Q1 v2.values v2.scalar),(JV v34 v35 v36 v37 v38 v39 v40),(Qge v41 v42)]⟩) (have hm:=hs;riq hm (fun hm=>ge 2 (Qg (ge 3 (riq hm (fun hm=>R_G (Qh 2 (bi hm fun v44 hx hm=>cp (QeF hx) (re 1 (R_G (re 4 zf)))))) (fun hm=>R_G (Qh 3 (bi2 hm fun v45 v46 hx hm=>cp (QcQ hx) (re 5 (R_G (re 4 zf)))))))))) (fun hm=>ge 2 (riq hm (fun hm=>ge 2 (R_G (Qh 3 (bi2 hm fun v47 v48 hx hm=>cp (QdA hx) (re 5 zf))))) (fun hm=>ge 2 (riq hm (fun hm=>ge 2 (R_G (Qh 2 (bi hm fun v49 hx hm=>cp (Qee hx) (re 1 zf))))) (fun hm=>Qi zf)))))) (fun d=>ge 4 (Qg (ge 2 (rix hm (fun hm=>ge 4 (Qk zf)) (fun hm=>Qi (Qg (X0 (Qh 4 (bi hm fun v50 hx hm=>cp (Jh hx) (bi hm fun v51 hx hm=>cp (XX hx) (re 2 ⟨kr,Qk zf⟩)))))))))))))))))))))))))))))))))))) (fun hm=>Qi (ge 1 (ge 1 (ge 3 (Qg (ge 2 (Qp (Qg (ge 2 (bi hm fun v52 hs hm=>Ze (fun d=>⟨sl d 146 [(4,(.ptr 0 0)),(5,(.ptr 1 0)),(6,(.ptr 2 0)),(8,Ea),(11,(.ptr 3 0)),(12,(Qe 0)),(13,(.ptr 4 0)),(34,(Qe p1.fn)),(35,(Qo v52))],[(Q0 p1.kind p1.fn p1.axis p1.name p1.nums p1.kids),(Zt p2.kind p2.shape p2.buffer p2.starts p2.axis p2.amount p2.perm p2.kids),YU,Qv,YU]⟩) (have hm:=hs;riq hm (fun hm=>Qi zf) (fun hm=>R_G (re 2 zf))) (fun d=>rib hm (fun hm=>ge 2 (Qg (ge 3 (bi8 hm fun v53 v54 v55 v56 v57 v58 v59 v60 hs hm=>Ze (fun d=>⟨sl d 146 [(5,(.ptr 1 0)),(6,(.ptr 2 0)),(11,(.ptr 3 0)),(12,(Qe v60)),(13,(.ptr 4 0))],[(Q0 p1.kind p1.fn p1.axis p1.name p1.nums p1.kids),(Zt p2.kind p2.shape p2.buffer p2.starts p2.axis p2.amount p2.perm p2.kids),YU,(JV v53 v54 v55 v56 v57 v58 v59),Qgi]⟩) (have hm:=hs;riq hm (fun hm=>R_G (Qh 3 (bi2 hm fun v61 v62 hx hm=>cp (QeG hx) (re 5 zf)))) (fun hm=>R_G (Qh 3 (bi2 hm fun v63 v64 hx hm=>cp (QeE hx) (re 5 zf))))) (fun d=>R_G (re 4 (ge 4 (Qg (ge 2 (rix hm (fun hm=>ge 4 (Qk zf)) (fun hm=>Qi (Qg (X0 (Qh 4 (bi hm fun v65 hx hm=>cp (Jh hx) (bi hm fun v66 hx hm=>cp (XX hx) (re 2 ⟨kr,Qk zf⟩))))))))))))))))) (fun hm=>ge 2 (riq hm (fun hm=>ge 4 (Qg (ge 3 (bi8 hm fun v67 v68 v69 v70 v71 v72 v73 v74 hs hm=>Ze (fun d=>⟨sl d 146 [(5,(.ptr 1 0)),(6,(.ptr 2 0)),(11,(.ptr 3 0)),(12,(Qe v74)),(13,(.ptr 4 0))],[(Q0 p1.kind p1.fn p1.axis p1.name p1.nums p1.kids),(Zt p2.kind p2.shape p2.buffer p2.starts p2.axis p2.amount p2.perm p2.kids),YU,(JV v67 v68 v69 v70 v71 v72 v73),(Qey p1.kind)]⟩) (have hm:=hs;riq hm (fun hm=>R_G (Qh 4 (bi2 hm fun v75 v76 hx hm=>cp (Qcb hx) (re 5 zf)))) (fun hm=>R_G (Qh 5 (bi2 hm fun v77 v78 hx hm=>cp (QdT hx) (re 5 zf))))) (fun d=>Qg (Qg (bi hm fun v79 hs hm=>Ze (fun d=>⟨sl d 146 [(5,(.ptr 1 0)),(6,(.ptr 2 0)),(11,(.ptr 3 0)),(12,(Qe v74)),(13,(.ptr 4 0)),(90,(Qo v79))],[(Q0 p1.kind p1.fn p1.axis p1.name p1.nums p1.kids),(Zt p2.kind p2.shape p2.buffer p2.starts p2.axis p2.amount p2.perm p2.kids),YU,(JV v67 v68 v69 v70 v71 v72 v73),(Qey p1.kind)]⟩) (have hm:=hs;R_G (Qh 3 (gsq 86 hm (fun hm=>re 4 zf) (fun hm=>re 4 zf)))) (fun d=>rib hm (fun hm=>ge 3 (Qk zf)) (fun hm=>Qi (ge 4 (R_G (re 4 (ge 4 (Qg (ge 2 (rix hm (fun hm=>ge 4 (Qk zf)) (fun hm=>Qi (Qg (X0 (Qh 4 (bi hm fun v80 hx hm=>cp (Jh hx) (bi hm fun v81 hx hm=>cp (XX hx) (re 2 ⟨kr,Qk zf⟩))))))))))))))))))))))) (fun hm=>ge 2 (bi10 hm fun v82 v83 v84 v85 v86 v87 v88 v89 v90 v91 hs hm=>Ze (fun d=>⟨sl d 146 [(5,(.ptr 1 0)),(6,(.ptr 2 0)),(11,(.ptr 3 0)),(12,(Qe v91)),(13,(.ptr 4 0))],[(Q0 p1.kind p1.fn p1.axis p1.name p1.nums p1.kids),(Zt p2.kind p2.shape p2.buffer p2.starts p2.axis p2.amount p2.perm p2.kids),YU,(JV v82 v83 v84 v85 v86 v87 v88),(Qge v89 v90)]⟩) (have hm:=hs;riq hm (fun hm=>ge 2 (Qg (ge 3 (riq hm (fun hm=>R_G (Qh 2 (bi hm fun v92 hx hm=>cp (QeF hx) (re 1 (R_G (re 4 zf)))))) (fun hm=>R_G (Qh 3 (bi2 hm fun v93 v94 hx hm=>cp (QcQ hx) (re 5 (R_G (re 4 zf)))))))))) (fun hm=>ge 2 (riq hm (fun hm=>ge 2 (R_G (Qh 3 (bi2 hm fun v95 v96 hx hm=>cp (QdA hx) (re 5 zf))))) (fun hm=>ge 2 (riq hm (fun hm=>ge 2 (R_G (Qh 2 (bi hm fun v97 hx hm=>cp (Qee hx) (re 1 zf))))) (fun hm=>Qi zf)))))) (fun d=>ge 4 (Qg (ge 2 (rix hm (fun hm=>ge 4 (Qk zf)) (fun hm=>Qi (Qg (X0 (Qh 4 (bi hm fun v98 hx hm=>cp (Jh hx) (bi hm fun v99 hx hm=>cp (XX hx) (re 2 ⟨kr,Qk zf⟩)))))))))))))))))))))))))))))))
def Zg (x:((List Int) × Int × Int × (List Int) × Int)):Option ((List Int)) :=
 match x with
 | (p0,p1,p2,v201,v202) =>
 if v202≤(p0.length:Int) then
  (if v202=p1 then
   app 8 v201 ([p2]:List Int)>>=fun v603 =>
   some v603
  else
  some v201
  )>>=fun (v602:(List Int)) =>
  if v202 < (p0.length:Int) then
   idx p0 v202>>=fun v604 =>
   app 8 v602 ([v604]:List Int)>>=fun v605 =>
   Zg (p0,p1,p2,v605,(W (v202+1)))
  else
  Zg (p0,p1,p2,v602,(W (v202+1)))
 else
 some v201
 partial_fixpoint
theorem Qae:∀ x r,Zg x=some r→match x with|(p0,p1,p2,v201,v202)=>LQ f91 91 [1,1,0,1,0,0] 1 ⟨kp 34 [(0,(La p0)),(1,(Qe p1)),(2,(Qe p2)),(7,(Qcq v201)),(8,(Qe v202))],[(.tok 3 v201.length)]⟩ (P1 (.exit 0) (fun v601 d=>⟨sl d 34 [(7,(Qcq v601))],[(.tok 3 v601.length)]⟩) r):=by
 refine Zg.partial_correctness _ (fun Zg Qae x r hm=>?_)
 obtain ⟨p0,p1,p2,v201,v202⟩:=x
 exact lp (Qg (gr 2 (QZ Qj p0 (re 1 (ri hm (fun hm=>Qi (Qg (Qp (Qg (ge 3 (bi hm fun v602 hs hm=>Ze (fun d=>⟨sl d 34 [(0,(La p0)),(1,(Qe p1)),(2,(Qe p2)),(7,(Qcq v602)),(8,(Qe v202))],[(.tok 3 v602.length)]⟩) (have hm:=hs;riq hm (fun hm=>R_G (Qh 3 (bi hm fun v603 hx hm=>Xk 3 1 8 0 Qj v201 ([p2]:List Int) v603 (xs:=(List.map Qj) v201) (es:=(List.map Qj) ([p2]:List Int)) (L:=(List.map Qj)) (fun _=>rfl) rfl rfl (fun _=>rfl) hx (re 1 zf)))) (fun hm=>Qi zf)) (fun d=>gr 2 (QZ Qj p0 (re 1 (ri hm (fun hm=>R_G (Qh 3 (Zj 1 Qj hm fun v604 hm=>Qh 2 (bi hm fun v605 hx hm=>Xk 3 1 8 0 Qj v602 ([v604]:List Int) v605 (xs:=(List.map Qj) v602) (es:=(List.map Qj) ([v604]:List Int)) (L:=(List.map Qj)) (fun _=>rfl) rfl rfl (fun _=>rfl) hx (re 1 (R_G (re 3 (Qae _ _ hm _ kr)))))))) (fun hm=>Qi (R_G (re 3 (Qae _ _ hm _ kr)))))))))))))) (fun hm=>QO zf))))))
def XU (x:((List Int) × Int × Int)):Option (List Int) :=
 match x with
 | (p0,p1,p2) =>
 Zg (p0,p1,p2,([]:List Int),0)>>=fun v601 =>
 some v601
theorem Qcv {p0 p1 p2 r0} (hm:XU (p0,p1,p2)=some r0):FQ 91 [(Lb p0),(Qj p1),(Qj p2)] (La r0):=by
 unfold XU at hm
 exact fp (fn:=f91) rfl (ge 1 (ge 1 (Qg (ge 1 (Qp (ru1 hm (Qae _) fun v601 d hm=>ge 2 (Qk zf)))))))
def Zs (x:((List Int) × Int × (List Int) × Int)):Option ((List Int)) :=
 match x with
 | (p0,p1,v201,v202) =>
 if v202 < (p0.length:Int) then
  if v202≠p1 then
   idx p0 v202>>=fun v602 =>
   app 8 v201 ([v602]:List Int)>>=fun v603 =>
   Zs (p0,p1,v603,(W (v202+1)))
  else
  Zs (p0,p1,v201,(W (v202+1)))
 else
 some v201
 partial_fixpoint
theorem Qaf:∀ x r,Zs x=some r→match x with|(p0,p1,v201,v202)=>LQ f122 122 [1,1,0,1,0,0] 1 ⟨kp 24 [(0,(La p0)),(1,(Qe p1)),(5,(Qcq v201)),(6,(Qe v202))],[(.tok 3 v201.length)]⟩ (P1 (.exit 0) (fun v601 d=>⟨sl d 24 [(5,(Qcq v601))],[(.tok 3 v601.length)]⟩) r):=by
 refine Zs.partial_correctness _ (fun Zs Qaf x r hm=>?_)
 obtain ⟨p0,p1,v201,v202⟩:=x
 exact lp (Qg (gr 2 (QZ Qj p0 (re 1 (ri hm (fun hm=>Qi (Qg (Qp (ge 3 (rix hm (fun hm=>R_G (Qh 3 (Zj 1 Qj hm fun v602 hm=>Qh 2 (bi hm fun v603 hx hm=>Xk 3 1 8 0 Qj v201 ([v602]:List Int) v603 (xs:=(List.map Qj) v201) (es:=(List.map Qj) ([v602]:List Int)) (L:=(List.map Qj)) (fun _=>rfl) rfl rfl (fun _=>rfl) hx (re 1 (R_G (re 3 (Qaf _ _ hm _ kr)))))))) (fun hm=>Qi (R_G (re 3 (Qaf _ _ hm _ kr))))))))) (fun hm=>QO zf))))))
def Qaq (x:((List Int) × Int)):Option (List Int) :=
 match x with
 | (p0,p1) =>
 Zs (p0,p1,([]:List Int),0)>>=fun v601 =>
 some v601
theorem Qfp {p0 p1 r0} (hm:Qaq (p0,p1)=some r0):FQ 122 [(Lb p0),(Qj p1)] (La r0):=by
 unfold Qaq at hm
 exact fp (fn:=f122) rfl (ge 1 (ge 1 (Qg (ge 1 (Qp (ru1 hm (Qaf _) fun v601 d hm=>ge 2 (Qk zf)))))))
def JH (x:((List Int) × Int × Int)):Option (List Int) :=
 match x with
 | (p0,p1,p2) =>
 Qaq (p0,p1)>>=fun v1 =>
 XU (v1,p1,p2)>>=fun v2 =>
 some v2
theorem QdU {p0 p1 p2 r0} (hm:JH (p0,p1,p2)=some r0):FQ 92 [(Lb p0),(Qj p1),(Qj p2)] (La r0):=by
 unfold JH at hm
 exact fp (fn:=f92) rfl (ge 1 (gr 2 (bi hm fun v1 hx hm=>cp (Qfp hx) (Qh 2 (bi hm fun v2 hx hm=>cp (Qcv hx) (re 1 (Qk zf)))))))
def Zh (x:((List Int) × (List Int) × Int × (List Int) × (List Int) × Int)):Option (Unit ⊕ Unit) :=
 match x with
 | (p1,p2,v1,v7,v9,v211) =>
 if v211 < (max (max (p1.length:Int) (p2.length:Int)) 1) then
  (if v211≠v1 then
   idx v7 v211>>=fun v612 =>
   idx v9 v211>>=fun v613 =>
   some (v612 != v613)
  else
  some false
  )>>=fun (v611:Bool) =>
  if v611=true then
   some (Sum.inl ())
  else
  Zh (p1,p2,v1,v7,v9,(W (v211+1)))
 else
 some (Sum.inr ())
 partial_fixpoint
theorem QaN:∀ x r,Zh x=some r→match x with|(p1,p2,v1,v7,v9,v211)=>LQ f51 51 [1,1,1,1,1,1,1,1,1,1,1,0,1,0,0] 1 ⟨kp 114 [(0,(Qe v1)),(6,(.ptr 0 0)),(8,(Qe (max (max (p1.length:Int) (p2.length:Int)) 1))),(10,(La v7)),(11,(La v9)),(12,(Qe v211))],[Qv]⟩ (P2 .ret (fun _ d=>⟨sl d 114 [(6,(.ptr 0 0)),(7,(Qe 5))],[Qv]⟩) (.exit 0) (fun _ d=>⟨sl d 114 [(0,(Qe v1)),(6,(.ptr 0 0)),(10,(La v7)),(11,(La v9))],[Qv]⟩) r):=by
 refine Zh.partial_correctness _ (fun Zh QaN x r hm=>?_)
 obtain ⟨p1,p2,v1,v7,v9,v211⟩:=x
 exact lp (Qg (ge 3 (ri hm (fun hm=>Qi (Qg (Qp (Qg (bi hm fun v611 hs hm=>Ze (fun d=>⟨sl d 114 [(0,(Qe v1)),(6,(.ptr 0 0)),(8,(Qe (max (max (p1.length:Int) (p2.length:Int)) 1))),(10,(La v7)),(11,(La v9)),(12,(Qe v211)),(91,(Qo v611))],[Qv]⟩) (have hm:=hs;X0 (Qh 4 (gsx 81 hm (fun hm=>Qh 2 (Zj 1 Qj hm fun v612 hm=>Qh 3 (Zj 1 Qj hm fun v613 hm=>re 3 ⟨kr,zf⟩))) (fun hm=>re 10 ⟨kr,zf⟩)))) (fun d=>rib hm (fun hm=>ge 3 (Qk zf)) (fun hm=>Qi (R_G (re 3 (QaN _ _ hm _ kr)))))))))) (fun hm=>QO zf))))
def XO (x:(Int × (List Int) × (List Int))):Option (Qx × Int) :=
 match x with
 | (p0,p1,p2) =>
 if p0≥(max (max (p1.length:Int) (p2.length:Int)) 1) then
  some ((⟨([]:(List Int)),([]:(List Int)),([]:(List Int)),([]:(List Int)),0,0,([]:(List Int))⟩:Qx),4)
 else
 (if p0 < 0 then
  some (W ((max (max (p1.length:Int) (p2.length:Int)) 1) - 1))
 else
 some p0
 )>>=fun (v1:Int) =>
 (if (if (p2.length:Int) < (p1.length:Int) then (p2.length:Int) else (p1.length:Int)) < (W ((max (max (p1.length:Int) (p2.length:Int)) 1) - 1)) then
  some (decide ((if (p2.length:Int) < (p1.length:Int) then (p2.length:Int) else (p1.length:Int)) > 0))
 else
 some false
 )>>=fun (v2:Bool) =>
 if v2=true then
  some ((⟨([]:(List Int)),([]:(List Int)),([]:(List Int)),([]:(List Int)),0,0,([]:(List Int))⟩:Qx),4)
 else
 (if (p1.length:Int)=(W ((max (max (p1.length:Int) (p2.length:Int)) 1) - 1)) then
  XU (p1,v1,1)>>=fun v4 =>
  some v4
 else
 some p1
 )>>=fun (v3:(List Int)) =>
 (if (p2.length:Int)=(W ((max (max (p1.length:Int) (p2.length:Int)) 1) - 1)) then
  XU (p2,v1,1)>>=fun v6 =>
  some v6
 else
 some p2
 )>>=fun (v5:(List Int)) =>
 (if (v3.length:Int) < (max (max (p1.length:Int) (p2.length:Int)) 1) then
  JH (v5,v1,1)>>=fun v8 =>
  some v8
 else
 some v3
 )>>=fun (v7:(List Int)) =>
 (if (v5.length:Int) < (max (max (p1.length:Int) (p2.length:Int)) 1) then
  JH (v7,v1,1)>>=fun v10 =>
  some v10
 else
 some v5
 )>>=fun (v9:(List Int)) =>
 (
 Zh (p1,p2,v1,v7,v9,0)>>=fun out =>
 match out with
 | .inl _ =>
  some ((⟨([]:(List Int)),([]:(List Int)),([]:(List Int)),([]:(List Int)),0,0,([]:(List Int))⟩:Qx),5)
 | .inr (_) =>
  idx v7 v1>>=fun v614 =>
  idx v9 v1>>=fun v615 =>
  JH (v7,v1,(W (v614+v615)))>>=fun v616 =>
  YR v616>>=fun v617 =>
  if v617≠0 then
   some ((⟨([]:(List Int)),([]:(List Int)),([]:(List Int)),([]:(List Int)),0,0,([]:(List Int))⟩:Qx),7)
  else
  some ((⟨v7,v9,v616,([]:(List Int)),v1,0,([]:(List Int))⟩:Qx),0)
 )
theorem QeN {p0 p1 p2 r0 r1} (hm:XO (p0,p1,p2)=some (r0,r1)):FQ 51 [(Qj p0),(Lb p1),(Lb p2)] (.tup [(.dat (Qx.toD r0)),(Qe r1)]):=by
 unfold XO at hm
 exact fp (fn:=f51) rfl (ge 2 (gr 1 (QZ Qj p1 (Qh 1 (QZ Qj p2 (QT rfl (fun _=>Qg3 (k:=.i64) (m:=(p1.length:Int)) (n:=(p2.length:Int)) (q:=1) rfl kr kr kr) (re 1 (Qg (ge 3 (ri hm (fun hm=>ge 3 (Qk zf)) (fun hm=>Qi (Qg (ge 2 (bi hm fun v1 hs hm=>Ze (fun d=>⟨sl d 114 [(0,(Qe v1)),(1,(La p1)),(2,(La p2)),(6,(.ptr 0 0)),(8,(Qe (max (max (p1.length:Int) (p2.length:Int)) 1)))],[Qv]⟩) (have hm:=hs;ri hm (fun hm=>R_G (re 3 zf)) (fun hm=>Qi zf)) (fun d=>gr 1 (QZ Qj p1 (Qh 1 (QZ Qj p2 (QT rfl (fun _=>Qg4 (k:=.i64) (m:=(p1.length:Int)) (n:=(p2.length:Int)) rfl kr kr) (re 1 (Qg (Qg (bi hm fun v2 hs hm=>Ze (fun d=>⟨sl d 114 [(0,(Qe v1)),(1,(La p1)),(2,(La p2)),(6,(.ptr 0 0)),(8,(Qe (max (max (p1.length:Int) (p2.length:Int)) 1))),(39,(Qo v2))],[Qv]⟩) (have hm:=hs;R_G (Qh 5 (gs 36 hm (fun hm=>re 3 zf) (fun hm=>re 3 zf)))) (fun d=>rib hm (fun hm=>ge 3 (Qk zf)) (fun hm=>Qi (ge 4 (Qg (gr 1 (QZ Qj p1 (re 3 (bi hm fun v3 hs hm=>Ze (fun d=>⟨sl d 114 [(0,(Qe v1)),(2,(La p2)),(6,(.ptr 0 0)),(8,(Qe (max (max (p1.length:Int) (p2.length:Int)) 1))),(10,(La v3)),(11,(La p2))],[Qv]⟩) (have hm:=hs;riq hm (fun hm=>R_G (Qh 2 (bi hm fun v4 hx hm=>cp (Qcv hx) (re 1 zf)))) (fun hm=>Qi zf)) (fun d=>Qg (gr 1 (QZ Qj p2 (re 3 (bi hm fun v5 hs hm=>Ze (fun d=>⟨sl d 114 [(0,(Qe v1)),(6,(.ptr 0 0)),(8,(Qe (max (max (p1.length:Int) (p2.length:Int)) 1))),(10,(La v3)),(11,(La v5))],[Qv]⟩) (have hm:=hs;riq hm (fun hm=>R_G (Qh 2 (bi hm fun v6 hx hm=>cp (Qcv hx) (re 1 zf)))) (fun hm=>Qi zf)) (fun d=>Qg (gr 1 (QZ Qj v3 (re 2 (bi hm fun v7 hs hm=>Ze (fun d=>⟨sl d 114 [(0,(Qe v1)),(6,(.ptr 0 0)),(8,(Qe (max (max (p1.length:Int) (p2.length:Int)) 1))),(10,(La v7)),(11,(La v5))],[Qv]⟩) (have hm:=hs;ri hm (fun hm=>R_G (Qh 2 (bi hm fun v8 hx hm=>cp (QdU hx) (re 1 zf)))) (fun hm=>Qi zf)) (fun d=>Qg (gr 1 (QZ Qj v5 (re 2 (bi hm fun v9 hs hm=>Ze (fun d=>⟨sl d 114 [(0,(Qe v1)),(6,(.ptr 0 0)),(8,(Qe (max (max (p1.length:Int) (p2.length:Int)) 1))),(10,(La v7)),(11,(La v9))],[Qv]⟩) (have hm:=hs;ri hm (fun hm=>R_G (Qh 2 (bi hm fun v10 hx hm=>cp (QdU hx) (re 1 zf)))) (fun hm=>Qi zf)) (fun d=>Qg (ge 1 (Qp (ru2 hm (QaN _) (fun _ d hm=>zf) fun _ d hm=>Qg (X0 (Qh 4 (Zj 1 Qj hm fun v614 hm=>Qh 3 (Zj 1 Qj hm fun v615 hm=>Qh 2 (bi hm fun v616 hx hm=>cp (QdU hx) (re 1 ⟨kr,Qg (gr 1 (bi hm fun v617 hx hm=>cp (Qa1 hx) (re 1 (rix hm (fun hm=>ge 3 (Qk zf)) (fun hm=>Qi (ge 7 (Qk zf)))))))⟩))))))))))))))))))))))))))))))))))))))))))))))))))))))))
def Q4 (x:((List Qb) × (List Qm) × Qa)):Option (Qf × (List Qm) × Int) :=
 match x with
 | (p0,p1,p2) =>
 if p2.kind≤2 then
  YD (p0,p1,p2)>>=fun (v1,v2,v3) =>
  some (v1,v2,v3)
 else
 idx p2.kids (W ((p2.kids.length:Int) - 1))>>=fun v4 =>
 Q4 (p0,p1,v4)>>=fun (v5,v6,v7) =>
 if v7≠0 then
  some ((⟨0,([]:(List Int)),0,([]:(List Int)),0,0,([]:(List Int)),([]:(List Qf))⟩:Qf),([]:(List Qm)),v7)
 else
 (if p2.kind=3 then
  some true
 else
 some (p2.fn != 6)
 )>>=fun (v8:Bool) =>
 if v8=true then
  Ys (p0,(⟨p2.kind,p2.fn,p2.axis,p2.name,p2.nums,p2.kids⟩:Qa),(⟨v5.kind,v5.shape,v5.buffer,v5.starts,v5.axis,v5.amount,v5.perm,v5.kids⟩:Qf))>>=fun (v9,v10) =>
  some (v9,v6,v10)
 else
 idx p2.kids 0>>=fun v11 =>
 Q4 (p0,v6,v11)>>=fun (v12,v13,v14) =>
 if v14≠0 then
  some ((⟨0,([]:(List Int)),0,([]:(List Int)),0,0,([]:(List Int)),([]:(List Qf))⟩:Qf),([]:(List Qm)),v14)
 else
 XO (p2.axis,v12.shape,v5.shape)>>=fun (v15,v16) =>
 if v16≠0 then
  some ((⟨0,([]:(List Int)),0,([]:(List Int)),0,0,([]:(List Int)),([]:(List Qf))⟩:Qf),([]:(List Qm)),v16)
 else
 Zw ((⟨v12.kind,v12.shape,v12.buffer,v12.starts,v12.axis,v12.amount,v12.perm,v12.kids⟩:Qf),v15.left)>>=fun v17 =>
 Zw ((⟨v5.kind,v5.shape,v5.buffer,v5.starts,v5.axis,v5.amount,v5.perm,v5.kids⟩:Qf),v15.right)>>=fun v18 =>
 some ((⟨7,v15.shape,0,([]:(List Int)),v15.axis,0,([]:(List Int)),([(⟨v17.kind,v17.shape,v17.buffer,v17.starts,v17.axis,v17.amount,v17.perm,v17.kids⟩:Qf),(⟨v18.kind,v18.shape,v18.buffer,v18.starts,v18.axis,v18.amount,v18.perm,v18.kids⟩:Qf)]:(List Qf))⟩:Qf),v13,0)
 partial_fixpoint
def Qck:((List Qb) × (List Qm) × Qa)→(Qf × (List Qm) × Int)→Prop:=fun x r=>match x,r with
 | (p0,p1,p2),(r0,r1,r2)=>∀ H,PC prog env 25 ([(.lst ((List.map Qb.toD) p0)),(.lst ((List.map Qm.toD) p1)),(Qa.ex p2)].map .dat) H (.tup [(.dat (Qf.ex r0)),(X7 r1),(Qe r2)]) H
theorem g_ref15_expr:(∀ x r,Q4 x=some r→Qck x r):=by
 refine Q4.partial_correctness Qck ?_
 ·intro Q4 Qcm x r hm
  unfold Qck
  obtain ⟨p0,p1,p2⟩:=x
  obtain ⟨r0,r1,r2⟩:=r
  intro H
  refine PC_sx (ds:=[(.lst ((List.map Qb.toD) p0)),(.lst ((List.map Qm.toD) p1)),(Qa.ex p2)]) (fn:=f25) rfl ?_
  exact ge 4 (Qg (ge 3 (ri hm (fun hm=>gr 3 (bi3 hm fun v1 v2 v3 hx hm=>cp (QfW hx) (re 6 (Qk zf)))) (fun hm=>Qi (gr 6 (QcI Qa.toD p2.kids (es:=Qa.toDs p2.kids) (Qa.toDs_eq _) (Qh 1 (bi hm fun v4 hx hm=>QbU 6 Qa.toD p2.kids (W ((p2.kids.length:Int) - 1)) v4 (es:=Qa.toDs p2.kids) (d:=(Qa.ex v4)) (Qa.toDs_eq _) hx (Qa.toD_eq v4) rfl (Qh 1 (bi3 hm fun v5 v6 v7 hx hm=>YA (Qcm _ _ hx []) (re 8 (Qg (ge 2 (rix hm (fun hm=>ge 5 (Qk zf)) (fun hm=>Qi (Qg (Qg (bi hm fun v8 hs hm=>Ze (fun d=>⟨sl d 106 [(0,(YG p0)),(1,(X7 v6)),(5,(.ptr 0 0)),(6,(.ptr 1 0)),(9,(.ptr 2 0)),(51,(Qo v8))],[(Q0 p2.kind p2.fn p2.axis p2.name p2.nums p2.kids),YU,(Zt v5.kind v5.shape v5.buffer v5.starts v5.axis v5.amount v5.perm v5.kids)]⟩) (have hm:=hs;R_G (Qh 4 (gsq 47 hm (fun hm=>re 4 zf) (fun hm=>re 4 zf)))) (fun d=>rib hm (fun hm=>gr 3 (bi2 hm fun v9 v10 hx hm=>cp (Qgq hx) (re 6 (ge 6 (Qk zf))))) (fun hm=>Qi (gr 4 (bi hm fun v11 hx hm=>QbU 6 Qa.toD p2.kids 0 v11 (es:=Qa.toDs p2.kids) (d:=(Qa.ex v11)) (Qa.toDs_eq _) hx (Qa.toD_eq v11) rfl (Qh 1 (bi3 hm fun v12 v13 v14 hx hm=>YA (Qcm _ _ hx []) (re 8 (Qg (ge 2 (rix hm (fun hm=>ge 5 (Qk zf)) (fun hm=>Qi (gr 6 (bi2 hm fun v15 v16 hx hm=>cp (QeN hx) (re 6 (Qg (ge 2 (rix hm (fun hm=>ge 5 (Qk zf)) (fun hm=>Qi (Qg (X0 (Qh 7 (bi hm fun v17 hx hm=>cp (Jh hx) (Qh 3 (bi hm fun v18 hx hm=>cp (Jh hx) (re 6 ⟨kr,Qk zf⟩)))))))))))))))))))))))))))))))))))))))))))
theorem Qcm:∀ x r,Q4 x=some r→Qck x r:=g_ref15_expr
def XK (x:((List Qb) × Qa)):Option (Q5 × Int) :=
 match x with
 | (p0,p1) =>
 Q4 (p0,([]:(List Qm)),(⟨p1.kind,p1.fn,p1.axis,p1.name,p1.nums,p1.kids⟩:Qa))>>=fun (v1,v2,v3) =>
 if v3≠0 then
  some ((⟨(⟨0,([]:(List Int)),0,([]:(List Int)),0,0,([]:(List Int)),([]:(List Qf))⟩:Qf),([]:(List Qm))⟩:Q5),v3)
 else
 some ((⟨v1,v2⟩:Q5),0)
theorem QfU {p0 p1 r0 r1} (hm:XK (p0,p1)=some (r0,r1)):FQ 12 [(.lst ((List.map Qb.toD) p0)),(Qa.ex p1)] (.tup [(.dat (Q5.toD r0)),(Qe r1)]):=by
 unfold XK at hm
 exact fp (fn:=f12) rfl (ge 3 (gr 2 (bi3 hm fun v1 v2 v3 hx hm=>YA (Qcm _ _ hx []) (re 8 (Qg (ge 2 (rix hm (fun hm=>ge 4 (Qk zf)) (fun hm=>Qi (ge 5 (Qk zf))))))))))
mutual
def Yi (x:(Qc × (List Qf) × Int)):Option ((List Qf)) :=
 match x with
 | (p0,v201,v202) =>
 if v202 < (p0.kids.length:Int) then
  idx p0.kids v202>>=fun v602 =>
  JK v602>>=fun v603 =>
  app 128 v201 ([v603]:List Qf)>>=fun v604 =>
  Yi (p0,v604,(W (v202+1)))
 else
 some v201
 partial_fixpoint
def JK (x:Qc):Option Qf :=
 match x with
 | p0 =>
 Yi (p0,([]:List Qf),0)>>=fun v601 =>
 some (⟨p0.kind,p0.shape,p0.buffer,p0.starts,p0.axis,p0.amount,p0.perm,v601⟩:Qf)
 partial_fixpoint
end
def Qa3:(Qc × (List Qf) × Int)→((List Qf))→Prop:=fun x r=>match x with
 | (p0,v201,v202)=>LQ f28 28 [1,1,0,1,0,0] 5 ⟨kp 39 [(1,(.ptr 0 0)),(2,(.ptr 1 0)),(3,(.ptr 3 0)),(4,(Qe v202))],[(.box [(Qe p0.kind),(La p0.shape),(Qe p0.buffer),(La p0.starts),(Qe p0.axis),(Qe p0.amount),(La p0.perm),(Xa p0.kids)]),YU,(.tok 53 v201.length),(.box [(Qe p0.kind),(La p0.shape),(Qe p0.buffer),(La p0.starts),(Qe p0.axis),(Qe p0.amount),(La p0.perm),(.vec 2 (Qf.toDs v201))]),(.tok 53 (([]:List Qf).length))]⟩ (P1 (.exit 0) (fun v601 d=>⟨sl d 39 [(2,(.ptr 1 0)),(3,(.ptr 3 0))],[(.box [(Qe p0.kind),(La p0.shape),(Qe p0.buffer),(La p0.starts),(Qe p0.axis),(Qe p0.amount),(La p0.perm),(Xa p0.kids)]),YU,(.tok 53 v601.length),(.box [(Qe p0.kind),(La p0.shape),(Qe p0.buffer),(La p0.starts),(Qe p0.axis),(Qe p0.amount),(La p0.perm),(.vec 2 (Qf.toDs v601))]),(.tok 53 (([]:List Qf).length))]⟩) r)
def Qch:Qc→Qf→Prop:=fun x r=>match x,r with
 | p0,r0=>∀ H,PC prog env 28 ([(Qc.ex p0)].map .dat) H (.dat (Qf.ex r0)) H
theorem g_law14_Back_L1:(∀ x r,Yi x=some r→Qa3 x r)∧(∀ x r,JK x=some r→Qch x r):=by
 refine Yi.mutual_partial_correctness Qa3 Qch ?_ ?_
 ·intro Yi JK Qa9 Qdq x r hm
  unfold Qa3
  obtain ⟨p0,v201,v202⟩:=x
  exact lp (Qg (gr 3 (QcI Qc.toD p0.kids (es:=Qc.toDs p0.kids) (Qc.toDs_eq _) (re 1 (ri hm (fun hm=>Qi (Qg (Qp (X0 (Qh 5 (bi hm fun v602 hx hm=>QbU 8 Qc.toD p0.kids v202 v602 (es:=Qc.toDs p0.kids) (d:=(Qc.ex v602)) (Qc.toDs_eq _) hx (Qc.toD_eq v602) rfl (Qh 1 (bi hm fun v603 hx hm=>YA (Qdq _ _ hx []) (Qh 1 (bi hm fun v604 hx hm=>Xk 53 8 128 2 Qf.toD v201 ([v603]:List Qf) v604 (xs:=Qf.toDs v201) (es:=[(Qf.ex v603)]) (L:=Qf.toDs) Qf.toDs_eq rfl (by simp only [Qf.toDs,Qf.toD_eq]) Qf.fit hx (re 2 ⟨kr,R_G (re 3 (Qa9 _ _ hm _ kr))⟩))))))))))) (fun hm=>QO zf))))))
 ·intro Yi Qa9 p0 r0 hm
  unfold Qch
  intro H
  refine PC_sx (ds:=[(Qc.ex p0)]) (fn:=f28) rfl ?_
  exact ge 2 (ge 17 (Qg (ge 1 (Qp (ru1 hm (Qa9 _) fun v601 d hm=>ge 2 (Qk zf))))))
theorem Qa9:∀ x r,Yi x=some r→Qa3 x r:=g_law14_Back_L1.1
theorem Qdq:∀ x r,JK x=some r→Qch x r:=g_law14_Back_L1.2
def Y5 (x:(Zl × Qf × (List Qm) × Int)):Option ((List Qm)) :=
 match x with
 | (p0,v1,v202,v203) =>
 if v203 < (p0.sources.length:Int) then
  idx p0.sources v203>>=fun v603 =>
  app 64 v202 ([(⟨v603.name,v603.value⟩:Qm)]:List Qm)>>=fun v604 =>
  Y5 (p0,v1,v604,(W (v203+1)))
 else
 some v202
 partial_fixpoint
theorem Qb8:∀ x r,Y5 x=some r→match x with|(p0,v1,v202,v203)=>LQ f14 14 [1,1,0,1,0,0] 5 ⟨kp 27 [(1,(.ptr 0 0)),(2,(.ptr 1 0)),(3,(.ptr 3 0)),(4,(Qe v203))],[(Qda p0.core.kind p0.core.shape p0.core.buffer p0.core.starts p0.core.axis p0.core.amount p0.core.perm p0.core.kids p0.sources),Qgc,(.tok 86 v202.length),(.box [(Qe v1.kind),(La v1.shape),(Qe v1.buffer),(La v1.starts),(Qe v1.axis),(Qe v1.amount),(La v1.perm),(Qex v1.kids),(.vec 2 ((List.map Qm.toD) v202))]),(.tok 86 (([]:List Qm).length))]⟩ (P1 (.exit 0) (fun v602 d=>⟨sl d 27 [(2,(.ptr 1 0)),(3,(.ptr 3 0))],[(Qda p0.core.kind p0.core.shape p0.core.buffer p0.core.starts p0.core.axis p0.core.amount p0.core.perm p0.core.kids p0.sources),Qgc,(.tok 86 v602.length),(.box [(Qe v1.kind),(La v1.shape),(Qe v1.buffer),(La v1.starts),(Qe v1.axis),(Qe v1.amount),(La v1.perm),(Qex v1.kids),(.vec 2 ((List.map Qm.toD) v602))]),(.tok 86 (([]:List Qm).length))]⟩) r):=by
 refine Y5.partial_correctness _ (fun Y5 Qb8 x r hm=>?_)
 obtain ⟨p0,v1,v202,v203⟩:=x
 exact lp (Qg (gr 3 (QZ Ql.toD p0.sources (re 1 (ri hm (fun hm=>Qi (Qg (Qp (X0 (Qh 5 (Zj 3 Ql.toD hm fun v603 hm=>Qh 2 (bi hm fun v604 hx hm=>Xk 86 3 64 2 Qm.toD v202 ([(⟨v603.name,v603.value⟩:Qm)]:List Qm) v604 (xs:=(List.map Qm.toD) v202) (es:=(List.map Qm.toD) ([(⟨v603.name,v603.value⟩:Qm)]:List Qm)) (L:=(List.map Qm.toD)) (fun _=>rfl) rfl rfl Qm.fit hx (re 2 ⟨kr,R_G (re 3 (Qb8 _ _ hm _ kr))⟩)))))))) (fun hm=>QO zf))))))
def Qbr (x:Zl):Option Q5 :=
 match x with
 | p0 =>
 JK (⟨p0.core.kind,p0.core.shape,p0.core.buffer,p0.core.starts,p0.core.axis,p0.core.amount,p0.core.perm,p0.core.kids⟩:Qc)>>=fun v1 =>
 Y5 (p0,v1,([]:List Qm),0)>>=fun v602 =>
 some (⟨v1,v602⟩:Q5)
def Qen:Zl→Q5→Prop:=fun x r=>match x,r with
 | p0,r0=>∀ H,PC prog env 14 ([(Zl.toD p0)].map .dat) H (.dat (Q5.toD r0)) H
theorem QfP:∀ x r,Qbr x=some r→Qen x r:=by
 intro p0 r0 hm
 unfold Qbr at hm
 unfold Qen
 intro H
 refine PC_sx (ds:=[(Zl.toD p0)]) (fn:=f14) rfl ?_
 exact ge 2 (gr 2 (bi hm fun v1 hx hm=>YA (Qdq _ _ hx []) (re 3 (Qg (ge 1 (Qp (ru1 hm (Qb8 _) fun v602 d hm=>ge 2 (Qk zf))))))))
mutual
def Yj (x:(Qf × Qf × Int)):Option (Unit ⊕ Unit) :=
 match x with
 | (p0,p1,v211) =>
 if v211 < (p0.kids.length:Int) then
  idx p0.kids v211>>=fun v611 =>
  idx p1.kids v211>>=fun v612 =>
  JL (v611,v612)>>=fun v613 =>
  if v613=false then
   some (Sum.inl ())
  else
  Yj (p0,p1,(W (v211+1)))
 else
 some (Sum.inr ())
 partial_fixpoint
def JL (x:(Qf × Qf)):Option Bool :=
 match x with
 | (p0,p1) =>
 ((if p0.kind≠p1.kind then
  some true
 else
 some (p0.buffer != p1.buffer)
 )>>=fun (v2:Bool) =>
 (if v2=true then
  some true
 else
 some (p0.axis != p1.axis)
 )>>=fun (v3:Bool) =>
 (if v3=true then
  some true
 else
 some (p0.amount != p1.amount)
 )>>=fun (v4:Bool) =>
 (if v4=true then
  some true
 else
 some ((p0.kids.length:Int) != (p1.kids.length:Int))
 )>>=fun (v5:Bool) =>
 (if v5=true then
  some true
 else
 Xf (p0.shape,p1.shape)>>=fun v7 =>
 some (!v7)
 )>>=fun (v6:Bool) =>
 (if v6=true then
  some true
 else
 Xf (p0.starts,p1.starts)>>=fun v9 =>
 some (!v9)
 )>>=fun (v8:Bool) =>
 if v8=true then
  some true
 else
 Xf (p0.perm,p1.perm)>>=fun v10 =>
 some (!v10)
 )>>=fun (v1:Bool) =>
 if v1=true then
  some false
 else
 (
 Yj (p0,p1,0)>>=fun out =>
 match out with
 | .inl _ =>
  some false
 | .inr (_) =>
  some true
 )
 partial_fixpoint
end
def Qa6:(Qf × Qf × Int)→(Unit ⊕ Unit)→Prop:=fun x r=>match x with
 | (p0,p1,v211)=>LQ f26 26 [1,1,0,1,0,0] 2 ⟨kp 84 [(2,(.ptr 0 0)),(3,(.ptr 1 0)),(5,(Qe v211))],[(Zt p0.kind p0.shape p0.buffer p0.starts p0.axis p0.amount p0.perm p0.kids),(Zt p1.kind p1.shape p1.buffer p1.starts p1.axis p1.amount p1.perm p1.kids)]⟩ (P2 .ret (fun _ d=>⟨sl d 84 [(4,(Qo false))],[(Zt p0.kind p0.shape p0.buffer p0.starts p0.axis p0.amount p0.perm p0.kids),(Zt p1.kind p1.shape p1.buffer p1.starts p1.axis p1.amount p1.perm p1.kids)]⟩) (.exit 0) (fun _ d=>⟨sl d 84 [],[(Zt p0.kind p0.shape p0.buffer p0.starts p0.axis p0.amount p0.perm p0.kids),(Zt p1.kind p1.shape p1.buffer p1.starts p1.axis p1.amount p1.perm p1.kids)]⟩) r)
def Qcj:(Qf × Qf)→Bool→Prop:=fun x r=>match x,r with
 | (p0,p1),r0=>∀ H,PC prog env 26 ([(Qf.ex p0),(Qf.ex p1)].map .dat) H (Qo r0) H
theorem g_ref14_Same_L1:(∀ x r,Yj x=some r→Qa6 x r)∧(∀ x r,JL x=some r→Qcj x r):=by
 refine Yj.mutual_partial_correctness Qa6 Qcj ?_ ?_
 ·intro Yj JL Qbc Qds x r hm
  unfold Qa6
  obtain ⟨p0,p1,v211⟩:=x
  exact lp (Qg (gr 3 (QcI Qf.toD p0.kids (es:=Qf.toDs p0.kids) (Qf.toDs_eq _) (re 1 (ri hm (fun hm=>Qi (Qg (Qp (Qg (X0 (Qh 3 (bi hm fun v611 hx hm=>QbU 8 Qf.toD p0.kids v211 v611 (es:=Qf.toDs p0.kids) (d:=(Qf.ex v611)) (Qf.toDs_eq _) hx (Qf.toD_eq v611) rfl (Qh 4 (bi hm fun v612 hx hm=>QbU 8 Qf.toD p1.kids v211 v612 (es:=Qf.toDs p1.kids) (d:=(Qf.ex v612)) (Qf.toDs_eq _) hx (Qf.toD_eq v612) rfl (Qh 1 (bi hm fun v613 hx hm=>YA (Qds _ _ hx []) (re 1 ⟨kr,rin hm (fun hm=>ge 1 (Qk zf)) (fun hm=>Qi (R_G (re 3 (Qbc _ _ hm _ kr))))⟩)))))))))))) (fun hm=>QO zf))))))
 ·intro Yj Qbc x r0 hm
  unfold Qcj
  obtain ⟨p0,p1⟩:=x
  intro H
  refine PC_sx (ds:=[(Qf.ex p0),(Qf.ex p1)]) (fn:=f26) rfl ?_
  exact ge 3 (Qg (Qg (bi hm fun v1 hs hm=>Ze (fun d=>⟨sl d 84 [(2,(.ptr 0 0)),(3,(.ptr 1 0)),(64,(Qo v1))],[(Zt p0.kind p0.shape p0.buffer p0.starts p0.axis p0.amount p0.perm p0.kids),(Zt p1.kind p1.shape p1.buffer p1.starts p1.axis p1.amount p1.perm p1.kids)]⟩) (have hm:=hs;Qc8 (Qh 6 (bi hm fun v2 hs hm=>Yu (j:=12) (fun d=>⟨sl d 84 [(2,(.ptr 0 0)),(3,(.ptr 1 0)),(17,(Qo v2))],[(Zt p0.kind p0.shape p0.buffer p0.starts p0.axis p0.amount p0.perm p0.kids),(Zt p1.kind p1.shape p1.buffer p1.starts p1.axis p1.amount p1.perm p1.kids)]⟩) (fun d=>Qh 1 (bi hm fun v3 hs hm=>Yu (j:=19) (fun d=>⟨sl d 84 [(2,(.ptr 0 0)),(3,(.ptr 1 0)),(24,(Qo v3))],[(Zt p0.kind p0.shape p0.buffer p0.starts p0.axis p0.amount p0.perm p0.kids),(Zt p1.kind p1.shape p1.buffer p1.starts p1.axis p1.amount p1.perm p1.kids)]⟩) (fun d=>Qh 1 (bi hm fun v4 hs hm=>Yu (j:=26) (fun d=>⟨sl d 84 [(2,(.ptr 0 0)),(3,(.ptr 1 0)),(31,(Qo v4))],[(Zt p0.kind p0.shape p0.buffer p0.starts p0.axis p0.amount p0.perm p0.kids),(Zt p1.kind p1.shape p1.buffer p1.starts p1.axis p1.amount p1.perm p1.kids)]⟩) (fun d=>Qh 1 (bi hm fun v5 hs hm=>Yu (j:=35) (fun d=>⟨sl d 84 [(2,(.ptr 0 0)),(3,(.ptr 1 0)),(40,(Qo v5))],[(Zt p0.kind p0.shape p0.buffer p0.starts p0.axis p0.amount p0.perm p0.kids),(Zt p1.kind p1.shape p1.buffer p1.starts p1.axis p1.amount p1.perm p1.kids)]⟩) (fun d=>Qh 1 (bi hm fun v6 hs hm=>Yu (j:=43) (fun d=>⟨sl d 84 [(2,(.ptr 0 0)),(3,(.ptr 1 0)),(48,(Qo v6))],[(Zt p0.kind p0.shape p0.buffer p0.starts p0.axis p0.amount p0.perm p0.kids),(Zt p1.kind p1.shape p1.buffer p1.starts p1.axis p1.amount p1.perm p1.kids)]⟩) (fun d=>Qh 1 (bi hm fun v8 hs hm=>Yu (j:=51) (fun d=>⟨sl d 84 [(2,(.ptr 0 0)),(3,(.ptr 1 0)),(56,(Qo v8))],[(Zt p0.kind p0.shape p0.buffer p0.starts p0.axis p0.amount p0.perm p0.kids),(Zt p1.kind p1.shape p1.buffer p1.starts p1.axis p1.amount p1.perm p1.kids)]⟩) (fun d=>Qh 1 (gsb 57 hm (fun hm=>re 7 ⟨kr,zf⟩) (fun hm=>Qh 4 (bi hm fun v10 hx hm=>cp (Qa2 hx) (re 2 ⟨kr,zf⟩))))) (fun hJ=>gsb 49 hs (fun hm=>Qh 7 zf) (fun hm=>Qh 4 (bi hm fun v9 hx hm=>cp (Qa2 hx) (Qh 2 zf)))))) (fun hJ=>gsb 41 hs (fun hm=>Qh 7 zf) (fun hm=>Qh 4 (bi hm fun v7 hx hm=>cp (Qa2 hx) (Qh 2 zf)))))) (fun hJ=>gsb 32 hs (fun hm=>Qh 8 zf) (fun hm=>Qh 2 (QcI Qf.toD p0.kids (es:=Qf.toDs p0.kids) (Qf.toDs_eq _) (Qh 2 (QcI Qf.toD p1.kids (es:=Qf.toDs p1.kids) (Qf.toDs_eq _) (Qh 2 zf)))))))) (fun hJ=>gsb 25 hs (fun hm=>Qh 6 zf) (fun hm=>Qh 6 zf)))) (fun hJ=>gsb 18 hs (fun hm=>Qh 6 zf) (fun hm=>Qh 6 zf)))) (fun hJ=>gsx 11 hs (fun hm=>Qh 6 zf) (fun hm=>Qh 6 zf))))) (fun d=>rib hm (fun hm=>ge 1 (Qk zf)) (fun hm=>Qi (Qg (ge 1 (Qp (ru2 hm (Qbc _) (fun _ d hm=>zf) fun _ d hm=>ge 1 (Qk zf))))))))))
theorem Qbc:∀ x r,Yj x=some r→Qa6 x r:=g_ref14_Same_L1.1
theorem Qds:∀ x r,JL x=some r→Qcj x r:=g_ref14_Same_L1.2
def YI (x:(Qq × Qq × Int)):Option (Unit ⊕ Unit) :=
 match x with
 | (p0,p1,v203) =>
 if v203 < (p0.data.length:Int) then
  idx p0.data v203>>=fun v603 =>
  idx p1.data v203>>=fun v604 =>
  if v603≠v604 then
   some (Sum.inl ())
  else
  YI (p0,p1,(W (v203+1)))
 else
 some (Sum.inr ())
 partial_fixpoint
theorem QbG:∀ x r,YI x=some r→match x with|(p0,p1,v203)=>LQ f54 54 [1,1,0,1,0,0] 2 ⟨kp 39 [(2,(.ptr 0 0)),(3,(.ptr 1 0)),(5,(Qe v203))],[(Qak p0.shape p0.data),(Qak p1.shape p1.data)]⟩ (P2 .ret (fun _ d=>⟨sl d 39 [(4,(Qo false))],[(Qak p0.shape p0.data),(Qak p1.shape p1.data)]⟩) (.exit 0) (fun _ d=>⟨sl d 39 [],[(Qak p0.shape p0.data),(Qak p1.shape p1.data)]⟩) r):=by
 refine YI.partial_correctness _ (fun YI QbG x r hm=>?_)
 obtain ⟨p0,p1,v203⟩:=x
 exact lp (Qg (gr 3 (QZ Qj p0.data (re 1 (ri hm (fun hm=>Qi (Qg (Qp (Qg (X0 (Qh 3 (Zj 1 Qj hm fun v603 hm=>Qh 4 (Zj 1 Qj hm fun v604 hm=>re 2 ⟨kr,rix hm (fun hm=>ge 1 (Qk zf)) (fun hm=>Qi (R_G (re 3 (QbG _ _ hm _ kr))))⟩)))))))) (fun hm=>QO zf))))))
def QaX (x:(Qq × Qq)):Option Bool :=
 match x with
 | (p0,p1) =>
 (Xf (p0.shape,p1.shape)>>=fun (v2:Bool) =>
 if v2=false then
  some true
 else
 some ((p0.data.length:Int) != (p1.data.length:Int))
 )>>=fun (v1:Bool) =>
 if v1=true then
  some false
 else
 (
 YI (p0,p1,0)>>=fun out =>
 match out with
 | .inl _ =>
  some false
 | .inr (_) =>
  some true
 )
theorem QfG {p0 p1 r0} (hm:QaX (p0,p1)=some r0):FQ 54 [(Qq.toD p0),(Qq.toD p1)] (Qo r0):=by
 unfold QaX at hm
 exact fp (fn:=f54) rfl (ge 3 (Qg (Qg (bi hm fun v1 hs hm=>Ze (fun d=>⟨sl d 39 [(2,(.ptr 0 0)),(3,(.ptr 1 0)),(20,(Qo v1))],[(Qak p0.shape p0.data),(Qak p1.shape p1.data)]⟩) (have hm:=hs;R_G (Qh 4 (bi hm fun v2 hx hm=>cp (Qa2 hx) (Qh 2 (gsn 12 hm (fun hm=>re 8 zf) (fun hm=>Qh 2 (QZ Qj p0.data (Qh 2 (QZ Qj p1.data (re 2 zf)))))))))) (fun d=>rib hm (fun hm=>ge 1 (Qk zf)) (fun hm=>Qi (Qg (ge 1 (Qp (ru2 hm (QbG _) (fun _ d hm=>zf) fun _ d hm=>ge 1 (Qk zf)))))))))))
def ZG (x:((List Qm) × (List Qm) × Int)):Option (Unit ⊕ Unit) :=
 match x with
 | (p0,p1,v201) =>
 if v201 < (p0.length:Int) then
  (idx p0 v201>>=fun v602 =>
  idx p1 v201>>=fun v603 =>
  if v602.name≠v603.name then
   some true
  else
  idx p0 v201>>=fun v604 =>
  idx p1 v201>>=fun v605 =>
  QaX (v604.value,v605.value)>>=fun v606 =>
  some (!v606)
  )>>=fun (v601:Bool) =>
  if v601=true then
   some (Sum.inl ())
  else
  ZG (p0,p1,(W (v201+1)))
 else
 some (Sum.inr ())
 partial_fixpoint
theorem JQ:∀ x r,ZG x=some r→match x with|(p0,p1,v201)=>LQ f27 27 [1,1,0,1,0,0] 0 ⟨kp 42 [(0,(X7 p0)),(1,(X7 p1)),(5,(Qe v201))],[]⟩ (P2 .ret (fun _ d=>⟨sl d 42 [(4,(Qo false))],[]⟩) (.exit 0) (fun _ d=>⟨sl d 42 [],[]⟩) r):=by
 refine ZG.partial_correctness _ (fun ZG JQ x r hm=>?_)
 obtain ⟨p0,p1,v201⟩:=x
 exact lp (Qg (gr 2 (QZ Qm.toD p0 (re 1 (ri hm (fun hm=>Qi (Qg (Qp (Qg (bi hm fun v601 hs hm=>Ze (fun d=>⟨sl d 42 [(0,(X7 p0)),(1,(X7 p1)),(5,(Qe v201)),(41,(Qo v601))],[]⟩) (have hm:=hs;X0 (Qh 2 (Zj 3 Qm.toD hm fun v602 hm=>Qh 4 (Zj 3 Qm.toD hm fun v603 hm=>Qh 2 (QT rfl (fun _=>QeY (a:=v602.name) (b:=v603.name) rfl kr kr) (Qh 1 (gs 28 hm (fun hm=>re 13 ⟨kr,zf⟩) (fun hm=>Qh 2 (Zj 3 Qm.toD hm fun v604 hm=>Qh 4 (Zj 3 Qm.toD hm fun v605 hm=>Qh 2 (bi hm fun v606 hx hm=>cp (QfG hx) (re 2 ⟨kr,zf⟩)))))))))))) (fun d=>rib hm (fun hm=>ge 1 (Qk zf)) (fun hm=>Qi (R_G (re 3 (JQ _ _ hm _ kr)))))))))) (fun hm=>QO zf))))))
def Jp (x:((List Qm) × (List Qm))):Option Bool :=
 match x with
 | (p0,p1) =>
 if (p0.length:Int)≠(p1.length:Int) then
  some false
 else
 (
 ZG (p0,p1,0)>>=fun out =>
 match out with
 | .inl _ =>
  some false
 | .inr (_) =>
  some true
 )
theorem Qd4 {p0 p1 r0} (hm:Jp (p0,p1)=some r0):FQ 27 [(.lst ((List.map Qm.toD) p0)),(.lst ((List.map Qm.toD) p1))] (Qo r0):=by
 unfold Jp at hm
 exact fp (fn:=f27) rfl (ge 1 (Qg (gr 1 (QZ Qm.toD p0 (Qh 1 (QZ Qm.toD p1 (re 1 (rix hm (fun hm=>ge 1 (Qk zf)) (fun hm=>Qi (Qg (ge 1 (Qp (ru2 hm (JQ _) (fun _ d hm=>zf) fun _ d hm=>ge 1 (Qk zf))))))))))))))
def Qbw (x:(Q5 × Q5)):Option Bool :=
 match x with
 | (p0,p1) =>
 JL ((⟨p0.core.kind,p0.core.shape,p0.core.buffer,p0.core.starts,p0.core.axis,p0.core.amount,p0.core.perm,p0.core.kids⟩:Qf),(⟨p1.core.kind,p1.core.shape,p1.core.buffer,p1.core.starts,p1.core.axis,p1.core.amount,p1.core.perm,p1.core.kids⟩:Qf))>>=fun v1 =>
 if v1=true then
  Jp (p0.sources,p1.sources)>>=fun v2 =>
  some v2
 else
 some false
theorem QfV {p0 p1 r0} (hm:Qbw (p0,p1)=some r0):FQ 13 [(Q5.toD p0),(Q5.toD p1)] (Qo r0):=by
 unfold Qbw at hm
 exact fp (fn:=f13) rfl (ge 3 (gr 4 (bi hm fun v1 hx hm=>YA (Qds _ _ hx []) (Qh 1 (gsb 10 hm (fun hm=>Qh 4 (bi hm fun v2 hx hm=>cp (Qd4 hx) (re 2 (Qk zf)))) (fun hm=>re 7 (Qk zf)))))))
mutual
def Qs (x:((List Qc) × (List Qc) × Int)):Option ((Int × (List Int) × Int × (List Int) × Int × Int × (List Int) × (List Qc) × Int × (List Int) × Int × (List Int) × Int × Int × (List Int) × (List Qc)) ⊕ Unit) :=
 match x with
 | (p0,p1,v201) =>
 if v201 < (p0.length:Int) then
  idx p0 v201>>=fun v617 =>
  idx p1 v201>>=fun v618 =>
  Qao (v617,v618)>>=fun v619 =>
  if v619=false then
   some (Sum.inl (v617.kind,v617.shape,v617.buffer,v617.starts,v617.axis,v617.amount,v617.perm,v617.kids,v618.kind,v618.shape,v618.buffer,v618.starts,v618.axis,v618.amount,v618.perm,v618.kids))
  else
  Qs (p0,p1,(W (v201+1)))
 else
 some (Sum.inr ())
 partial_fixpoint
def QC (x:((List Qc) × (List Qc))):Option Bool :=
 match x with
 | (p0,p1) =>
 if (p0.length:Int)≠(p1.length:Int) then
  some false
 else
 (
 Qs (p0,p1,0)>>=fun out =>
 match out with
 | .inl (v601,v602,v603,v604,v605,v606,v607,v608,v609,v610,v611,v612,v613,v614,v615,v616) =>
  some false
 | .inr (_) =>
  some true
 )
 partial_fixpoint
def Qao (x:(Qc × Qc)):Option Bool :=
 match x with
 | (p0,p1) =>
 (if p0.kind=p1.kind then
  YT (p0.shape,p1.shape)>>=fun v2 =>
  some v2
 else
 some false
 )>>=fun (v1:Bool) =>
 (if v1=true then
  some (p0.buffer == p1.buffer)
 else
 some false
 )>>=fun (v3:Bool) =>
 (if v3=true then
  ZH (p0.starts,p1.starts)>>=fun v5 =>
  some v5
 else
 some false
 )>>=fun (v4:Bool) =>
 (if v4=true then
  some (p0.axis == p1.axis)
 else
 some false
 )>>=fun (v6:Bool) =>
 (if v6=true then
  some (p0.amount == p1.amount)
 else
 some false
 )>>=fun (v7:Bool) =>
 (if v7=true then
  ZH (p0.perm,p1.perm)>>=fun v9 =>
  some v9
 else
 some false
 )>>=fun (v8:Bool) =>
 if v8=true then
  QC (p0.kids,p1.kids)>>=fun v10 =>
  some v10
 else
 some false
 partial_fixpoint
end
def QI:((List Qc) × (List Qc) × Int)→((Int × (List Int) × Int × (List Int) × Int × Int × (List Int) × (List Qc) × Int × (List Int) × Int × (List Int) × Int × Int × (List Int) × (List Qc)) ⊕ Unit)→Prop:=fun x r=>match x with
 | (p0,p1,v201)=>LQ f57 57 [1,1,0,1,0,0] 0 ⟨kp 32 [(1,(Xa p1)),(2,(.dat (.raw (.func (.func 29) #[] #[])))),(15,(Xa p0)),(16,(Qe (p0.length:Int))),(17,(Qe v201))],[]⟩ (P2 .ret (fun (v601,v602,v603,v604,v605,v606,v607,v608,v609,v610,v611,v612,v613,v614,v615,v616) d=>⟨sl d 32 [(6,(Qo false))],[(.box [(Qe v601),(La v602),(Qe v603),(La v604),(Qe v605),(Qe v606),(La v607),(Xa v608)]),(.box [(Qe v609),(La v610),(Qe v611),(La v612),(Qe v613),(Qe v614),(La v615),(Xa v616)])]⟩) (.exit 0) (fun _ d=>⟨sl d 32 [],[]⟩) r)
def QK:((List Qc) × (List Qc))→Bool→Prop:=fun x r=>match x,r with
 | (p0,p1),r0=>∀ H,PC prog env 57 ([(.lst (Qc.toDs p0)),(.lst (Qc.toDs p1)),(.raw (.func (.func 29) #[] #[]))].map .dat) H (Qo r0) H
def QcJ:(Qc × Qc)→Bool→Prop:=fun x r=>match x,r with
 | (p0,p1),r0=>∀ H,PC prog env 29 ([(Qc.ex p0),(Qc.ex p1)].map .dat) H (Qo r0) H
theorem g_slices_EqualFunc_core_Core_core_Core_core_Core_core_Core_core_Same_L1:(∀ x r,Qs x=some r→QI x r)∧(∀ x r,Qao x=some r→QcJ x r)∧(∀ x r,QC x=some r→QK x r):=by
 refine Qs.mutual_partial_correctness QI QcJ QK ?_ ?_ ?_
 ·intro Qs Qao QJ QdO x r hm
  unfold QI
  obtain ⟨p0,p1,v201⟩:=x
  exact lp (ge 1 (Qg (ri hm (fun hm=>Qi (Qg (Qp (gr 1 (bi hm fun v617 hx hm=>QbU 8 Qc.toD p0 v201 v617 (es:=Qc.toDs p0) (d:=(Qc.ex v617)) (Qc.toDs_eq _) hx (Qc.toD_eq v617) rfl (re 4 (gr 2 (bi hm fun v618 hx hm=>QbU 8 Qc.toD p1 v201 v618 (es:=Qc.toDs p1) (d:=(Qc.ex v618)) (Qc.toDs_eq _) hx (Qc.toD_eq v618) rfl (re 3 (gr 3 (bi hm fun v619 hx hm=>YA (QdO _ _ hx []) (re 1 (rin hm (fun hm=>ge 1 (Qk zf)) (fun hm=>Qi (R_G (re 2 (QJ _ _ hm _ kr))))))))))))))))) (fun hm=>QO zf))))
 ·intro QC Zp x r0 hm
  unfold QcJ
  obtain ⟨p0,p1⟩:=x
  intro H
  refine PC_sx (ds:=[(Qc.ex p0),(Qc.ex p1)]) (fn:=f29) rfl ?_
  exact ge 3 (Qg (Qc8 (Qh 6 (bi hm fun v1 hs hm=>Yu (j:=12) (fun d=>⟨sl d 59 [(2,(.ptr 0 0)),(3,(.ptr 1 0)),(4,(Qo false)),(16,(Qo v1))],[(.box [(Qe p0.kind),(La p0.shape),(Qe p0.buffer),(La p0.starts),(Qe p0.axis),(Qe p0.amount),(La p0.perm),(Xa p0.kids)]),(.box [(Qe p1.kind),(La p1.shape),(Qe p1.buffer),(La p1.starts),(Qe p1.axis),(Qe p1.amount),(La p1.perm),(Xa p1.kids)])]⟩) (fun d=>Qh 1 (bi hm fun v3 hs hm=>Yu (j:=19) (fun d=>⟨sl d 59 [(2,(.ptr 0 0)),(3,(.ptr 1 0)),(4,(Qo false)),(23,(Qo v3))],[(.box [(Qe p0.kind),(La p0.shape),(Qe p0.buffer),(La p0.starts),(Qe p0.axis),(Qe p0.amount),(La p0.perm),(Xa p0.kids)]),(.box [(Qe p1.kind),(La p1.shape),(Qe p1.buffer),(La p1.starts),(Qe p1.axis),(Qe p1.amount),(La p1.perm),(Xa p1.kids)])]⟩) (fun d=>Qh 1 (bi hm fun v4 hs hm=>Yu (j:=26) (fun d=>⟨sl d 59 [(2,(.ptr 0 0)),(3,(.ptr 1 0)),(4,(Qo false)),(30,(Qo v4))],[(.box [(Qe p0.kind),(La p0.shape),(Qe p0.buffer),(La p0.starts),(Qe p0.axis),(Qe p0.amount),(La p0.perm),(Xa p0.kids)]),(.box [(Qe p1.kind),(La p1.shape),(Qe p1.buffer),(La p1.starts),(Qe p1.axis),(Qe p1.amount),(La p1.perm),(Xa p1.kids)])]⟩) (fun d=>Qh 1 (bi hm fun v6 hs hm=>Yu (j:=33) (fun d=>⟨sl d 59 [(2,(.ptr 0 0)),(3,(.ptr 1 0)),(4,(Qo false)),(37,(Qo v6))],[(.box [(Qe p0.kind),(La p0.shape),(Qe p0.buffer),(La p0.starts),(Qe p0.axis),(Qe p0.amount),(La p0.perm),(Xa p0.kids)]),(.box [(Qe p1.kind),(La p1.shape),(Qe p1.buffer),(La p1.starts),(Qe p1.axis),(Qe p1.amount),(La p1.perm),(Xa p1.kids)])]⟩) (fun d=>Qh 1 (bi hm fun v7 hs hm=>Yu (j:=40) (fun d=>⟨sl d 59 [(2,(.ptr 0 0)),(3,(.ptr 1 0)),(4,(Qo false)),(44,(Qo v7))],[(.box [(Qe p0.kind),(La p0.shape),(Qe p0.buffer),(La p0.starts),(Qe p0.axis),(Qe p0.amount),(La p0.perm),(Xa p0.kids)]),(.box [(Qe p1.kind),(La p1.shape),(Qe p1.buffer),(La p1.starts),(Qe p1.axis),(Qe p1.amount),(La p1.perm),(Xa p1.kids)])]⟩) (fun d=>Qh 1 (bi hm fun v8 hs hm=>Yu (j:=47) (fun d=>⟨sl d 59 [(2,(.ptr 0 0)),(3,(.ptr 1 0)),(4,(Qo false)),(51,(Qo v8))],[(.box [(Qe p0.kind),(La p0.shape),(Qe p0.buffer),(La p0.starts),(Qe p0.axis),(Qe p0.amount),(La p0.perm),(Xa p0.kids)]),(.box [(Qe p1.kind),(La p1.shape),(Qe p1.buffer),(La p1.starts),(Qe p1.axis),(Qe p1.amount),(La p1.perm),(Xa p1.kids)])]⟩) (fun d=>Qh 1 (gsb 52 hm (fun hm=>Qh 4 (bi hm fun v10 hx hm=>YA (Zp _ _ hx []) (re 2 ⟨kr,Qk zf⟩))) (fun hm=>re 7 ⟨kr,Qk zf⟩))) (fun hJ=>gsb 45 hs (fun hm=>Qh 4 (bi hm fun v9 hx hm=>cp (JT hx) (Qh 1 zf))) (fun hm=>Qh 6 zf)))) (fun hJ=>gsb 38 hs (fun hm=>Qh 6 zf) (fun hm=>Qh 6 zf)))) (fun hJ=>gsb 31 hs (fun hm=>Qh 6 zf) (fun hm=>Qh 6 zf)))) (fun hJ=>gsb 24 hs (fun hm=>Qh 4 (bi hm fun v5 hx hm=>cp (JT hx) (Qh 1 zf))) (fun hm=>Qh 6 zf)))) (fun hJ=>gsb 17 hs (fun hm=>Qh 6 zf) (fun hm=>Qh 6 zf)))) (fun hJ=>gsq 10 hs (fun hm=>Qh 4 (bi hm fun v2 hx hm=>cp (QbT hx) (Qh 1 zf))) (fun hm=>Qh 6 zf))))))
 ·intro Qs QJ x r0 hm
  unfold QK
  obtain ⟨p0,p1⟩:=x
  intro H
  refine PC_sx (ds:=[(.lst (Qc.toDs p0)),(.lst (Qc.toDs p1)),(.raw (.func (.func 29) #[] #[]))]) (fn:=f57) rfl ?_
  exact ge 1 (Qg (gr 1 (QcI Qc.toD p0 (es:=Qc.toDs p0) (Qc.toDs_eq _) (Qh 1 (QcI Qc.toD p1 (es:=Qc.toDs p1) (Qc.toDs_eq _) (re 1 (rix hm (fun hm=>ge 1 (Qk zf)) (fun hm=>Qi (Qg (gr 1 (QcI Qc.toD p0 (es:=Qc.toDs p0) (Qc.toDs_eq _) (re 1 (Qp (ru2 hm (QJ _) (fun ⟨v601,v602,v603,v604,v605,v606,v607,v608,v609,v610,v611,v612,v613,v614,v615,v616⟩ d hm=>zf) fun _ d hm=>ge 1 (Qk zf)))))))))))))))
theorem QJ:∀ x r,Qs x=some r→QI x r:=g_slices_EqualFunc_core_Core_core_Core_core_Core_core_Core_core_Same_L1.1
theorem QdO:∀ x r,Qao x=some r→QcJ x r:=g_slices_EqualFunc_core_Core_core_Core_core_Core_core_Core_core_Same_L1.2.1
theorem Zp:∀ x r,QC x=some r→QK x r:=g_slices_EqualFunc_core_Core_core_Core_core_Core_core_Core_core_Same_L1.2.2
def Q6 (x:((List Int) × (List Int) × Int)):Option (Unit ⊕ Unit) :=
 match x with
 | (p0,p1,v201) =>
 if v201 < (p0.length:Int) then
  idx p0 v201>>=fun v601 =>
  idx p1 v201>>=fun v602 =>
  if v601≠v602 then
   some (Sum.inl ())
  else
  Q6 (p0,p1,(W (v201+1)))
 else
 some (Sum.inr ())
 partial_fixpoint
theorem Xr:∀ x r,Q6 x=some r→match x with|(p0,p1,v201)=>LQ f58 58 [1,1,0,1,0,0] 0 ⟨kp 26 [(0,(La p0)),(1,(La p1)),(12,(Qe (p0.length:Int))),(13,(Qe v201))],[]⟩ (P2 .ret (fun _ d=>⟨sl d 26 [(4,(Qo false))],[]⟩) (.exit 0) (fun _ d=>⟨sl d 26 [],[]⟩) r):=by
 refine Q6.partial_correctness _ (fun Q6 Xr x r hm=>?_)
 obtain ⟨p0,p1,v201⟩:=x
 exact lp (ge 1 (Qg (ri hm (fun hm=>Qi (Qg (Qp (ge 2 (Qg (X0 (Qh 2 (Zj 1 Qj hm fun v601 hm=>Qh 3 (Zj 1 Qj hm fun v602 hm=>re 2 ⟨kr,rix hm (fun hm=>ge 1 (Qk zf)) (fun hm=>Qi (R_G (re 2 (Xr _ _ hm _ kr))))⟩))))))))) (fun hm=>QO zf))))
def Y2 (x:((List Int) × (List Int))):Option Bool :=
 match x with
 | (p0,p1) =>
 if (p0.length:Int)≠(p1.length:Int) then
  some false
 else
 (
 Q6 (p0,p1,0)>>=fun out =>
 match out with
 | .inl _ =>
  some false
 | .inr (_) =>
  some true
 )
theorem QcE {p0 p1 r0} (hm:Y2 (p0,p1)=some r0):FQ 58 [(Lb p0),(Lb p1)] (Qo r0):=by
 unfold Y2 at hm
 exact fp (fn:=f58) rfl (ge 1 (Qg (gr 1 (QZ Qj p0 (Qh 1 (QZ Qj p1 (re 1 (rix hm (fun hm=>ge 1 (Qk zf)) (fun hm=>Qi (Qg (gr 1 (QZ Qj p0 (re 1 (Qp (ru2 hm (Xr _) (fun _ d hm=>zf) fun _ d hm=>ge 1 (Qk zf))))))))))))))))
def QaU (x:(Qq × Qq)):Option Bool :=
 match x with
 | (p0,p1) =>
 YT (p0.shape,p1.shape)>>=fun v1 =>
 if v1=true then
  Y2 (p0.data,p1.data)>>=fun v2 =>
  some v2
 else
 some false
theorem QfC {p0 p1 r0} (hm:QaU (p0,p1)=some r0):FQ 32 [(Qq.toD p0),(Qq.toD p1)] (Qo r0):=by
 unfold QaU at hm
 exact fp (fn:=f32) rfl (ge 3 (gr 4 (bi hm fun v1 hx hm=>cp (QbT hx) (Qh 1 (gsb 10 hm (fun hm=>Qh 4 (bi hm fun v2 hx hm=>cp (QcE hx) (re 2 (Qk zf)))) (fun hm=>re 7 (Qk zf)))))))
def QaV (x:(Ql × Ql)):Option Bool :=
 match x with
 | (p0,p1) =>
 if p0.name=p1.name then
  QaU ((⟨p0.value.shape,p0.value.data⟩:Qq),(⟨p1.value.shape,p1.value.data⟩:Qq))>>=fun v1 =>
  some v1
 else
 some false
theorem QfD {p0 p1 r0} (hm:QaV (p0,p1)=some r0):FQ 31 [(Ql.toD p0),(Ql.toD p1)] (Qo r0):=by
 unfold QaV at hm
 exact fp (fn:=f31) rfl (ge 3 (gr 4 (QT rfl (fun _=>QaO (a:=p0.name) (b:=p1.name) rfl kr kr) (Qh 1 (gs 10 hm (fun hm=>Qh 4 (bi hm fun v1 hx hm=>cp (QfC hx) (re 2 (Qk zf)))) (fun hm=>re 7 (Qk zf)))))))
def Qu (x:((List Ql) × (List Ql) × Int)):Option ((ByteArray × (List Int) × (List Int) × ByteArray × (List Int) × (List Int)) ⊕ Unit) :=
 match x with
 | (p0,p1,v201) =>
 if v201 < (p0.length:Int) then
  idx p0 v201>>=fun v607 =>
  idx p1 v201>>=fun v608 =>
  QaV (v607,v608)>>=fun v609 =>
  if v609=false then
   some (Sum.inl (v607.name,v607.value.shape,v607.value.data,v608.name,v608.value.shape,v608.value.data))
  else
  Qu (p0,p1,(W (v201+1)))
 else
 some (Sum.inr ())
 partial_fixpoint
theorem QP:∀ x r,Qu x=some r→match x with|(p0,p1,v201)=>LQ f30 30 [1,1,0,1,0,0] 0 ⟨kp 32 [(1,(Qgg p1)),(2,(.dat (.raw (.func (.func 31) #[] #[])))),(15,(Qgg p0)),(16,(Qe (p0.length:Int))),(17,(Qe v201))],[]⟩ (P2 .ret (fun (v601,v602,v603,v604,v605,v606) d=>⟨sl d 32 [(6,(Qo false))],[(Qal v601 v602 v603),(Qal v604 v605 v606)]⟩) (.exit 0) (fun _ d=>⟨sl d 32 [],[]⟩) r):=by
 refine Qu.partial_correctness _ (fun Qu QP x r hm=>?_)
 obtain ⟨p0,p1,v201⟩:=x
 exact lp (ge 1 (Qg (ri hm (fun hm=>Qi (Qg (Qp (gr 1 (Zj 3 Ql.toD hm fun v607 hm=>re 4 (gr 2 (Zj 3 Ql.toD hm fun v608 hm=>re 3 (gr 3 (bi hm fun v609 hx hm=>cp (QfD hx) (re 1 (rin hm (fun hm=>ge 1 (Qk zf)) (fun hm=>Qi (R_G (re 2 (QP _ _ hm _ kr))))))))))))))) (fun hm=>QO zf))))
def QG (x:((List Ql) × (List Ql))):Option Bool :=
 match x with
 | (p0,p1) =>
 if (p0.length:Int)≠(p1.length:Int) then
  some false
 else
 (
 Qu (p0,p1,0)>>=fun out =>
 match out with
 | .inl (v601,v602,v603,v604,v605,v606) =>
  some false
 | .inr (_) =>
  some true
 )
theorem Z5 {p0 p1 r0} (hm:QG (p0,p1)=some r0):FQ 30 [(.lst ((List.map Ql.toD) p0)),(.lst ((List.map Ql.toD) p1)),(.raw (.func (.func 31) #[] #[]))] (Qo r0):=by
 unfold QG at hm
 exact fp (fn:=f30) rfl (ge 1 (Qg (gr 1 (QZ Ql.toD p0 (Qh 1 (QZ Ql.toD p1 (re 1 (rix hm (fun hm=>ge 1 (Qk zf)) (fun hm=>Qi (Qg (gr 1 (QZ Ql.toD p0 (re 1 (Qp (ru2 hm (QP _) (fun ⟨v601,v602,v603,v604,v605,v606⟩ d hm=>zf) fun _ d hm=>ge 1 (Qk zf))))))))))))))))
def QbX (x:(Zl × Zl)):Option Bool :=
 match x with
 | (p0,p1) =>
 Qao ((⟨p0.core.kind,p0.core.shape,p0.core.buffer,p0.core.starts,p0.core.axis,p0.core.amount,p0.core.perm,p0.core.kids⟩:Qc),(⟨p1.core.kind,p1.core.shape,p1.core.buffer,p1.core.starts,p1.core.axis,p1.core.amount,p1.core.perm,p1.core.kids⟩:Qc))>>=fun v1 =>
 if v1=true then
  QG (p0.sources,p1.sources)>>=fun v2 =>
  some v2
 else
 some false
theorem Qgk {p0 p1 r0} (hm:QbX (p0,p1)=some r0):FQ 15 [(Zl.toD p0),(Zl.toD p1)] (Qo r0):=by
 unfold QbX at hm
 exact fp (fn:=f15) rfl (ge 3 (gr 4 (bi hm fun v1 hx hm=>YA (QdO _ _ hx []) (Qh 1 (gsb 10 hm (fun hm=>Qh 4 (bi hm fun v2 hx hm=>cp (Z5 hx) (re 2 (Qk zf)))) (fun hm=>re 7 (Qk zf)))))))
def ZE (x:((List Qb) × (List ByteArray) × Qa × (List Qb) × Int)):Option ((List Qb)) :=
 match x with
 | (p0,v11,v1,v212,v213) =>
 if v213 < (p0.length:Int) then
  idx p0 v213>>=fun v613 =>
  QbC (v613.name,v11)>>=fun v614 =>
  if v614=true then
   idx p0 v213>>=fun v615 =>
   app 64 v212 ([v615]:List Qb)>>=fun v616 =>
   ZE (p0,v11,v1,v616,(W (v213+1)))
  else
  ZE (p0,v11,v1,v212,(W (v213+1)))
 else
 some v212
 partial_fixpoint
theorem Jg:∀ x r,ZE x=some r→match x with|(p0,v11,v1,v212,v213)=>LQ f3 3 [1,1,1,1,1,0,1,0,0] 2 ⟨kp 114 [(0,(YG p0)),(5,(.ptr 0 0)),(7,(QdM v11)),(8,(Qet v212)),(9,(Qe v213))],[(Q0 v1.kind v1.fn v1.axis v1.name v1.nums v1.kids),(.tok 39 v212.length)]⟩ (P1 (.exit 0) (fun v612 d=>⟨sl d 114 [(0,(YG p0)),(5,(.ptr 0 0)),(8,(Qet v612))],[(Q0 v1.kind v1.fn v1.axis v1.name v1.nums v1.kids),(.tok 39 v612.length)]⟩) r):=by
 refine ZE.partial_correctness _ (fun ZE Jg x r hm=>?_)
 obtain ⟨p0,v11,v1,v212,v213⟩:=x
 exact lp (Qg (gr 2 (QZ Qb.toD p0 (re 1 (ri hm (fun hm=>Qi (Qg (Qp (gr 2 (Zj 3 Qb.toD hm fun v613 hm=>Qh 3 (bi hm fun v614 hx hm=>cp (Qfs hx) (Y9 (rib hm (fun hm=>R_G (Qh 3 (Zj 3 Qb.toD hm fun v615 hm=>Qh 2 (bi hm fun v616 hx hm=>Xk 39 3 64 1 Qb.toD v212 ([v615]:List Qb) v616 (xs:=(List.map Qb.toD) v212) (es:=(List.map Qb.toD) ([v615]:List Qb)) (L:=(List.map Qb.toD)) (fun _=>rfl) rfl rfl Qb.fit hx (re 1 (R_G (re 3 (Jg _ _ hm _ kr)))))))) (fun hm=>Qi (R_G (re 3 (Jg _ _ hm _ kr)))))))))))) (fun hm=>QO zf))))))
def J6 (x:((List Qb) × ByteArray)):Option Bool :=
 match x with
 | (p0,p1) =>
 Qbt p1>>=fun (v1,v2) =>
 (QbQ ()>>=fun (v4:Bool) =>
 (if v4=false then
  some true
 else
 some (decide ((p1.size:Int) > 300))
 )>>=fun (v5:Bool) =>
 (if v5=true then
  some true
 else
 some (v2 != 0)
 )>>=fun (v6:Bool) =>
 (if v6=true then
  some true
 else
 Qb0 (p0,300)>>=fun v8 =>
 some (!v8)
 )>>=fun (v7:Bool) =>
 if v7=true then
  some true
 else
 QaZ p0>>=fun v9 =>
 some (!v9)
 )>>=fun (v3:Bool) =>
 if v3=true then
  QbQ ()>>=fun v10 =>
  some v10
 else
 QaY (⟨v1.kind,v1.fn,v1.axis,v1.name,v1.nums,v1.kids⟩:Qa)>>=fun v11 =>
 ZE (p0,v11,v1,([]:List Qb),0)>>=fun v612 =>
 (
 YF p0>>=fun out =>
 match out with
 | .inl (v617,v618,v619,v620,v621,v622) =>
  (
  YF v612>>=fun out =>
  match out with
  | .inl (v626,v627,v628,v629,v630,v631) =>
   some false
  | .inr ((v632,v633,v634)) =>
   some false
  )
 | .inr ((v623,v624,v625)) =>
  (
  YF v612>>=fun out =>
  match out with
  | .inl (v635,v636,v637,v638,v639,v640) =>
   some false
  | .inr ((v641,v642,v643)) =>
   YW (v1.kind,v1.fn,v1.axis,v1.name,v1.nums,v1.kids,v623,v624,v625)>>=fun (v644,v645,v646,v647,v648,v649,v650,v651,v652,v653) =>
   YW (v1.kind,v1.fn,v1.axis,v1.name,v1.nums,v1.kids,v641,v642,v643)>>=fun (v654,v655,v656,v657,v658,v659,v660,v661,v662,v663) =>
   XK (p0,(⟨v1.kind,v1.fn,v1.axis,v1.name,v1.nums,v1.kids⟩:Qa))>>=fun (v664,v665) =>
   (if v653=v663 then
    some (v653 == v665)
   else
   some false
   )>>=fun (v666:Bool) =>
   (if v666=true then
    Qbr (⟨(⟨v644,v645,v646,v647,v648,v649,v650,v651⟩:Qc),v652⟩:Zl)>>=fun v668 =>
    Qbw (v668,v664)>>=fun v669 =>
    some v669
   else
   some false
   )>>=fun (v667:Bool) =>
   if v667=true then
    QbX ((⟨(⟨v644,v645,v646,v647,v648,v649,v650,v651⟩:Qc),v652⟩:Zl),(⟨(⟨v654,v655,v656,v657,v658,v659,v660,v661⟩:Qc),v662⟩:Zl))>>=fun v670 =>
    some v670
   else
   some false
  )
 )
def QcK:((List Qb) × ByteArray)→Bool→Prop:=fun x r=>match x,r with
 | (p0,p1),r0=>∀ H,PC prog env 3 ([(.lst ((List.map Qb.toD) p0)),(strD p1)].map .dat) H (Qo r0) H
theorem w_law15_ElabTexts:∀ x r,J6 x=some r→QcK x r:=by
 intro x r0 hm
 unfold J6 at hm
 unfold QcK
 obtain ⟨p0,p1⟩:=x
 intro H
 refine PC_sx (ds:=[(.lst ((List.map Qb.toD) p0)),(strD p1)]) (fn:=f3) rfl ?_
 exact ge 1 (gr 1 (bi2 hm fun v1 v2 hx hm=>cp (QfR hx) (re 6 (Qg (Qg (bi hm fun v3 hs hm=>Ze (fun d=>⟨sl d 114 [(0,(YG p0)),(5,(.ptr 0 0)),(43,(Qo v3))],[(Q0 v1.kind v1.fn v1.axis v1.name v1.nums v1.kids)]⟩) (have hm:=hs;Qc8 (bi hm fun v4 hx hm=>YA (Qeb _ _ hx []) (Qh 2 (bi hm fun v5 hs hm=>Yu (j:=7) (fun d=>⟨sl d 114 [(0,(YG p0)),(5,(.ptr 0 0)),(6,(Qe v2)),(29,(Qo v5))],[(Q0 v1.kind v1.fn v1.axis v1.name v1.nums v1.kids)]⟩) (fun d=>Qh 1 (bi hm fun v6 hs hm=>Yu (j:=11) (fun d=>⟨sl d 114 [(0,(YG p0)),(5,(.ptr 0 0)),(33,(Qo v6))],[(Q0 v1.kind v1.fn v1.axis v1.name v1.nums v1.kids)]⟩) (fun d=>Qh 1 (bi hm fun v7 hs hm=>Yu (j:=16) (fun d=>⟨sl d 114 [(0,(YG p0)),(5,(.ptr 0 0)),(38,(Qo v7))],[(Q0 v1.kind v1.fn v1.axis v1.name v1.nums v1.kids)]⟩) (fun d=>Qh 1 (gsb 39 hm (fun hm=>re 4 ⟨kr,zf⟩) (fun hm=>Qh 1 (bi hm fun v9 hx hm=>cp (QfJ hx) (re 2 ⟨kr,zf⟩))))) (fun hJ=>gsb 34 hs (fun hm=>Qh 4 zf) (fun hm=>Qh 1 (bi hm fun v8 hx hm=>cp (Qgp hx) (Qh 2 zf)))))) (fun hJ=>gsb 30 hs (fun hm=>Qh 3 zf) (fun hm=>Qh 3 zf)))) (fun hJ=>gsn 25 hs (fun hm=>Qh 4 zf) (fun hm=>Qh 1 (QT rfl (fun _=>XG (b:=p1) kr rfl kr) (Qh 2 zf)))))))) (fun d=>rib hm (fun hm=>Qg (R_G (bi hm fun v10 hx hm=>YA (Qeb _ _ hx []) (re 1 (Qk zf))))) (fun hm=>Qi (gr 1 (bi hm fun v11 hx hm=>cp (QfI hx) (re 1 (ge 1 (Qg (ge 1 (Qp (ru1 hm (Jg _) fun v612 d hm=>gr 1 (bs hm (fun ⟨v617,v618,v619,v620,v621,v622⟩ hx hm=>Qd2 (n:=2) (m:=0) (q:=(.dat (.raw (.pointer none)))) (Xd _ _ hx) (rn_cons rn_sm (rn_cons rfl (rn_cons rfl (rn_cons rfl (rn_cons rfl (rn_cons rfl rn_nil)))))) (re 1 (Qg (R_G (Jk (v:=(YG v612)) id rfl kr (fun _ hk=>QgK (t:=1) rfl kr kr hk) (bs hm (fun ⟨v626,v627,v628,v629,v630,v631⟩ hx hm=>Qd2 (n:=8) (m:=0) (q:=(.dat (.raw (.pointer none)))) (Xd _ _ hx) (rn_cons rn_sm (rn_cons rfl (rn_cons rfl (rn_cons rfl (rn_cons rfl (rn_cons rfl rn_nil)))))) (re 1 (Qg (ge 6 (Qaj kr (ge 1 (Qk zf))))))) fun ⟨v632,v633,v634⟩ hx hm=>Qd2 (n:=8) (m:=0) (q:=(.ptr 12 0)) (Xd _ _ hx) (rn_cons rn_sm (rn_cons rfl (rn_cons rfl (rn_cons rfl (rn_cons rfl rn_nil))))) (re 1 (Qg (ge 6 (Qaj kr (ge 1 (Qk zf)))))))))))) fun ⟨v623,v624,v625⟩ hx hm=>Qd2 (n:=2) (m:=0) (q:=(.ptr 6 0)) (Xd _ _ hx) (rn_cons rn_sm (rn_cons rfl (rn_cons rfl (rn_cons rfl (rn_cons rfl rn_nil))))) (re 1 (Qg (R_G (Jk (v:=(YG v612)) id rfl kr (fun _ hk=>QgK (t:=1) rfl kr kr hk) (bs hm (fun ⟨v635,v636,v637,v638,v639,v640⟩ hx hm=>Qd2 (n:=7) (m:=0) (q:=(.dat (.raw (.pointer none)))) (Xd _ _ hx) (rn_cons rn_sm (rn_cons rfl (rn_cons rfl (rn_cons rfl (rn_cons rfl (rn_cons rfl rn_nil)))))) (re 1 (Qg (ge 6 (Qaj kr (ge 1 (Qk zf))))))) fun ⟨v641,v642,v643⟩ hx hm=>Qd2 (n:=7) (m:=0) (q:=(.ptr 11 0)) (Xd _ _ hx) (rn_cons rn_sm (rn_cons rfl (rn_cons rfl (rn_cons rfl (rn_cons rfl rn_nil))))) (re 1 (Qg (ge 6 (Xt kr (Qi (gr 2 (bi10 hm fun v644 v645 v646 v647 v648 v649 v650 v651 v652 v653 hx hm=>QgN (A0:=[(.ptr 6 0),(QbW v1.kind v1.fn v1.axis v1.name v1.nums v1.kids)]) (q:=(.tup [(Qfh v644 v645 v646 v647 v648 v649 v650 v651 v652),(Qe v653)])) (H0:=[(.map (smE v623)),(.tok 39 v624.length),(Qdf v624),(.tok 39 (([]:List Qb).length)),(Qdf v625)]) (b:=2) (n:=7) (QcO hx) (rn_cons rn_sm (rn_cons rfl (rn_cons rfl (rn_cons rfl (rn_cons rfl rn_nil))))) (rn_cons rn_sm (rn_cons rfl (rn_cons rfl (rn_cons rfl (rn_cons rfl rn_nil))))) (re 6 (gr 2 (bi10 hm fun v654 v655 v656 v657 v658 v659 v660 v661 v662 v663 hx hm=>QgN (A0:=[(.ptr 11 0),(QbW v1.kind v1.fn v1.axis v1.name v1.nums v1.kids)]) (q:=(.tup [(Qfh v654 v655 v656 v657 v658 v659 v660 v661 v662),(Qe v663)])) (H0:=[(.map (smE v641)),(.tok 39 v642.length),(Qc9 v642),(.tok 39 (([]:List Qb).length)),(Qc9 v643)]) (b:=7) (n:=12) (QcO hx) (rn_cons rn_sm (rn_cons rfl (rn_cons rfl (rn_cons rfl (rn_cons rfl rn_nil))))) (rn_cons rn_sm (rn_cons rfl (rn_cons rfl (rn_cons rfl (rn_cons rfl rn_nil))))) (re 6 (gr 2 (bi2 hm fun v664 v665 hx hm=>cp (QfU hx) (re 6 (Qg (QhE (Qh 4 (bi hm fun v666 hs hm=>Yu (j:=8) (fun d=>⟨sl d 114 [(12,(.ptr 12 0)),(14,(.ptr 13 0)),(16,(.ptr 14 0)),(102,(Qo v666))],[(Q0 v1.kind v1.fn v1.axis v1.name v1.nums v1.kids),(.tok 39 v612.length),(.map (smE v623)),(.tok 39 v624.length),(Qdf v624),(.tok 39 (([]:List Qb).length)),(Qdf v625),(.map (smE v641)),(.tok 39 v642.length),(Qc9 v642),(.tok 39 (([]:List Qb).length)),(Qc9 v643),(Qda v644 v645 v646 v647 v648 v649 v650 v651 v652),(Qda v654 v655 v656 v657 v658 v659 v660 v661 v662),(.box [(Qe v664.core.kind),(La v664.core.shape),(Qe v664.core.buffer),(La v664.core.starts),(Qe v664.core.axis),(Qe v664.core.amount),(La v664.core.perm),(Qex v664.core.kids),(X7 v664.sources)])]⟩) (fun d=>Qh 1 (bi hm fun v667 hs hm=>Yu (j:=14) (fun d=>⟨sl d 114 [(12,(.ptr 12 0)),(14,(.ptr 13 0)),(108,(Qo v667))],[(Q0 v1.kind v1.fn v1.axis v1.name v1.nums v1.kids),(.tok 39 v612.length),(.map (smE v623)),(.tok 39 v624.length),(Qdf v624),(.tok 39 (([]:List Qb).length)),(Qdf v625),(.map (smE v641)),(.tok 39 v642.length),(Qc9 v642),(.tok 39 (([]:List Qb).length)),(Qc9 v643),(Qda v644 v645 v646 v647 v648 v649 v650 v651 v652),(Qda v654 v655 v656 v657 v658 v659 v660 v661 v662),(.box [(Qe v664.core.kind),(La v664.core.shape),(Qe v664.core.buffer),(La v664.core.starts),(Qe v664.core.axis),(Qe v664.core.amount),(La v664.core.perm),(Qex v664.core.kids),(X7 v664.sources)])]⟩) (fun d=>Qh 1 (gsb 109 hm (fun hm=>Qh 2 (bi hm fun v670 hx hm=>cp (Qgk hx) (re 2 ⟨kr,Qk zf⟩))) (fun hm=>re 5 ⟨kr,Qk zf⟩))) (fun hJ=>gsb 103 hs (fun hm=>Qh 1 (bi hm fun v668 hx hm=>YA (QfP _ _ hx []) (Qh 1 (bi hm fun v669 hx hm=>cp (QfV hx) (Qh 1 zf))))) (fun hm=>Qh 5 zf)))) (fun hJ=>gsq 98 hs (fun hm=>Qh 4 zf) (fun hm=>Qh 4 zf)))))))))) (hi:=und_hi 0) (hq:=und_hq 0)))) (hi:=und_hi 0) (hq:=und_hq 0))))))))))))))))))))))))))))))
set_option linter.unusedSimpArgs false
theorem Equal_L1:∀ (s t p q:List Int),s.length=t.length→p.length=q.length→Sm (p++s).length→Yl (p++s,q++t,(p.length:Int))=some (if s=t then .inr () else .inl ())
 | [],[],p,q,_,_,hs=>by
  rw [Yl]; simp only [Z4,if_false,if_true]
 | x::s,y::t,p,q,h1,h2,hs=>by
  rw [Yl]
  have ih:=Equal_L1 s t (p++[x]) (q++[y]) (by simpa using h1) (by simp [h2]) (by rw [← Qz]; exact hs)
  rw [← Qz,← Qz] at ih
  simp only [Zi,if_true,QR,Qd,mid_W hs,ih]
  rw [h2,QR]
  by_cases he:x=y <;> simp [he,Qd]
 | [],_::_,_,_,h,_,_=>by cases h
 | _::_,[],_,_,h,_,_=>by cases h
theorem Equal_ok (a b:List Int) (hs:Sm a.length):Xf (a,b)=some (decide (a=b)):=by
 simp only [Xf]
 by_cases h:a.length=b.length
 ·have e:=Equal_L1 a b [] [] h rfl hs
  have e2:¬ ((a.length:Int)≠(b.length:Int)):=by omega
  simp only [e2,if_false]
  have e3:Yl (a,b,0)=_:=e
  rw [e3]
  by_cases hab:a=b
  ·subst hab; simp
  ·rw [if_neg hab,decide_eq_false hab]; rfl
 ·have e2:((a.length:Int)≠(b.length:Int)):=by omega
  have e3:a≠b:=fun e=>h (by rw [e])
  rw [if_pos e2,decide_eq_false e3]

def prodI (l:List Int):Int:=l.foldl (· * ·) 1
def negB (l:List Int):Bool:=l.any fun d=>decide (d < 0)
def bigB (l:List Int):Bool:=l.any fun d=>decide (d > 65536)
def prodR (l:List Int):Int × Int:=if negB l then (0,6) else if bigB l then (0,7) else if prodI l > 65536 then (0,7) else (prodI l,0)
def checkR (l:List Int):Int:=if negB l then 6 else if l.length > 16∨bigB l=true∨prodI l > 65536 then 7 else 0
def cellsR (l:List Int):Int:=if checkR l=0 then prodI l else 0
theorem foldl_mul:∀ (l:List Int) (x:Int),l.foldl (· * ·) x=x * l.foldl (· * ·) 1
 | [],x=>by simp
 | d::l,x=>by rw [List.foldl_cons,foldl_mul l (x * d),List.foldl_cons,foldl_mul l (1 * d),Int.one_mul,Int.mul_assoc]
theorem prodI_cons (d:Int) (l:List Int):prodI (d::l)=d * prodI l:=by rw [prodI,List.foldl_cons,foldl_mul,Int.one_mul]; rfl
theorem prodI_nil:prodI []=1:=rfl
theorem prodI_append (a b:List Int):prodI (a++b)=prodI a * prodI b:=by rw [prodI,prodI,prodI,List.foldl_append,foldl_mul]
theorem prodI_pos:∀ {l:List Int},(∀ d∈l,1≤d)→1≤prodI l
 | [],_=>by simp [prodI]
 | d::l,h=>by
  have h1:=prodI_pos (l:=l) (fun x hx=>h x (List.mem_cons_of_mem _ hx))
  have h2:=h d (List.mem_cons_self ..)
  rw [prodI_cons]
  have:=Int.mul_le_mul h2 h1 (by omega) (by omega)
  omega
theorem prodI_zero {l:List Int} (h:(0:Int)∈l):prodI l=0:=by
 obtain ⟨s,t,rfl⟩:=List.append_of_mem h
 rw [prodI_append,prodI_cons]; simp
theorem negB_cons (d:Int) (l:List Int):negB (d::l)=(decide (d < 0) || negB l):=rfl
theorem bigB_cons (d:Int) (l:List Int):bigB (d::l)=(decide (d > 65536) || bigB l):=rfl

theorem Prod_L1:∀ (s p:List Int) (z:Bool),Sm (p++s).length→ZI (p++s,z,(p.length:Int))=some (if negB s then .inl () else .inr (z || s.any (· == 0)))
 | [],p,z,hs=>by
  rw [ZI]; simp only [Z4,if_false]; simp [negB]
 | x::s,p,z,hs=>by
  rw [ZI]
  have ih:=fun z=>Prod_L1 s (p++[x]) z (by rw [← Qz]; exact hs)
  rw [← Qz] at ih
  simp only [Zi,if_true,QR,Qd,mid_W hs,ih,negB_cons]
  by_cases hn:x < 0
  ·simp [hn]
  ·cases z <;> by_cases hz:x=0 <;> simp [hn,hz]
theorem Prod_L2:∀ (s p:List Int) (z:Bool),Sm (p++s).length→ZP (p++s,z,(p.length:Int))=some (if bigB s then .inl () else .inr ())
 | [],p,z,hs=>by
  rw [ZP]; simp only [Z4,if_false]; simp [bigB]
 | x::s,p,z,hs=>by
  rw [ZP]
  have ih:=Prod_L2 s (p++[x]) z (by rw [← Qz]; exact hs)
  rw [← Qz] at ih
  simp only [Zi,if_true,QR,Qd,mid_W hs,ih,bigB_cons]
  by_cases hn:x > 65536 <;> simp [hn]
theorem Prod_L3:∀ (s p:List Int) (m:Int),Sm (p++s).length→(∀ d∈s,1≤d∧d≤65536)→1≤m→m≤65536→ZQ (p++s,m,(p.length:Int))=some (if m * prodI s > 65536 then .inl () else .inr (m * prodI s))
 | [],p,m,hs,hd,h1,h2=>by
  rw [ZQ]; simp only [Z4,if_false,prodI_nil,Int.mul_one]
  rw [if_neg (by omega)]
 | x::s,p,m,hs,hd,h1,h2=>by
  rw [ZQ]
  have hx:=hd x (List.mem_cons_self ..)
  have b1:=Int.mul_le_mul h2 hx.2 (by omega) (by omega)
  have b2:=Int.mul_le_mul h1 hx.1 (by omega) (by omega)
  have hw:W (m * x)=m * x:=W_ok (by omega) (by omega)
  have hds:∀ d∈s,1≤d∧d≤65536:=fun d h=>hd d (List.mem_cons_of_mem _ h)
  simp only [Zi,if_true,QR,Qd,mid_W hs,hw,prodI_cons]
  rw [← Int.mul_assoc]
  by_cases hn:m * x > 65536
  ·have hp:=prodI_pos (l:=s) (fun d h=>(hds d h).1)
   have:m * x * 1≤m * x * prodI s:=Int.mul_le_mul_of_nonneg_left hp (by omega)
   rw [if_pos hn,if_pos (by omega)]
  ·have ih:=Prod_L3 s (p++[x]) (m * x) (by rw [← Qz]; exact hs) hds (by omega) (by omega)
   rw [← Qz] at ih
   rw [if_neg hn,ih]
theorem neg_all {l:List Int} (h:negB l=false):∀ d∈l,0≤d:=fun d hd=>by
 have:=List.any_eq_false.1 h d hd
 simp at this; omega
theorem big_all {l:List Int} (h:bigB l=false):∀ d∈l,d≤65536:=fun d hd=>by
 have:=List.any_eq_false.1 h d hd
 simp at this; omega
theorem Product_ok (l:List Int) (hs:Sm l.length):X4 l=some (prodR l):=by
 have e1:ZI (l,false,0)=_:=Prod_L1 l [] false hs
 have e2:∀ z,ZP (l,z,0)=_:=fun z=>Prod_L2 l [] z hs
 simp only [X4,e1,Qd,prodR]
 by_cases hn:negB l=true
 ·simp [hn]
 ·have hn':negB l=false:=by simpa using hn
  simp only [hn',Bool.false_eq_true,if_false,Bool.false_or,e2,Qd]
  by_cases hb:bigB l=true
  ·simp [hb]
  ·have hb':bigB l=false:=by simpa using hb
   simp only [hb',Bool.false_eq_true,if_false]
   by_cases hz:(l.any (· == 0))=true
   ·have:prodI l=0:=prodI_zero (by simpa using hz)
    simp [hz,this]
   ·have hz':l.any (· == 0)=false:=(Bool.not_eq_true _).mp hz
    have e3:ZQ (l,1,0)=_:=Prod_L3 l [] 1 hs (fun d hd=>by
     have h1:=neg_all hn' d hd
     have h2:=big_all hb' d hd
     have h3:d≠0:=fun e=>by have:=List.any_eq_false.1 hz' d hd; simp [e] at this
     omega) (by omega) (by omega)
    simp only [hz',Bool.false_eq_true,if_false,e3,Qd,Int.one_mul]
    by_cases hp:prodI l > 65536 <;> simp [hp]
theorem Check_L1:∀ (s p:List Int),Sm (p++s).length→Yk (p++s,(p.length:Int))=some (if negB s then .inl () else .inr ())
 | [],p,hs=>by
  rw [Yk]; simp only [Z4,if_false]; simp [negB]
 | x::s,p,hs=>by
  rw [Yk]
  have ih:=Check_L1 s (p++[x]) (by rw [← Qz]; exact hs)
  rw [← Qz] at ih
  simp only [Zi,if_true,QR,Qd,mid_W hs,ih,negB_cons]
  by_cases hn:x < 0 <;> simp [hn]
theorem Check_ok (l:List Int) (hs:Sm l.length):YR l=some (checkR l):=by
 have e1:Yk (l,0)=_:=Check_L1 l [] hs
 simp only [YR,e1,Qd,checkR,Product_ok l hs]
 by_cases hn:negB l=true
 ·simp [hn]
 ·simp only [hn,if_false,prodR,Bool.false_eq_true]
  by_cases hl:l.length > 16
  ·have:(l.length:Int) > 16:=by omega
   simp [hl,this,Qd]
  ·have:¬ (l.length:Int) > 16:=by omega
   by_cases hb:bigB l=true
   ·simp [hl,this,hb,Qd]
   ·by_cases hp:prodI l > 65536 <;> simp [hl,this,hb,hp,Qd]
def remL (l:List Int) (k:Nat):List Int:=l.take k++l.drop (k+1)
def insL (l:List Int) (k:Nat) (v:Int):List Int:=l.take k++v::l.drop k
def repL (l:List Int) (k:Nat) (v:Int):List Int:=l.take k++v::l.drop (k+1)
theorem checkR_zero {l:List Int}:checkR l=0↔(∀ d∈l,0≤d∧d≤65536)∧l.length≤16∧prodI l≤65536:=by
 unfold checkR
 constructor
 ·intro h
  cases hn:negB l
  ·rw [hn,if_neg (by decide)] at h
   split at h
   ·cases h
   ·rename_i h2
    have hb:bigB l=false:=by
     cases hb:bigB l
     ·rfl
     ·exact absurd (Or.inr (Or.inl hb)) h2
    exact ⟨fun d hd=>⟨neg_all hn d hd,big_all hb d hd⟩,by have:=fun h=>h2 (Or.inl h); omega,by have:=fun h=>h2 (Or.inr (Or.inr h)); omega⟩
  ·rw [hn] at h; cases h
 ·rintro ⟨h1,h2,h3⟩
  have hn:negB l=false:=List.any_eq_false.2 fun d hd=>by have:=h1 d hd; simp; omega
  have hb:bigB l=false:=List.any_eq_false.2 fun d hd=>by have:=h1 d hd; simp; omega
  rw [hn,hb,if_neg (by decide),if_neg]
  rintro (h|h|h)
  ·omega
  ·cases h
  ·omega
theorem prod_rep (l:List Int) (i:Nat) (x:Int):prodI (repL l i x)=x * prodI (remL l i):=by
 rw [repL,remL,prodI_append,prodI_cons,prodI_append,Int.mul_left_comm]
theorem rep_self {l:List Int} {i:Nat} (hi:i < l.length):repL l i l[i]=l:=by
 rw [repL,← List.drop_eq_getElem_cons hi,List.take_append_drop]
theorem rep_mem {l:List Int} {i:Nat} {x d:Int}:d∈repL l i x↔d=x∨d∈remL l i:=by
 simp only [repL,remL,List.mem_append,List.mem_cons]
 constructor
 ·rintro (h|h|h)
  ·exact .inr (.inl h)
  ·exact .inl h
  ·exact .inr (.inr h)
 ·rintro (h|h|h)
  ·exact .inr (.inl h)
  ·exact .inl h
  ·exact .inr (.inr h)
theorem rep_len {l:List Int} {i:Nat} {x:Int} (hi:i < l.length):(repL l i x).length=l.length:=by simp [repL]; omega
theorem rem_mem {l:List Int} {i:Nat} {d:Int} (h:d∈remL l i):d∈l:=by
 simp only [remL,List.mem_append] at h
 rcases h with h|h
 ·exact List.mem_of_mem_take h
 ·exact List.mem_of_mem_drop h
theorem prodI_nonneg:∀ {l:List Int},(∀ d∈l,0≤d)→0≤prodI l
 | [],_=>by simp [prodI]
 | d::l,h=>by
  rw [prodI_cons]
  exact Int.mul_nonneg (h d (List.mem_cons_self ..)) (prodI_nonneg fun x hx=>h x (List.mem_cons_of_mem _ hx))
theorem part_right {l:List Int} {i:Nat} {x y:Int} (hi:i < l.length) (h:checkR (repL l i y)=0) (h0:0≤x) (hx:x≤y):checkR (repL l i x)=0:=by
 obtain ⟨h1,h2,h3⟩:=checkR_zero.1 h
 have hr:∀ d∈remL l i,0≤d∧d≤65536:=fun d hd=>h1 d (rep_mem.2 (.inr hd))
 have hy:=h1 y (rep_mem.2 (.inl rfl))
 refine checkR_zero.2 ⟨fun d hd=>?_,?_,?_⟩
 ·rcases rep_mem.1 hd with rfl|hd
  ·omega
  ·exact hr d hd
 ·rw [rep_len hi] at h2 ⊢; exact h2
 ·rw [prod_rep] at h3 ⊢
  have:=Int.mul_le_mul_of_nonneg_right hx (prodI_nonneg fun d hd=>(hr d hd).1)
  omega
theorem rep_other {a b:List Int} {i:Nat} (ha:i < a.length) (hb:i < b.length) (hrem:remL a i=remL b i) (x:Int):repL a i x=repL b i x:=by
 have e1:a.take i=b.take i:=by
  have:=congrArg (List.take i) hrem
  simpa [remL,List.take_append_of_le_length,Nat.le_of_lt ha,Nat.le_of_lt hb,List.length_take,List.take_take] using this
 have e2:a.drop (i+1)=b.drop (i+1):=by
  have h3:a.take i++a.drop (i+1)=b.take i++b.drop (i+1):=hrem
  rw [e1] at h3
  exact List.append_cancel_left h3
 rw [repL,repL,e1,e2]
def Dims (X:List Int):Prop:=∀ d∈X,0≤d∧d≤65536
theorem getD_in {X:List Int} {k:Nat} (h:Dims X) (hk:k < X.length):0≤X.getD k 0∧X.getD k 0≤65536:=by
 rw [List.getD_eq_getElem?_getD,List.getElem?_eq_getElem hk]; exact h _ (List.getElem_mem hk)
theorem idx_getD {X:List Int} {k:Nat} (hk:k < X.length):idx X (k:Int)=some (X.getD k 0):=by
 rw [idx_ok hk,List.getD_eq_getElem?_getD,List.getElem?_eq_getElem hk]; rfl
inductive Below:List Int→List Int→Prop
 | nil:Below [] []
 | cons {x y:Int} {s t:List Int} (h0:0≤x) (h1:x≤y) (h:Below s t):Below (x::s) (y::t)
theorem Below.len {s t:List Int} (h:Below s t):s.length=t.length:=by
 induction h with
 | nil=>rfl
 | cons _ _ _ ih=>simp [ih]
theorem Below.prod {s t:List Int} (h:Below s t):0≤prodI s∧prodI s≤prodI t:=by
 induction h with
 | nil=>simp [prodI]
 | cons h0 h1 _ ih =>
  rw [prodI_cons,prodI_cons]
  exact ⟨Int.mul_nonneg h0 ih.1,Int.mul_le_mul h1 ih.2 ih.1 (by omega)⟩
theorem Below.dims {s t:List Int} (h:Below s t) (ht:Dims t):Dims s:=by
 induction h with
 | nil=>intro d hd; cases hd
 | @cons x y s t h0 h1 _ ih =>
  intro d hd
  rcases List.mem_cons.1 hd with rfl|hd
  ·have:=ht y (List.mem_cons_self ..); omega
  ·exact ih (fun z hz=>ht z (List.mem_cons_of_mem _ hz)) d hd
theorem Below.right {s t:List Int} (h:Below s t) (ht:checkR t=0):checkR s=0:=by
 obtain ⟨h1,h2,h3⟩:=checkR_zero.1 ht
 have:=h.prod
 exact checkR_zero.2 ⟨h.dims h1,by rw [h.len]; exact h2,by omega⟩
theorem check_dims {X:List Int} (h0:∀ d∈X,0≤d):checkR X=0∨checkR X=7:=by
 have hn:negB X=false:=List.any_eq_false.2 fun d hd=>by have:=h0 d hd; simp; omega
 unfold checkR
 rw [hn]
 simp only [Bool.false_eq_true,if_false]
 split
 ·exact .inr rfl
 ·exact .inl rfl
theorem prodI_ones:∀ n:Nat,prodI (List.replicate n 1)=1
 | 0=>rfl
 | n+1=>by rw [List.replicate_succ,prodI_cons,prodI_ones n]; rfl
theorem check_ones {n:Nat} (h:n≤16):checkR (List.replicate n 1)=0 :=
 checkR_zero.2 ⟨fun d hd=>by rw [List.eq_of_mem_replicate hd]; omega,by simpa using h,by rw [prodI_ones]; omega⟩
theorem Cont1_L1:∀ (s p:List Int),Sm (p++s).length→∃ r,QE (p++s,(p.length:Int))=some r∧(negB s=true→∃ j:Nat,r=.inl (j:Int))∧(negB s=false→r=.inr ())
 | [],p,hs=>by
  rw [QE]; simp only [Z4,if_false]; exact ⟨_,rfl,fun h=>(by cases h),fun _=>rfl⟩
 | x::s,p,hs=>by
  rw [QE]
  obtain ⟨r,h1,h2,h3⟩:=Cont1_L1 s (p++[x]) (by rw [← Qz]; exact hs)
  rw [← Qz] at h1
  simp only [Zi,if_true,QR,Qd,mid_W hs,Qbz,negB_cons]
  by_cases hn:x < 0
  ·simp only [hn,decide_true,if_true]; exact ⟨_,rfl,fun _=>⟨_,rfl⟩,fun h=>by simp at h⟩
  ·simp only [hn,decide_false,Bool.false_eq_true,if_false,Bool.false_or]; exact ⟨r,h1,h2,h3⟩
theorem Cont1_ok (l:List Int) (hs:Sm l.length):Q8 l=some (negB l):=by
 obtain ⟨r,h1,h2,h3⟩:=Cont1_L1 l [] hs
 have e:QE (l,0)=some r:=h1
 simp only [Q8,ZC,e,Qd]
 cases hn:negB l
 ·rw [h3 hn]; rfl
 ·obtain ⟨j,rfl⟩:=h2 hn; simp [Qd]
theorem Cont2_L1:∀ (s p:List Int),Sm (p++s).length→∃ r,QF (p++s,(p.length:Int))=some r∧(bigB s=true→∃ j:Nat,r=.inl (j:Int))∧(bigB s=false→r=.inr ())
 | [],p,hs=>by
  rw [QF]; simp only [Z4,if_false]; exact ⟨_,rfl,fun h=>(by cases h),fun _=>rfl⟩
 | x::s,p,hs=>by
  rw [QF]
  obtain ⟨r,h1,h2,h3⟩:=Cont2_L1 s (p++[x]) (by rw [← Qz]; exact hs)
  rw [← Qz] at h1
  simp only [Zi,if_true,QR,Qd,mid_W hs,QbA,bigB_cons]
  by_cases hn:x > 65536
  ·simp only [hn,decide_true,if_true]; exact ⟨_,rfl,fun _=>⟨_,rfl⟩,fun h=>by simp at h⟩
  ·simp only [hn,decide_false,Bool.false_eq_true,if_false,Bool.false_or]; exact ⟨r,h1,h2,h3⟩
theorem Cont2_ok (l:List Int) (hs:Sm l.length):Q9 l=some (bigB l):=by
 obtain ⟨r,h1,h2,h3⟩:=Cont2_L1 l [] hs
 have e:QF (l,0)=some r:=h1
 simp only [Q9,ZD,e,Qd]
 cases hn:bigB l
 ·rw [h3 hn]; rfl
 ·obtain ⟨j,rfl⟩:=h2 hn; simp [Qd]
def errR (l:List Int):Int:=if negB l then 6 else if bigB l then 7 else 0
theorem sizecheck_ok (l:List Int) (hs:Sm l.length):JM l=some (errR l):=by
 simp only [JM,Cont1_ok l hs,Cont2_ok l hs,Qd,errR]
 by_cases h1:negB l=true
 ·simp [h1]
 ·by_cases h2:bigB l=true <;> simp [h1,h2]
theorem Index_L1 (v:Int):∀ (s p:List Int),Sm (p++s).length→∃ r,Zd (p++s,v,(p.length:Int))=some r∧(s.any (v == ·)=true→∃ j:Nat,r=.inl (j:Int))∧(s.any (v == ·)=false→r=.inr ())
 | [],p,hs=>by
  rw [Zd]; simp only [Z4,if_false]; exact ⟨_,rfl,fun h=>(by cases h),fun _=>rfl⟩
 | x::s,p,hs=>by
  rw [Zd]
  obtain ⟨r,h1,h2,h3⟩:=Index_L1 v s (p++[x]) (by rw [← Qz]; exact hs)
  rw [← Qz] at h1
  simp only [Zi,if_true,QR,Qd,mid_W hs]
  by_cases hn:v=x
  ·rw [if_pos hn]; exact ⟨_,rfl,fun _=>⟨_,rfl⟩,fun h=>by simp [hn] at h⟩
  ·rw [if_neg hn]; exact ⟨r,h1,fun h=>h2 (by simpa [hn] using h),fun h=>h3 (by simpa [hn] using h)⟩
theorem Contains_ok (l:List Int) (v:Int) (hs:Sm l.length):Yq (l,v)=some (l.any (v == ·)):=by
 obtain ⟨r,h1,h2,h3⟩:=Index_L1 v l [] hs
 have e:Zd (l,v,0)=some r:=h1
 simp only [Yq,XL,e,Qd]
 cases hn:l.any (v == ·)
 ·rw [h3 hn]; rfl
 ·obtain ⟨j,rfl⟩:=h2 hn; simp [Qd]
theorem Mul_ok {a b:Int} (ha:1≤a∧a≤65536) (hb:1≤b∧b≤65536):Qct (a,b,65536)=some (if a * b > 65536 then (0,false) else (a * b,true)):=by
 have m1:=Int.mul_le_mul ha.2 hb.2 (by omega) (by omega)
 have m2:=Int.mul_le_mul ha.1 hb.1 (by omega) (by omega)
 have hq0:(65536:Int).tdiv b=65536 / b:=Int.tdiv_eq_ediv_of_nonneg (by omega)
 have hq1:(65536:Int) / b≤65536:=Int.ediv_le_self _ (by omega)
 have hq2:0≤(65536:Int) / b:=Int.ediv_nonneg (by omega) (by omega)
 have hq:quoM 65536 b=some (65536 / b):=by
  rw [quoM,if_neg (by omega),hq0,W_ok (by omega) (by omega)]
 have hlt:(a > 65536 / b)=(a * b > 65536):=by
  have:=Int.ediv_lt_iff_lt_mul (a:=65536) (b:=a) (c:=b) (by omega)
  simp only [gt_iff_lt,eq_iff_iff]
  exact this
 simp only [Qct,show ¬ a < 0 by omega,show ¬ b < 0 by omega,show ¬ a > 65536 by omega,show ¬ b > 65536 by omega,show b > 0 by omega,if_false,if_true,hq,Qd,hlt,decide_false,Bool.false_eq_true]
 by_cases h:a * b > 65536
 ·simp [h]
 ·simp only [h,decide_false,Qd,Bool.false_eq_true,if_false]; rw [W_ok (by omega) (by omega)]
theorem foldP_L1:∀ (s p:List Int) (m:Int),Sm (p++s).length→(∀ d∈s,1≤d∧d≤65536)→1≤m→m≤65536 →
  ∃ r,QS (p++s,m,(p.length:Int))=some r∧(m * prodI s > 65536→∃ v,r=.inl v)∧(¬ m * prodI s > 65536→r=.inr (m * prodI s))
 | [],p,m,hs,hd,h1,h2=>by
  rw [QS]; simp only [Z4,if_false,prodI_nil,Int.mul_one]
  exact ⟨_,rfl,fun h=>(by omega),fun _=>rfl⟩
 | x::s,p,m,hs,hd,h1,h2=>by
  rw [QS]
  have hx:=hd x (List.mem_cons_self ..)
  have hds:∀ d∈s,1≤d∧d≤65536:=fun d h=>hd d (List.mem_cons_of_mem _ h)
  have b2:=Int.mul_le_mul h1 hx.1 (by omega) (by omega)
  simp only [Zi,if_true,QR,Qd,mid_W hs,QaJ,Mul_ok ⟨h1,h2⟩ hx,prodI_cons]
  rw [← Int.mul_assoc]
  by_cases hn:m * x > 65536
  ·have hp:=prodI_pos (l:=s) (fun d h=>(hds d h).1)
   have:m * x * 1≤m * x * prodI s:=Int.mul_le_mul_of_nonneg_left hp (by omega)
   simp only [hn,if_true,Qd]
   exact ⟨_,rfl,fun _=>⟨_,rfl⟩,fun h=>absurd h (by omega)⟩
  ·obtain ⟨r,e1,e2,e3⟩:=foldP_L1 s (p++[x]) (m * x) (by rw [← Qz]; exact hs) hds (by omega) (by omega)
   rw [← Qz] at e1
   simp only [hn,if_false,Qd,Bool.true_eq_false]
   exact ⟨r,e1,e2,e3⟩
theorem sProduct_ok (l:List Int) (hs:Sm l.length):JB l=some (prodR l):=by
 simp only [JB,sizecheck_ok l hs,Qd,Yn,prodR,errR]
 by_cases hn:negB l=true
 ·simp [hn,Qd]
 ·have hn':negB l=false:=(Bool.not_eq_true _).mp hn
  by_cases hb:bigB l=true
  ·simp [hn,hb,Qd]
  ·have hb':bigB l=false:=(Bool.not_eq_true _).mp hb
   simp only [hn',hb',Bool.false_eq_true,if_false,if_true,Contains_ok l 0 hs,Qd]
   by_cases hz:l.any ((0:Int) == ·)=true
   ·have h0:(0:Int)∈l:=by
     obtain ⟨x,hx,he⟩:=List.any_eq_true.1 hz
     have:(0:Int)=x:=by simpa using he
     rw [this]; exact hx
    have:=prodI_zero h0
    simp [hz,this,Qd]
   ·have hall:∀ d∈l,1≤d∧d≤65536:=fun d hd=>by
     have h1:=neg_all hn' d hd
     have h2:=big_all hb' d hd
     have h3:d≠0:=fun e=>hz (List.any_eq_true.2 ⟨d,hd,by simp [e]⟩)
     omega
    obtain ⟨r,e1,e2,e3⟩:=foldP_L1 l [] 1 hs hall (by omega) (by omega)
    have e4:QS (l,1,0)=some r:=e1
    rw [Int.one_mul] at e2 e3
    simp only [hz,if_false,Qd,Yo,e4,ne_eq,not_true]
    by_cases hp:prodI l > 65536
    ·obtain ⟨v,rfl⟩:=e2 hp; simp [hp,Qd]
    ·rw [e3 hp]; simp [hp,Qd]
theorem shapeCheck_ok (l:List Int) (hs:Sm l.length):Zo l=some (checkR l):=by
 simp only [Zo,sProduct_ok l hs,Qd,prodR,checkR]
 by_cases hn:negB l=true
 ·simp [hn,Qd]
 ·by_cases hl:l.length > 16
  ·have h16:(l.length:Int) > 16:=by omega
   by_cases hb:bigB l=true
   ·simp [hn,hb,hl,h16,Qd]
   ·by_cases hp:prodI l > 65536 <;> simp [hn,hb,hp,hl,h16,Qd]
  ·have h16:¬ (l.length:Int) > 16:=by omega
   by_cases hb:bigB l=true
   ·simp [hn,hb,hl,h16,Qd]
   ·by_cases hp:prodI l > 65536 <;> simp [hn,hb,hp,hl,h16,Qd]
theorem Sm_le {n:Nat} (h:n≤1000):Sm n:=Sm_of (show n≤1000 from h)
theorem Clone_ok (l:List Int) (hl:l.length≤1000):Qy l=some l:=by
 rw [Qy,app_ok (by simp [room]; omega)]; rfl
theorem app1 {l:List Int} {v:Int} (hl:l.length≤100000):app 8 l [v]=some (l++[v]):=app_ok (by simp [room]; omega)
def zeroRule:Qt:=⟨[],[],[],[],0,0,[]⟩
theorem failed_ok (e:Int):ZB e=some (zeroRule,e):=rfl
def absI (v:Int):Int:=if v < 0 then -v else v
def bigM (v:Int):Bool:=decide (v > 65536) || decide (v < -65536)
theorem Mag_ok (v:Int):XQ v=some (if bigM v then (0,7) else (absI v,0)):=by
 simp only [XQ,bigM]
 by_cases h1:v > 65536
 ·simp [h1,Qd]
 ·by_cases h2:v < -65536
  ·simp [h1,h2,Qd]
  ·have w:W (0 - v)=0 - v:=W_ok (by omega) (by omega)
   have e:(if v < 0 - v then 0 - v else v)=absI v:=by unfold absI; split <;> split <;> omega
   simp only [h1,h2,if_false,decide_false,Qd,Bool.false_eq_true,Bool.or_false,w,e]
def seenL (a:List Int) (n:Nat):List Int:=if a=[] then List.replicate n 1 else a
theorem seen_ok (a:List Int) (n:Nat):Qax (a,(n:Int))=some (if a=[]∧n > 16 then ([],7) else (seenL a n,0)):=by
 simp only [Qax,QcN,XB]
 cases a with
 | cons x a=>rw [if_pos (by simp)]; simp [seenL]
 | nil =>
  rw [if_neg (by simp)]
  by_cases h:n > 16
  ·rw [if_pos (show (n:Int) > 16 by omega)]; simp [h]
  ·rw [if_neg (show ¬ (n:Int) > 16 by omega),if_pos ⟨by simp,by omega,by omega⟩]
   simp [h,Qd,seenL]
theorem seen_check {a:List Int} {n:Nat} (h:checkR a=0) (hn:¬ (a=[]∧n > 16)):checkR (seenL a n)=0:=by
 unfold seenL
 split
 ·rename_i he; exact check_ones (Nat.le_of_not_lt fun hc=>hn ⟨he,hc⟩)
 ·exact h
def stI (v d:Int):Int:=if v < 0 then d - absI v else 0
theorem zip_mid {f:Int→Int→Int} {p q:List Int} {x y:Int} (h:p.length=q.length):List.zipWith f (p++[x]) (q++[y])=List.zipWith f p q++[f x y]:=by
 rw [List.zipWith_append h]; rfl
theorem take_L1 (sc:Bool):∀ (s t p q:List Int),s.length=t.length→p.length=q.length→(p++s).length≤1000→Dims t →
  ∃ o,Yx (⟨p++s,sc⟩,q++t,p.map absI,List.zipWith stI p q,(p.length:Int))=some o ∧
   (s.any bigM=true→∃ m n,o=.inl ([],[],[],[],0,0,[],7,m,n))∧(s.any bigM=false→o=.inr ((p++s).map absI,List.zipWith stI (p++s) (q++t)))
 | [],[],p,q,_,h2,h3,h4=>by
  rw [Yx]; simp only [Z4,if_false]
  exact ⟨_,rfl,(fun h=>by simp at h),(fun _=>by simp)⟩
 | x::s,y::t,p,q,h1,h2,h3,h4=>by
  have hy:=h4 y (List.mem_cons_self ..)
  have hlp:(p.map absI).length≤100000:=by simp at h3 ⊢; omega
  have hlq:(List.zipWith stI p q).length≤100000:=by simp at h3 ⊢; omega
  have hi:idx (q++y::t) (p.length:Int)=some y:=by rw [h2]; exact QR
  rw [Yx]
  simp only [Zi,if_true,QR,hi,Qd,Mag_ok]
  cases hb:bigM x with
  | true =>
   simp only [if_true,ne_eq,failed_ok,Qd,zeroRule]
   rw [if_pos (by decide)]
   exact ⟨_,rfl,fun _=>⟨_,_,rfl⟩,fun h=>by simp [hb] at h⟩
  | false =>
   obtain ⟨o,e,ho⟩:=take_L1 sc s t (p++[x]) (q++[y]) (by simpa using h1) (by simp [h2]) (by rw [← Qz]; exact h3) (fun d hd=>h4 d (List.mem_cons_of_mem _ hd))
   rw [← Qz,← Qz,zip_mid h2,List.map_append] at e
   rw [← Qz,← Qz] at ho
   have hx:-65536≤x∧x≤65536:=by simp [bigM] at hb; omega
   have ha:0≤absI x∧absI x≤65536:=by unfold absI; split <;> omega
   simp only [Bool.false_eq_true,if_false,app1 hlp,app1 hlq,mid_W (Sm_le h3),Qd]
   rw [if_neg (by decide)]
   have hbs:(x::s).any bigM=s.any bigM:=by simp [hb]
   rw [hbs]
   by_cases hn:x < 0
   ·have w:W (y - absI x)=stI x y:=by rw [W_ok (by omega) (by omega)]; simp [stI,hn]
    rw [if_pos hn,w]
    exact ⟨o,e,ho⟩
   ·have w:stI x y=0:=by simp [stI,hn]
    rw [if_neg hn]
    rw [w] at e
    exact ⟨o,e,ho⟩
 | [],_::_,_,_,h,_,_,_=>by cases h
 | _::_,[],_,_,h,_,_,_=>by cases h
def takeE (l a:List Int):Int:=if a=[]∧l.length > 16 then 7 else if l.length≠(seenL a l.length).length then 5 else if l.any bigM then 7 else checkR (l.map absI)
def takeR (l a:List Int):Qt × Int:=if takeE l a=0 then (⟨[],seenL a l.length,l.map absI,List.zipWith stI l (seenL a l.length),-1,0,[]⟩,0) else (zeroRule,takeE l a)
theorem Take_ok (l:List Int) (sc:Bool) (a:List Int) (hl:l.length≤1000) (ha:checkR a=0):Qb2 (⟨l,sc⟩,a)=some (takeR l a):=by
 simp only [Qb2,seen_ok,Qd,takeR,takeE]
 by_cases h1:a=[]∧l.length > 16
 ·rw [if_pos h1]; simp [h1,failed_ok,Qd]
 ·rw [if_neg h1]
  have hc:=seen_check ha h1
  simp only [ne_eq,not_true,if_false]
  generalize seenL a l.length=r at hc ⊢
  obtain ⟨r1,r2,r3⟩:=checkR_zero.1 hc
  by_cases h2:l.length=r.length
  ·have h2':¬ ¬ (l.length:Int)=(r.length:Int):=by omega
   rw [if_neg h2']
   obtain ⟨o,e,ho1,ho2⟩:=take_L1 sc l r [] [] h2 rfl (by simp; omega) r1
   have e':Yx (⟨l,sc⟩,r,[],[],0)=some o:=e
   rw [e']
   simp only [Qd,h2,not_true,if_false,h1]
   cases hb:l.any bigM with
   | true=>obtain ⟨m,n,rfl⟩:=ho1 hb; simp [zeroRule]
   | false =>
    rw [ho2 hb]
    have hm:(l.map absI).length≤1000:=by simp; omega
    have hr:r.length≤1000:=by omega
    simp only [List.nil_append,Jq,Qd,Qaa,shapeCheck_ok _ (Sm_le hm),Clone_ok _ hm,Clone_ok _ hr,XY,Bool.false_eq_true,if_false]
    by_cases h4:checkR (l.map absI)=0
    ·simp [h4,show ¬ 16 < r.length by omega]
    ·simp [h4,zeroRule,show ¬ 16 < r.length by omega]
  ·have h2':(l.length:Int)≠(r.length:Int):=by omega
   rw [if_pos h2']; simp [h1,h2,failed_ok,Qd]
def dropD (d v:Int):Int:=d - (if absI v > d then d else absI v)
def dropS (d v:Int):Int:=if v < 0 then 0 else (if absI v > d then d else absI v)
theorem dropped_ok {d:Int} (hd:0≤d∧d≤65536) (v:Int):Qaw (d,v)=some (dropD d v,dropS d v):=by
 simp only [Qaw,Mag_ok,Qd]
 have hr:∀ k:Int,0≤k→k≤d→W (d - k)=d - k:=fun k h1 h2=>W_ok (by omega) (by omega)
 have ha:0≤absI v:=by unfold absI; split <;> omega
 cases hb:bigM v with
 | true =>
  have h1:absI v > d:=by simp [bigM] at hb; unfold absI; split <;> omega
  have w:W 0=0:=by have:=hr d hd.1 (by omega); simpa using this
  by_cases hn:v < 0 <;> simp [Qd,h1,hn,dropD,dropS,w]
 | false =>
  by_cases h1:absI v > d
  ·have w:W 0=0:=by have:=hr d hd.1 (by omega); simpa using this
   by_cases hn:v < 0 <;> simp [Qd,h1,hn,dropD,dropS,w]
  ·have w:=hr (absI v) ha (by omega)
   by_cases hn:v < 0 <;> simp [Qd,h1,hn,dropD,dropS,w]
theorem set_at {α:Type} {p s:List α} {x y:α} {n:Nat} (h:n=p.length):(p++x::s).set n y=p++y::s:=by subst h; simp
theorem drop_L1 (sc:Bool) (v7 v8:List Int):∀ (s p q t:List Int),s.length≤t.length→p.length=q.length→(q++t).length≤1000→v7.length=(q++t).length→v8.length=(q++t).length→Dims t →
  YZ (⟨p++s,sc⟩,q++t,v7,v8,List.zipWith dropD q p++t,List.zipWith dropS q p++List.replicate t.length 0,(p.length:Int))
   = some (List.zipWith dropD q p++(List.zipWith dropD t s++t.drop s.length),List.zipWith dropS q p++(List.zipWith dropS t s++List.replicate (t.length - s.length) 0))
 | [],p,q,t,_,h2,h3,h4,h5,h6=>by
  rw [YZ]; simp only [Z4,if_false]; simp
 | x::s,p,q,y::t,h1,h2,h3,h4,h5,h6=>by
  have hy:=h6 y (List.mem_cons_self ..)
  have hz:(List.zipWith dropD q p).length=p.length:=by simp; omega
  have hz2:(List.zipWith dropS q p).length=p.length:=by simp; omega
  have hi:idx (q++y::t) (p.length:Int)=some y:=by rw [h2]; exact QR
  have g1:(List.zipWith dropD q p++y::t).length=v7.length:=by rw [h4]; simp; omega
  have g2:(List.zipWith dropS q p++List.replicate (y::t).length 0).length=v8.length:=by rw [h5]; simp; omega
  have j1:p.length < (List.zipWith dropD q p++y::t).length:=by simp; omega
  have j2:p.length < (List.zipWith dropS q p++List.replicate (y::t).length 0).length:=by simp; omega
  have s1:(List.zipWith dropD q p++y::t).set p.length (dropD y x)=List.zipWith dropD (q++[y]) (p++[x])++t:=by
   rw [zip_mid h2.symm,set_at hz.symm]; simp
  have s2:(List.zipWith dropS q p++List.replicate (y::t).length 0).set p.length (dropS y x)=List.zipWith dropS (q++[y]) (p++[x])++List.replicate t.length 0:=by
   rw [zip_mid h2.symm,List.length_cons,List.replicate_succ,set_at hz2.symm]; simp
  have ih:=drop_L1 sc v7 v8 s (p++[x]) (q++[y]) t (by simpa using h1) (by simp [h2]) (by rw [← Qz]; exact h3) (by rw [← Qz]; exact h4) (by rw [← Qz]; exact h5) (fun d hd=>h6 d (List.mem_cons_of_mem _ hd))
  rw [← Qz,← Qz] at ih
  have hw:W ((p.length:Int)+1)=((p++[x]).length:Int):=by simp at h1 h3; rw [W_ok (by omega) (by omega)]; simp
  have m1:setM (List.zipWith dropD q p++y::t) (p.length:Int) (dropD y x)=some (List.zipWith dropD (q++[y]) (p++[x])++t):=by
   rw [setM,if_pos ⟨by omega,by simpa using j1⟩,Int.toNat_natCast,s1]
  have m2:setM (List.zipWith dropS q p++List.replicate (y::t).length 0) (p.length:Int) (dropS y x)=some (List.zipWith dropS (q++[y]) (p++[x])++List.replicate t.length 0):=by
   rw [setM,if_pos ⟨by omega,by simpa using j2⟩,Int.toNat_natCast,s2]
  have k1:Xc ((List.zipWith dropD q p++y::t).length=v7.length)=some ():=if_pos g1
  have k2:Xc ((List.zipWith dropS q p++List.replicate (y::t).length 0).length=v8.length)=some ():=if_pos g2
  rw [YZ]
  simp only [Zi,if_true,QR,hi,Qd,dropped_ok hy,k1,k2,idx_ok j1,idx_ok j2,m1,m2,hw,ih]
  rw [zip_mid h2.symm,zip_mid h2.symm]
  simp
 | _::_,_,_,[],h,_,_,_,_,_=>by simp at h
def dropE (l a:List Int):Int:=if a=[]∧l.length > 16 then 7 else if l.length > (seenL a l.length).length then 5 else 0
def dropL (l r:List Int):List Int:=List.zipWith dropD r l++r.drop l.length
def dropF (l r:List Int):List Int:=List.zipWith dropS r l++List.replicate (r.length - l.length) 0
def dropR (l a:List Int):Qt × Int:=if dropE l a=0 then (⟨[],seenL a l.length,dropL l (seenL a l.length),dropF l (seenL a l.length),-1,0,[]⟩,0) else (zeroRule,dropE l a)
theorem dropD_in {d:Int} (hd:0≤d) (v:Int):0≤dropD d v∧dropD d v≤d:=by
 have ha:0≤absI v:=by unfold absI; split <;> omega
 unfold dropD; split <;> omega
theorem below_drop:∀ (l r:List Int),l.length≤r.length→Dims r→Below (dropL l r) r
 | [],r,_,h=>by
  have:dropL [] r=r:=by simp [dropL]
  rw [this]
  induction r with
  | nil=>exact .nil
  | cons y r ih=>exact .cons (h y (List.mem_cons_self ..)).1 (Int.le_refl _) (ih (by simp) (fun d hd=>h d (List.mem_cons_of_mem _ hd)) (by simp [dropL]))
 | x::l,y::r,h1,h=>by
  have e:dropL (x::l) (y::r)=dropD y x::dropL l r:=by simp [dropL]
  have hy:=h y (List.mem_cons_self ..)
  have hd:=dropD_in hy.1 x
  rw [e]
  exact .cons hd.1 hd.2 (below_drop l r (by simpa using h1) fun d hd=>h d (List.mem_cons_of_mem _ hd))
 | _::_,[],h,_=>by simp at h
theorem Drop_ok (l:List Int) (sc:Bool) (a:List Int) (hl:l.length≤1000) (ha:checkR a=0):Qbl (⟨l,sc⟩,a)=some (dropR l a):=by
 by_cases h1:a=[]∧l.length > 16
 ·simp only [Qbl,seen_ok,Qd,dropR,dropE]
  rw [if_pos h1]; simp [h1,failed_ok,Qd]
 ·have hs:Qax (a,(l.length:Int))=some (seenL a l.length,0):=by rw [seen_ok,if_neg h1]
  have hc:=seen_check ha h1
  unfold dropR dropE
  generalize seenL a l.length=r at hs hc ⊢
  simp only [Qbl,hs,Qd,ne_eq,not_true,if_false]
  obtain ⟨r1,r2,r3⟩:=checkR_zero.1 hc
  by_cases h2:l.length > r.length
  ·rw [if_pos (show (l.length:Int) > (r.length:Int) by omega)]; simp [h1,h2,failed_ok,Qd]
  ·have hr:r.length≤1000:=by omega
   have hm:makeM 8 (r.length:Int) 0=some (List.replicate r.length (0:Int)):=by
    rw [makeM,if_pos ⟨by omega,by simp [room]; omega,by omega⟩]; simp
   have e:=drop_L1 sc r (List.replicate r.length 0) l [] [] r (by omega) rfl (by simpa using hr) rfl (by simp) r1
   have e':YZ (⟨l,sc⟩,r,r,List.replicate r.length 0,r,List.replicate r.length 0,0)=some (dropL l r,dropF l r):=e
   have hb:=below_drop l r (by omega) r1
   have hd:(dropL l r).length≤1000:=by rw [hb.len]; omega
   have hf:(dropF l r).length=r.length:=by simp [dropF]; omega
   rw [if_neg (show ¬ (l.length:Int) > (r.length:Int) by omega)]
   simp only [Clone_ok _ hr,hm,Qd,e',Jr,Qac,Xc,hb.len,if_true,shapeCheck_ok _ (Sm_le hd),hb.right hc,ne_eq,not_true,if_false,Clone_ok _ hd,XZ,hf,List.length_replicate,h1,h2]
theorem gEqual_L1:∀ (s t p q:List Int),s.length=t.length→p.length=q.length→Sm (p++s).length→Zb (p++s,q++t,(p.length:Int))=some (if s=t then .inr () else .inl ())
 | [],[],p,q,_,_,hs=>by
  rw [Zb]; simp only [Z4,if_false,if_true]
 | x::s,y::t,p,q,h1,h2,hs=>by
  rw [Zb]
  have ih:=gEqual_L1 s t (p++[x]) (q++[y]) (by simpa using h1) (by simp [h2]) (by rw [← Qz]; exact hs)
  rw [← Qz,← Qz] at ih
  simp only [Zi,if_true,QR,Qd,mid_W hs,ih]
  rw [h2,QR]
  by_cases he:x=y <;> simp [he,Qd]
 | [],_::_,_,_,h,_,_=>by cases h
 | _::_,[],_,_,h,_,_=>by cases h
theorem gEqual_ok (a b:List Int) (hs:Sm a.length):ZH (a,b)=some (decide (a=b)):=by
 simp only [ZH]
 by_cases h:a.length=b.length
 ·have e:=gEqual_L1 a b [] [] h rfl hs
  have e2:¬ ((a.length:Int)≠(b.length:Int)):=by omega
  simp only [e2,if_false]
  have e3:Zb (a,b,0)=_:=e
  rw [e3]
  by_cases hab:a=b
  ·subst hab; simp
  ·rw [if_neg hab,decide_eq_false hab]; rfl
 ·have e2:((a.length:Int)≠(b.length:Int)):=by omega
  have e3:a≠b:=fun e=>h (by rw [e])
  rw [if_pos e2,decide_eq_false e3]
theorem sEqual_ok (a b:List Int) (hs:Sm a.length):YT (a,b)=some (decide (a=b)):=by
 simp only [YT,gEqual_ok a b hs,Qd]
theorem sEqual_ok' (a b:List Int) (hs:Sm b.length):YT (a,b)=some (decide (a=b)):=by
 by_cases h:a.length=b.length
 ·exact sEqual_ok a b (by rw [h]; exact hs)
 ·have e2:((a.length:Int)≠(b.length:Int)):=by omega
  have e3:a≠b:=fun e=>h (by rw [e])
  simp only [YT,ZH]
  rw [if_pos e2,decide_eq_false e3]; rfl
theorem Sum2_ok {a b:Int} (ha:0≤a∧a≤65536) (hb:0≤b∧b≤65536):Qcu [a,b]=some (if a+b > 65536 then (0,7) else (a+b,0)):=by
 have hs:Sm [a,b].length:=by unfold Sm; simp
 have he:errR [a,b]=0:=by
  have h1:negB [a,b]=false:=by simp [negB]; omega
  have h2:bigB [a,b]=false:=by simp [bigB]; omega
  simp [errR,h1,h2]
 have w0:W (0+a)=a:=by rw [W_ok (by omega) (by omega)]; omega
 have w1:W (a+b)=a+b:=W_ok (by omega) (by omega)
 have i0:idx [a,b] 0=some a:=rfl
 have i1:idx [a,b] 1=some b:=rfl
 have c0:W (0+1)=1:=W_ok (by omega) (by omega)
 have c1:W (1+1)=2:=W_ok (by omega) (by omega)
 have hf:QY ([a,b],0,0)=some (if a+b > 65536 then .inl (a+b) else .inr (a+b)):=by
  rw [QY]
  simp only [List.length_cons,List.length_nil,i0,Qd,Qby,w0,show a≤65536 from ha.2,decide_true,Bool.true_eq_false,if_false,c0]
  rw [if_pos (by omega),QY]
  simp only [List.length_cons,List.length_nil,i1,Qd,Qby,w1,c1]
  rw [if_pos (by omega)]
  by_cases h:a+b > 65536
  ·have h':¬ a+b≤65536:=by omega
   simp [h,h']
  ·have h':a+b≤65536:=by omega
   simp only [h',decide_true,Bool.true_eq_false,if_false]
   rw [QY]
   simp [h]
 simp only [Qcu,Y0,sizecheck_ok _ hs,he,Qd,Y1,hf]
 by_cases h:a+b > 65536 <;> simp [h,Qd]
theorem sub_lo {l:List Int} {k:Nat} (h:k≤l.length):sub l 0 (k:Int)=some (l.take k):=by
 rw [sub,if_pos ⟨by omega,by omega,by omega⟩]; simp
theorem sub_hi {l:List Int} {k:Nat} (h:k≤l.length):sub l (k:Int) (l.length:Int)=some (l.drop k):=by
 rw [sub,if_pos ⟨by omega,by omega,by omega⟩]; simp
theorem Concat_ok (ls:List (List Int)) (h1:ls.length≤1000) (h2:ls.flatten.length≤1000000):Yb ls=some ls.flatten:=if_pos ⟨h1,h2⟩
theorem W_nat {k:Nat} (h:k≤1000000):W ((k:Int)+1)=((k+1:Nat):Int):=W_succ (by omega)
theorem Insert_ok (l:List Int) (k:Nat) (v:Int) (hk:k≤l.length) (hl:l.length≤1000):Qay (l,(k:Int),v)=some (insL l k v,0):=by
 have c:=Concat_ok [l.take k,[v],l.drop k] (by simp) (by simp; omega)
 have a1:¬ ((k:Int) < 0):=by omega
 have a2:¬ ((k:Int) > (l.length:Int)):=by omega
 have a3:¬ ((k:Int) > (k:Int)):=by omega
 simp only [Qay,Qbm,Xi,Qd,sub_lo hk,sub_hi hk,Y4,c,a1,a2,a3,if_false,decide_false,Bool.false_eq_true]
 simp [insL]
theorem Replace_ok (l:List Int) (k:Nat) (v:Int) (hk:k < l.length) (hl:l.length≤1000):XF (l,(k:Int),v)=some (repL l k v,0):=by
 have c:=Concat_ok [l.take k,[v],l.drop (k+1)] (by simp) (by simp; omega)
 have a0:¬ ((k:Int)≥(l.length:Int)):=by omega
 have a1:¬ ((k:Int) < 0):=by omega
 have a2:¬ (((k+1:Nat):Int) > (l.length:Int)):=by omega
 have a3:¬ ((k:Int) > ((k+1:Nat):Int)):=by omega
 simp only [XF,Qbm,W_nat (show k≤1000000 by omega),Xj,Qd,sub_lo (show k≤l.length by omega),sub_hi (show k+1≤l.length by omega),Y4,c,a0,a1,a2,a3,if_false,decide_false,Bool.false_eq_true]
 simp [repL]
theorem Remove_ok (l:List Int) (k:Nat) (hk:k < l.length) (hl:l.length≤1000):Xp (l,(k:Int))=some (remL l k,0):=by
 have c:=Concat_ok [l.take k,[],l.drop (k+1)] (by simp) (by simp; omega)
 have a0:¬ ((k:Int)≥(l.length:Int)):=by omega
 have a1:¬ ((k:Int) < 0):=by omega
 have a2:¬ (((k+1:Nat):Int) > (l.length:Int)):=by omega
 have a3:¬ ((k:Int) > ((k+1:Nat):Int)):=by omega
 simp only [Xp,W_nat (show k≤1000000 by omega),Xh,Qd,sub_lo (show k≤l.length by omega),sub_hi (show k+1≤l.length by omega),QaH,c,a0,a1,a2,a3,if_false,decide_false,Bool.false_eq_true]
 simp [remL]
theorem insL_len (p:List Int) (k:Nat) (v:Int):(insL p k v).length=p.length+1:=by simp [insL]; omega
theorem remL_len {l:List Int} {k:Nat} (hk:k < l.length):(remL l k).length+1=l.length:=by simp [remL]; omega
def sumAt (X Y:List Int) (k:Nat):Int:=X.getD k 0+Y.getD k 0
def tailE (X Y:List Int) (k:Nat):Int:=if remL X k≠remL Y k then 5 else if checkR (repL X k (sumAt X Y k))≠0 then 7 else 0
theorem big_rep {X:List Int} {k:Nat} {n:Int} (hX:Dims X) (h0:0≤n) (hn:n > 65536):checkR (repL X k n)≠0:=fun h=>by
 have:=(checkR_zero.1 h).1 n (rep_mem.2 (.inl rfl)); omega
theorem check_rep {X:List Int} {k:Nat} {n:Int} (hX:Dims X) (h0:0≤n) (h:checkR (repL X k n)≠0):checkR (repL X k n)=7:=by
 have hn:negB (repL X k n)=false:=List.any_eq_false.2 fun d hd=>by
  have:0≤d:=by
   rcases rep_mem.1 hd with rfl|h
   ·exact h0
   ·exact (hX d (rem_mem h)).1
  simp; omega
 unfold checkR at h ⊢
 rw [hn] at h ⊢
 simp only [Bool.false_eq_true,if_false] at h ⊢
 split
 ·rfl
 ·rename_i h2; rw [if_neg h2] at h; exact absurd rfl h
theorem cat_tail {p0:Int} {a b X Y:List Int} {k R:Nat} (hR:(max (max (a.length:Int) (b.length:Int)) 1)=(R:Int)) (hk:k < R) (hR16:R≤16) (hax:(if p0=-1 then some (W ((R:Int) - 1)) else some p0)=some (k:Int))
  (hX:Yg (a,b,(R:Int),(k:Int))=some (X,0)) (hY:Yg (b,a,(R:Int),(k:Int))=some (Y,0)) (lX:X.length=R) (lY:Y.length=R) (dX:Dims X) (dY:Dims Y) :
  Y8 (p0,a,b)=some (if tailE X Y k=0 then ⟨X,Y,repL X k (sumAt X Y k),[],k,0,[]⟩ else zeroRule,tailE X Y k):=by
 have hkX:k < X.length:=by omega
 have hkY:k < Y.length:=by omega
 have gX:=getD_in dX hkX
 have gY:=getD_in dY hkY
 have eX:Xp (X,(k:Int))=_:=Remove_ok X k hkX (by omega)
 have eY:Xp (Y,(k:Int))=_:=Remove_ok Y k hkY (by omega)
 have rX:=remL_len hkX
 have e0:∀ n:Int,XF (X,(k:Int),n)=some (repL X k n,0):=fun n=>Replace_ok X k n hkX (by omega)
 simp only [Y8,hR,hax,Qd,hX,hY]
 rw [if_neg (show ¬ ((k:Int)≥(R:Int)) by omega)]
 simp only [ne_eq,not_true,if_false,Qd,bne_self_eq_false,Bool.false_eq_true,QbS,eX,eY,sEqual_ok _ _ (Sm_le (show (remL X k).length≤1000 by omega)),idx_getD hkX,idx_getD hkY,Sum2_ok gX gY,e0]
 unfold tailE
 by_cases h1:remL X k=remL Y k
 ·rw [decide_eq_true h1]
  simp only [Bool.true_eq_false,if_false,h1,not_true,ne_eq]
  by_cases h2:X.getD k 0+Y.getD k 0 > 65536
  ·have h3:checkR (repL X k (sumAt X Y k))≠0:=big_rep dX (by unfold sumAt; omega) h2
   simp only [h2,if_true,Qd,h3,not_false_eq_true,failed_ok]
   rfl
  ·simp only [h2,if_false,Qd,not_true,Xg,J9,Clone_ok Y (show Y.length≤1000 by omega),Jd,Xx]
   have e5:(repL X k (X.getD k 0+Y.getD k 0)).length≤1000:=by rw [rep_len hkX]; omega
   rw [shapeCheck_ok _ (Sm_le e5),Clone_ok _ e5]
   have e6:X.getD k 0+Y.getD k 0=sumAt X Y k:=rfl
   rw [e6]
   by_cases h4:checkR (repL X k (sumAt X Y k))=0
   ·simp [h4,Qd]
   ·have h7:=check_rep dX (by unfold sumAt; omega) h4
    simp [h7,Qd,zeroRule]
 ·rw [decide_eq_false h1]
  simp [h1,Qd,failed_ok]
theorem ins_mem {l:List Int} {i:Nat} {x d:Int} (h:d∈insL l i x):d=x∨d∈l:=by
 simp only [insL,List.mem_append,List.mem_cons] at h
 rcases h with h|h|h
 ·exact .inr (List.mem_of_mem_take h)
 ·exact .inl h
 ·exact .inr (List.mem_of_mem_drop h)
def widR (a b:List Int) (R k:Nat):List Int:=if a.length=R then a else if a.length+1=R then insL a k 1 else repL b k 1
theorem widR_dims {a b:List Int} {R k:Nat} (ha:Dims a) (hb:Dims b):Dims (widR a b R k):=by
 intro d hd
 unfold widR at hd
 split at hd
 ·exact ha d hd
 ·split at hd
  ·rcases ins_mem hd with rfl|h
   ·omega
   ·exact ha d h
  ·rcases rep_mem.1 hd with rfl|h
   ·omega
   ·exact hb d (rem_mem h)
theorem widR_len {a b:List Int} {R k:Nat} (hk:k < R) (h:a.length=R∨a.length+1=R∨b.length=R):(widR a b R k).length=R:=by
 unfold widR
 split
 ·assumption
 ·split
  ·rw [insL_len]; assumption
  ·rw [rep_len (by omega)]; omega
theorem wid_ok {a b:List Int} {R k:Nat} (hk:k < R) (hR:R≤16) (h:a.length=R∨a.length+1=R∨(a.length=0∧b.length=R)):Yg (a,b,(R:Int),(k:Int))=some (widR a b R k,0):=by
 have wR:W ((R:Int) - 1)=(R:Int) - 1:=W_ok (by omega) (by omega)
 simp only [Yg,wR,widR]
 by_cases h1:a.length=R
 ·rw [if_pos (by omega),if_pos h1,Clone_ok a (by omega)]; rfl
 ·rw [if_neg (by omega),if_neg h1]
  by_cases h2:a.length+1=R
  ·rw [if_pos (by omega),if_pos h2,Insert_ok a k 1 (by omega) (by omega)]; rfl
  ·rw [if_neg (by omega),if_neg h2,if_pos (by omega),Replace_ok b k 1 (by omega) (by omega)]; rfl
theorem wid_bad {a b:List Int} {R k:Nat} (hR:R≤16) (h1:a.length≠R) (h2:a.length+1≠R) (h3:a.length≠0):Yg (a,b,(R:Int),(k:Int))=some ([],4):=by
 by_cases hz:R=0
 ·subst hz
  have wR:W (((0:Nat):Int) - 1)=-1:=W_ok (by omega) (by omega)
  simp only [Yg,wR]
  rw [if_neg (by omega),if_neg (by omega),if_neg (by omega)]
 ·have wR:W ((R:Int) - 1)=(R:Int) - 1:=W_ok (by omega) (by omega)
  simp only [Yg,wR]
  rw [if_neg (by omega),if_neg (by omega),if_neg (by omega)]

def catR (p0:Int) (a b:List Int):Qt × Int :=
 let R:=max (max a.length b.length) 1
 let k:=(if p0=-1 then (R:Int) - 1 else p0).toNat
 if p0≥(R:Int) then (zeroRule,4)
 else if (a.length≠R∧a.length+1≠R∧a.length≠0)∨(b.length≠R∧b.length+1≠R∧b.length≠0) then (zeroRule,4)
 else if tailE (widR a b R k) (widR b a R k) k=0 then (⟨widR a b R k,widR b a R k,repL (widR a b R k) k (sumAt (widR a b R k) (widR b a R k) k),[],k,0,[]⟩,0)
 else (zeroRule,tailE (widR a b R k) (widR b a R k) k)
theorem Cat_ok {p0:Int} {a b:List Int} (hp:-1≤p0) (la:a.length≤16) (lb:b.length≤16) (da:Dims a) (db:Dims b):Y8 (p0,a,b)=some (catR p0 a b):=by
 unfold catR
 obtain ⟨R,hRdef⟩:∃ R,R=max (max a.length b.length) 1:=⟨_,rfl⟩
 have hR:(max (max (a.length:Int) (b.length:Int)) 1)=(R:Int):=by omega
 have hR16:R≤16:=by omega
 have wR:W ((R:Int) - 1)=(R:Int) - 1:=W_ok (by omega) (by omega)
 simp only [← hRdef]
 by_cases hbig:p0≥(R:Int)
 ·rw [if_pos hbig]
  simp only [Y8,hR,show ¬ p0=-1 by omega,if_false,Qd,hbig,if_true,failed_ok]
 obtain ⟨k,hk⟩:∃ k:Nat,(k:Int)=if p0=-1 then (R:Int) - 1 else p0:=by
  by_cases h:p0=-1
  ·exact ⟨R - 1,by rw [if_pos h]; omega⟩
  ·exact ⟨p0.toNat,by rw [if_neg h]; omega⟩
 have hkR:k < R:=by by_cases h:p0=-1 <;> simp [h] at hk <;> omega
 have hax1:(if p0=-1 then some (W ((R:Int) - 1)) else some p0)=some (k:Int):=by
  rw [wR,hk]; by_cases h:p0=-1 <;> simp [h]
 rw [if_neg hbig,← hk,Int.toNat_natCast]
 by_cases hbad:(a.length≠R∧a.length+1≠R∧a.length≠0)∨(b.length≠R∧b.length+1≠R∧b.length≠0)
 ·rw [if_pos hbad]
  simp only [Y8,hR,hax1,Qd]
  rw [if_neg (show ¬ ((k:Int)≥(R:Int)) by omega)]
  rcases hbad with ⟨h1,h2,h3⟩|⟨h1,h2,h3⟩
  ·have hb:b.length=R:=by omega
   rw [wid_bad hR16 h1 h2 h3,wid_ok hkR hR16 (.inl hb)]; rfl
  ·have ha:a.length=R:=by omega
   rw [wid_bad hR16 h1 h2 h3,wid_ok hkR hR16 (.inl ha)]; rfl
 ·have hA:a.length=R∨a.length+1=R∨(a.length=0∧b.length=R):=by omega
  have hB:b.length=R∨b.length+1=R∨(b.length=0∧a.length=R):=by omega
  rw [if_neg hbad,cat_tail hR hkR hR16 hax1 (wid_ok hkR hR16 hA) (wid_ok hkR hR16 hB) (widR_len hkR (by omega)) (widR_len hkR (by omega)) (widR_dims da db) (widR_dims db da)]
  split <;> rename_i h
  ·rw [h]
  ·rfl
end Go.Proofs.Tryz
