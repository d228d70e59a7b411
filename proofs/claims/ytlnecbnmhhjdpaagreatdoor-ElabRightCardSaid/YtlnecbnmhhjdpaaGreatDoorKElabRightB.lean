/-
 Models of functions, their walks, and plain laws.
-/
import Derived.Test.YtlnecbnmhhjdpaaGreatDoorKElabRightA
namespace Go.Proofs.Tryz
open Go Go.Pm
set_option linter.unusedVariables false
set_option maxHeartbeats 2000000
set_option maxRecDepth 2000
def Yc (x:(Int × (List Int) × Int × (List Int) × Nat × (List Int) × Nat)):Option ((Nat × (List Int) × Nat)) :=
 match x with
 | (v604,p1,v204,p0,v805,v806,v807) =>
 if (v807:Int)≤v604 then
  Z3 (v806.length=v807)>>=fun (_:Unit) =>
  app 8 v806 ([65536]:List Int)>>=fun v1209 =>
  Yc (v604,p1,v204,p0,(gb v805 ([65536]:List Int).isEmpty),v1209,v1209.length)
 else
 some (v805,v806,v807)
 partial_fixpoint
def Qcs:(Int × (List Int) × Int × (List Int) × Nat × (List Int) × Nat)→(Nat × (List Int) × Nat)→Prop:=fun x r=>match x with
 | (v604,p1,v204,p0,v805,v806,v807)=>∀ st,prune 3 ((QB (QL [1,1,0,1,0,0,1,1,0,0,1,0,0,0] (QN f95))).bind (env.hint 95).keepAt) st=⟨kp 43 [(1,(La p1)),(2,(.ptr 0 0)),(4,(.ptr 1 0)),(6,(.ms 2 v805 0 v807 v807)),(7,(Qg v204)),(8,(Qg v604)),(9,(La p0)),(10,(Qg (p0.length:Int))),(11,(Qg v204))],[(.box [(La p0)]),Qx,(.mt 3 v805 (cellsOf Qi v806))]⟩ →
  RL prog env (env.hint 95) true (QL [1,1,0,1,0,0,1,1,0,0,1,0,0,0] (QN f95)) 3 st (fun e s=>match r with|(v1205,v1206,v1207)=>e=.exit 2∧∃ d,s=⟨sl d 43 [(1,(La p1)),(2,(.ptr 0 0)),(4,(.ptr 1 0)),(6,(.ms 2 v1205 0 v1207 v1207)),(7,(Qg v204)),(8,(Qg v604)),(9,(La p0)),(10,(Qg (p0.length:Int))),(11,(Qg v204))],[(.box [(La p0)]),Qx,(.mt 3 v1205 (cellsOf Qi v1206))]⟩)
theorem Qbf:∀ x r,Yc x=some r→Qcs x r:=by
 refine Yc.partial_correctness _ (fun Yc Qbf x r hm=>?_)
 unfold Qcs
 obtain ⟨v604,p1,v204,p0,v805,v806,v807⟩:=x
 intro st hst
 refine RL_at hst ?_
 clear hst
 refine Qd (Qd (R_G (Qa 1 (Qa 1 (Qa 2 (Qe ?_))))))
 refine Qy hm (rfl) (fun hm=>?_) (fun hm=>?_)
 ·refine Qs (Qu (R_G (Qa 2 ?_)))
  obtain ⟨_,hl1208,hm⟩:=Qh hm
  replace hl1208:=Z7 hl1208
  obtain ⟨v1209,hx,hm⟩:=Qh hm
  refine ZI (v:=.ms 2 (gb v805 ([65536]:List Int).isEmpty) 0 v1209.length v1209.length) (fun H=>H.set 2 (.mt 3 (gb v805 ([65536]:List Int).isEmpty) (cellsOf Qi v1209))) rfl (by kernel_rfl) (fun _ hk=>QgQ Qi (l:=v806) (es:=([65536]:List Int)) (bytes:=8) (e:=3) (tt:=2) (g:=v805) (m:=v807) hx (fun _=>rfl) (by kernel_rfl) (by kernel_rfl) (by kernel_rfl) (by kernel_rfl) rfl rfl (by kernel_rfl) hl1208 (by kernel_rfl) (by kernel_rfl) hk) ?_
  refine Qa 1 (Qe ?_)
  exact Qbf _ _ hm _ (prune_of2 [(.box [(La p0)]),Qx,(.mt 3 (gb v805 ([65536]:List Int).isEmpty) (cellsOf Qi v1209))] (fun _=>(pg_cons (by kernel_rfl) (pg_cons (by kernel_rfl) (pg_cons (purge_mt Qi _ _ _ _ _) pg_nil)))) rfl)
 refine Zh ?_
 obtain rfl:=Qq hm
 exact ⟨rfl,Qp⟩
def ZL (x:((List Int) × (List Int) × Nat × (List Int) × Nat × Int)):Option ((Nat × (List Int) × Nat)) :=
 match x with
 | (p0,p1,v201,v202,v203,v204) =>
 if v204 < (p0.length:Int) then
  idx p0 v204>>=fun v604 =>
  Yc (v604,p1,v204,p0,v201,v202,v203)>>=fun ((v1205,v1206,v1207):(Nat × (List Int) × Nat)) =>
  Z3 (v1206.length=v1207)>>=fun (_:Unit) =>
  idx v1206 v604>>=fun v1210 =>
  idx v1206 v604>>=fun v1212 =>
  idx p1 v204>>=fun v1213 =>
  Z3 (v1206.length=v1207)>>=fun (_:Unit) =>
  idx v1206 v604>>=fun v1214 =>
  setM v1206 v604 (if v1213 < v1212 then v1213 else v1212)>>=fun v1216 =>
  ZL (p0,p1,v1205,v1216,v1207,(W (v204+1)))
 else
 some (v201,v202,v203)
 partial_fixpoint
def Qcr:((List Int) × (List Int) × Nat × (List Int) × Nat × Int)→(Nat × (List Int) × Nat)→Prop:=fun x r=>match x with
 | (p0,p1,v201,v202,v203,v204)=>∀ st,prune 3 ((QB (QL [1,1,0,1,0,0] (QN f95))).bind (env.hint 95).keepAt) st=⟨kp 43 [(1,(La p1)),(2,(.ptr 0 0)),(4,(.ptr 1 0)),(6,(.ms 2 v201 0 v203 v203)),(9,(La p0)),(10,(Qg (p0.length:Int))),(11,(Qg v204))],[(.box [(La p0)]),Qx,(.mt 3 v201 (cellsOf Qi v202))]⟩ →
  RL prog env (env.hint 95) true (QL [1,1,0,1,0,0] (QN f95)) 3 st (fun e s=>match r with|(v601,v602,v603)=>e=.exit 0∧∃ d,s=⟨sl d 43 [(1,(La p1)),(2,(.ptr 0 0)),(4,(.ptr 1 0)),(6,(.ms 2 v601 0 v603 v603))],[(.box [(La p0)]),Qx,(.mt 3 v601 (cellsOf Qi v602))]⟩)
theorem Qbe:∀ x r,ZL x=some r→Qcr x r:=by
 refine ZL.partial_correctness _ (fun ZL Qbe x r hm=>?_)
 unfold Qcr
 obtain ⟨p0,p1,v201,v202,v203,v204⟩:=x
 intro st hst
 refine RL_at hst ?_
 clear hst
 refine Qd (R_G (Qa 1 (Qe (Qd ?_))))
 refine Qy hm (rfl) (fun hm=>?_) (fun hm=>?_)
 ·refine Qs (Qd (Qu (Qd (R_G (Qa 1 ?_)))))
  refine Zj 1 Qi hm rfl (fun _=>rfl) (fun v604 hm=>?_)
  refine Qa 3 (Qe (Qd (Qu ?_)))
  obtain ⟨⟨v1205,v1206,v1207⟩,hs,hm⟩:=Qh hm
  refine Zk ?_
  refine RL_use (Qbf _ _ hs) (prune_of2 [(.box [(La p0)]),Qx,(.mt 3 v201 (cellsOf Qi v202))] (fun _=>(pg_cons (by kernel_rfl) (pg_cons (by kernel_rfl) (pg_cons (purge_mt Qi _ _ _ _ _) pg_nil)))) rfl) ?_
  clear hs
  intro e s hp
  obtain ⟨rfl,d,rfl⟩:=hp
  refine QaB ?_
  refine Qa 4 ?_
  obtain ⟨_,hl1211,hm⟩:=Qh hm
  replace hl1211:=Z7 hl1211
  obtain ⟨v1210,hx,hm⟩:=Qh hm
  refine Zt rfl (fun _=>Qfl (e:=3) (n:=v604) (j:=(v604).toNat) (tt:=2) (g:=v1205) (lo:=0) (len:=v1207) (cap:=v1207) (k:=.i64) (by kernel_rfl) (by kernel_rfl) rfl (by kernel_rfl) (by kernel_rfl) (idx_nat hx) (Nat.lt_of_lt_of_eq (idx_lt hx) hl1211)) ?_
  obtain ⟨v1212,hx,hm⟩:=Qh hm
  refine Zt rfl (fun _=>Qhe (tt:=2) (g:=v1205) (j:=(0+(v604).toNat)) (e:=3) (cs:=cellsOf Qi v1206) (v:=.dat (Qi v1212)) (by kernel_rfl) (by kernel_rfl) rfl (by kernel_rfl) (ZP (by kernel_rfl)) (cells_idx Qi hx)) ?_
  refine Qa 2 ?_
  refine Zj 1 Qi hm rfl (fun _=>rfl) (fun v1213 hm=>?_)
  refine Qa 1 ?_
  refine Zt rfl (fun _=>Qhx (k:=.i64) (m:=v1212) (n:=v1213) rfl (by kernel_rfl) (by kernel_rfl)) ?_
  obtain ⟨_,hl1215,hm⟩:=Qh hm
  replace hl1215:=Z7 hl1215
  obtain ⟨v1214,hx,hm⟩:=Qh hm
  refine Zt rfl (fun _=>Qfl (e:=3) (n:=v604) (j:=(v604).toNat) (tt:=2) (g:=v1205) (lo:=0) (len:=v1207) (cap:=v1207) (k:=.i64) (by kernel_rfl) (by kernel_rfl) rfl (by kernel_rfl) (by kernel_rfl) (idx_nat hx) (Nat.lt_of_lt_of_eq (idx_lt hx) hl1215)) ?_
  obtain ⟨v1216,hx,hm⟩:=Qh hm
  refine ZI (fun H=>H.set 2 (.mt 3 v1205 (cellsOf Qi v1216))) rfl (by kernel_rfl) (fun _=>Qhh Qi (l:=v1206) (n:=v604) (y:=(if v1213 < v1212 then v1213 else v1212)) hx (fun _=>rfl) (by kernel_rfl) rfl (by kernel_rfl) (by kernel_rfl) (by kernel_rfl) (by kernel_rfl)) ?_
  refine Qe ⟨by kernel_rfl,?_⟩
  refine R_G (Qa 2 (Qe ?_))
  exact Qbe _ _ hm _ (prune_of2 [(.box [(La p0)]),Qx,(.mt 3 v1205 (cellsOf Qi v1216))] (fun _=>(pg_cons (by kernel_rfl) (pg_cons (by kernel_rfl) (pg_cons (purge_mt Qi _ _ _ _ _) pg_nil)))) rfl)
 refine Zh ?_
 obtain rfl:=Qq hm
 exact ⟨rfl,Qp⟩
def XW (x:((List Int) × (List Int))):Option (Qn × Int) :=
 match x with
 | (p0,p1) =>
 ZL (p0,p1,0,([]:List Int),([]:List Int).length,0)>>=fun ((v601,v602,v603):(Nat × (List Int) × Nat)) =>
 (
 Qaa (p1,v601,v602,v603,p0)>>=fun (out:Int ⊕ ((List Int) × (List Int))) =>
 match out with
 | .inl v1217 =>
  some ((⟨([]:(List Int)),([]:(List Int)),([]:(List Int)),([]:(List Int)),0,0,([]:(List Int))⟩:Qn),v1217)
 | .inr ((v1218,v1219)) =>
  some ((⟨([]:(List Int)),v1218,v1219,([]:(List Int)),(-1),0,p0⟩:Qn),0)
 )
def QdE:((List Int) × (List Int))→(Qn × Int)→Prop:=fun x r=>match x,r with
 | (p0,p1),(r0,r1)=>∀ H,PC prog env 95 ([(Lb p0),(Lb p1)].map .dat) H (.tup [(.dat (Qn.toD r0)),(Qg r1)]) H
theorem QdI:∀ x r,XW x=some r→QdE x r:=by
 intro x r hm
 unfold XW at hm
 unfold QdE
 obtain ⟨p0,p1⟩:=x
 obtain ⟨r0,r1⟩:=r
 intro H
 refine PC_sx (ds:=[(Lb p0),(Lb p1)]) (fn:=f95) rfl ?_
 refine Qd (R_G (Qa 3 (Qe (Qd (R_G (Qa 1 (Qe (Qd (Qd (R_G (Qa 1 ?_)))))))))))
 refine QP Qi p0 (es:=(List.map Qi) p0) rfl ?_
 refine Qa 1 (Qe (Qu ?_))
 obtain ⟨⟨v601,v602,v603⟩,hs,hm⟩:=Qh hm
 refine Zk ?_
 refine RL_use (Qbe _ _ hs) (prune_of2 [(.box [(La p0)]),Qx,(.mt 3 0 (cellsOf Qi ([]:List Int)))] (fun _=>(pg_cons (by kernel_rfl) (pg_cons (by kernel_rfl) (pg_cons (purge_mt Qi _ _ _ _ _) pg_nil)))) rfl) ?_
 clear hs
 intro e s hp
 obtain ⟨rfl,d,rfl⟩:=hp
 refine Qd (R_G (Qa 4 ?_))
 obtain ⟨out,hx,hm⟩:=Qh hm
 rcases out with v1217|⟨v1218,v1219⟩
 ·have hq:=QcQ _ _ hx
  dsimp only [J1] at hq
  refine Q0 hq ?_
  refine Qa 4 (Qe (Qo ?_))
  obtain ⟨rfl,rfl⟩:=Zl hm
  exact ⟨trivial,Qk⟩
 ·have hq:=QcQ _ _ hx
  dsimp only [J1] at hq
  refine Q0 hq ?_
  refine Qa 4 (Qe (Qo ?_))
  obtain ⟨rfl,rfl⟩:=Zl hm
  exact ⟨trivial,Xi [(.agg [Ea,(.ms 5 1 0 v1218.length v1218.length),(.ms 6 1 0 v1219.length v1219.length),Ea,(Qg (-1)),(Qg 0),(La p0)]),(Qg 0)] (by kernel_rfl) (po_tup (ps_cons (p1_agg (pc_cons (by kernel_rfl) (pc_cons (pc_ms (e:=3) Qi v1218 rfl (fun _=>rfl) (by kernel_rfl)) (pc_cons (pc_ms (e:=3) Qi v1219 rfl (fun _=>rfl) (by kernel_rfl)) (pc_cons (by kernel_rfl) (pc_cons (by kernel_rfl) (pc_cons (by kernel_rfl) (pc_cons (by kernel_rfl) pc_nil)))))))) (ps_cons (by kernel_rfl) ps_nil)))⟩
def Xe (x:((List Int) × (List Int) × Int)):Option ((List Int)) :=
 match x with
 | (p0,v201,v202) =>
 if v202 < (p0.length:Int) then
  app 8 v201 ([(W ((W ((p0.length:Int) - 1)) - v202))]:List Int)>>=fun v602 =>
  Xe (p0,v602,(W (v202+1)))
 else
 some v201
 partial_fixpoint
def QdV:((List Int) × (List Int) × Int)→(List Int)→Prop:=fun x r=>match x with
 | (p0,v201,v202)=>∀ st,prune 2 ((QB (QL [1,1,0,1,0,0] (QN f72))).bind (env.hint 72).keepAt) st=⟨kp 25 [(0,(La p0)),(2,(.ptr 0 0)),(4,(.vec 1 ((List.map Qi) v201))),(7,(Qg (p0.length:Int))),(8,(Qg v202))],[Qx,(.tok 3 v201.length)]⟩ →
  RL prog env (env.hint 72) true (QL [1,1,0,1,0,0] (QN f72)) 2 st (fun e s=>match r with|v601=>e=.exit 0∧∃ d,s=⟨sl d 25 [(0,(La p0)),(2,(.ptr 0 0)),(4,(.vec 1 ((List.map Qi) v601)))],[Qx,(.tok 3 v601.length)]⟩)
theorem QcA:∀ x r,Xe x=some r→QdV x r:=by
 refine Xe.partial_correctness _ (fun Xe QcA x r hm=>?_)
 unfold QdV
 obtain ⟨p0,v201,v202⟩:=x
 intro st hst
 refine RL_at hst ?_
 clear hst
 refine Qd (R_G (Qa 1 (Qe (Qd ?_))))
 refine Qy hm (rfl) (fun hm=>?_) (fun hm=>?_)
 ·refine Qs (Qd (Qu (Qd (R_G (Qa 2 (Qe (R_G (Qa 2 ?_))))))))
  refine QP Qi p0 (es:=(List.map Qi) p0) rfl ?_
  refine Qa 4 ?_
  obtain ⟨v602,hx,hm⟩:=Qh hm
  refine Qc7 3 1 8 1 Qi v201 ([(W ((W ((p0.length:Int) - 1)) - v202))]:List Int) v602 (xs:=(List.map Qi) v201) (es:=(List.map Qi) ([(W ((W ((p0.length:Int) - 1)) - v202))]:List Int)) (L:=(List.map Qi)) (fun _=>rfl) rfl rfl (fun _=>rfl) hx ?_
  refine Qa 1 (Qe (R_G (Qa 2 (Qe ?_))))
  exact QcA _ _ hm _ (by kernel_rfl)
 refine Zh ?_
 obtain rfl:=Qq hm
 exact ⟨rfl,Qp⟩
def Qb7 (x:(List Int)):Option (Qn × Int) :=
 match x with
 | p0 =>
 Xe (p0,([]:List Int),0)>>=fun (v601:(List Int)) =>
 XW (v601,p0)>>=fun ((v603,v604):(Qn × Int)) =>
 some (v603,v604)
def QfB:(List Int)→(Qn × Int)→Prop:=fun x r=>match x,r with
 | p0,(r0,r1)=>∀ H,PC prog env 72 ([(Lb p0)].map .dat) H (.tup [(.dat (Qn.toD r0)),(Qg r1)]) H
theorem QgN:∀ x r,Qb7 x=some r→QfB x r:=by
 intro p0 r hm
 unfold Qb7 at hm
 unfold QfB
 obtain ⟨r0,r1⟩:=r
 intro H
 refine PC_sx (ds:=[(Lb p0)]) (fn:=f72) rfl ?_
 refine Qd (R_G (Qa 2 (Qe (Qd (R_G (Qa 1 (Qe (Qd (Qd (R_G (Qa 1 ?_)))))))))))
 refine QP Qi p0 (es:=(List.map Qi) p0) rfl ?_
 refine Qa 1 (Qe (Qu ?_))
 obtain ⟨v601,hs,hm⟩:=Qh hm
 refine Zk ?_
 refine RL_use (QcA _ _ hs) (by kernel_rfl) ?_
 clear hs
 intro e s hp
 obtain ⟨rfl,d,rfl⟩:=hp
 refine Qd (R_G (Qa 2 ?_))
 obtain ⟨⟨v603,v604⟩,hx,hm⟩:=Qh hm
 have hq:=QdI _ _ hx []
 refine Qr hq ?_
 refine Qa 4 (Qe (Qo ?_))
 obtain ⟨rfl,rfl⟩:=Zl hm
 exact ⟨trivial,Qk⟩
def Xj (x:(Qn × Qc)):Option Qc :=
 match x with
 | (p0,p1) =>
 some (⟨5,p0.shape,0,([]:(List Int)),0,0,p0.perm,([(⟨p1.kind,p1.shape,p1.buffer,p1.starts,p1.axis,p1.amount,p1.perm,p1.kids⟩:Qc)]:(List Qc))⟩:Qc)
def QcI:(Qn × Qc)→Qc→Prop:=fun x r=>match x,r with
 | (p0,p1),r0=>∀ H,PC prog env 73 ([(Qn.toD p0),(Qc.ex p1)].map .dat) H (.dat (Qc.ex r0)) H
theorem QcO:∀ x r,Xj x=some r→QcI x r:=by
 intro x r0 hm
 unfold Xj at hm
 unfold QcI
 obtain ⟨p0,p1⟩:=x
 intro H
 refine PC_sx (ds:=[(Qn.toD p0),(Qc.ex p1)]) (fn:=f73) rfl ?_
 refine Qd (R_G (Qa 3 (Qe (Qd (R_G (Qa 8 (Qe (Qo ?_))))))))
 obtain rfl:=Qq hm
 exact ⟨trivial,Qk⟩
def Qab (x:((List Int) × (List Int))):Option (Int ⊕ ((List Int) × (List Int))) :=
 match x with
 | (q0,q1) =>
 Zo q1>>=fun (v1:Int) =>
 if v1≠0 then
  some (Sum.inl v1)
 else
 QA q0>>=fun v2 =>
 QA q1>>=fun v3 =>
 some (Sum.inr (v2,v3))
def J2:((List Int) × (List Int))→(Int ⊕ ((List Int) × (List Int)))→Prop:=fun x r=>match x with
 | (q0,q1)=>PC prog env 93 [(La q0),(La q1),(.dat (.lst []))] [Qx] (match r with|.inl v5001=>(.tup [(.dat (.agg [Eb,Eb,Eb,Eb,(Qi 0),(Qi 0),Eb])),(Qg v5001)])|.inr ((v5002,v5003))=>(.tup [(.agg [Ea,(.ms 2 1 0 v5002.length v5002.length),(.ms 3 1 0 v5003.length v5003.length),Ea,(Qg (-1)),(Qg 0),Ea]),(Qg 0)])) (match r with|.inl v5001=>[Qx,Qx]|.inr ((v5002,v5003))=>[Qx,(.box [Ea,(.ms 2 1 0 v5002.length v5002.length),(.ms 3 1 0 v5003.length v5003.length),Ea,(Qg (-1)),(Qg 0),Ea]),(.mt 3 1 (cellsOf Qi v5002)),(.mt 3 1 (cellsOf Qi v5003)),(.box [Ea,(.ms 2 1 0 v5002.length v5002.length),(.ms 3 1 0 v5003.length v5003.length),Ea,(Qg (-1)),(Qg 0),Ea])])
theorem QcR:∀ x r,Qab x=some r→J2 x r:=by
 intro x r hm
 unfold Qab at hm
 unfold J2
 obtain ⟨q0,q1⟩:=x
 refine PC_sxB (fn:=f93) rfl ?_
 refine Qd (R_G (Qa 2 (Qe (Qd (Qd (R_G (Qa 1 ?_)))))))
 obtain ⟨v1,hx,hm⟩:=Qh hm
 have hq:=ZE _ _ hx []
 refine Qr hq ?_
 refine Qa 1 (Qe (Qd (R_G (Qa 2 (Qe ?_)))))
 refine Qy hm (ne_dec _ _) (fun hm=>?_) (fun hm=>?_)
 ·refine Qd (R_G (Qa 4 (Qe (Qo ?_))))
  obtain rfl:=Qq hm
  exact ⟨trivial,QM (by kernel_rfl) (by kernel_rfl)⟩
 refine Qs (Qd (R_G (Qa 1 ?_)))
 obtain ⟨v2,hx,hm⟩:=Qh hm
 have hq:=QF _ _ hx
 dsimp only [QC] at hq
 have hl9:mtOf [Blk.mt 3 (cgm_slices_Clone_int_int v2) (cellsOf Qi v2)] 0=some (3,cgm_slices_Clone_int_int v2,cellsOf Qi v2):=ZP (by kernel_rfl)
 refine ZI (v:=.ms 2 1 0 v2.length v2.length) (fun H=>H++[.mt 3 1 (cellsOf Qi v2)]) rfl (by kernel_rfl) ?_ ?_
 ·intro K hk
  refine Zz 2 (first:=#[]) (cap:=#[]) (j:=(0,3)) (ow':=[]) (f0:=Qi) (l:=v2) rfl ?_ ?_ ?_ (ds:=[.lst ((List.map Qi) q0)]) ?_ hq hl9 ?_ ?_ ?_
  ·kernel_rfl
  ·kernel_rfl
  ·kernel_rfl
  ·kernel_rfl
  ·exact hk
  ·kernel_rfl
  ·decide
 refine Qa 1 ?_
 obtain ⟨v3,hx,hm⟩:=Qh hm
 have hq:=QF _ _ hx
 dsimp only [QC] at hq
 have hl9:mtOf [Blk.mt 3 (cgm_slices_Clone_int_int v3) (cellsOf Qi v3)] 0=some (3,cgm_slices_Clone_int_int v3,cellsOf Qi v3):=ZP (by kernel_rfl)
 refine ZI (v:=.ms 3 1 0 v3.length v3.length) (fun H=>H++[.mt 3 1 (cellsOf Qi v3)]) rfl (by kernel_rfl) ?_ ?_
 ·intro K hk
  refine Zz 3 (first:=#[]) (cap:=#[]) (j:=(0,3)) (ow':=[]) (f0:=Qi) (l:=v3) rfl ?_ ?_ ?_ (ds:=[.lst ((List.map Qi) q1)]) ?_ hq hl9 ?_ ?_ ?_
  ·kernel_rfl
  ·kernel_rfl
  ·kernel_rfl
  ·kernel_rfl
  ·exact hk
  ·kernel_rfl
  ·decide
 refine Qa 3 (Qe (Qd (Qd (R_G (Qa 1 (Qa 1 (Qa 1 (Qe (Qu ?_)))))))))
 refine Zk ?_
 refine RL_at (st':=⟨kp 33 [(6,(.ptr 1 0)),(9,(.ptr 4 0)),(23,(.dat (.lst []))),(24,(Qg 0)),(25,(Qg 0))],[Qx,Qx,(.mt 3 1 (cellsOf Qi v2)),(.mt 3 1 (cellsOf Qi v3)),(.box [Ea,(.ms 2 1 0 v2.length v2.length),(.ms 3 1 0 v3.length v3.length),Ea,(Qg (-1)),(Qg 0),Ea])]⟩) (prune_of2 [Qx,Qx,(.mt 3 1 (cellsOf Qi v2)),(.mt 3 1 (cellsOf Qi v3)),(.box [Ea,(.ms 2 1 0 v2.length v2.length),(.ms 3 1 0 v3.length v3.length),Ea,(Qg (-1)),(Qg 0),Ea])] (fun _=>(pg_cons (by kernel_rfl) (pg_cons (by kernel_rfl) (pg_cons (purge_mt Qi _ _ _ _ _) (pg_cons (purge_mt Qi _ _ _ _ _) (pg_cons (by kernel_rfl) pg_nil)))))) rfl) ?_
 refine Qd (R_G (Qa 1 (Qe (Qd ?_))))
 refine Xh (by kernel_rfl) ?_
 refine Zh (Qd (R_G (Qa 3 (Qe (Qo ?_)))))
 obtain rfl:=Qq hm
 exact ⟨trivial,QM (by kernel_rfl) (by kernel_rfl)⟩
def Qbv (x:(List Int)):Option (Qn × Int) :=
 match x with
 | p0 =>
 JV p0>>=fun (v1:Int) =>
 (
 Qab (p0,([v1]:List Int))>>=fun (out:Int ⊕ ((List Int) × (List Int))) =>
 match out with
 | .inl v2 =>
  some ((⟨([]:(List Int)),([]:(List Int)),([]:(List Int)),([]:(List Int)),0,0,([]:(List Int))⟩:Qn),v2)
 | .inr ((v3,v4)) =>
  some ((⟨([]:(List Int)),v3,v4,([]:(List Int)),(-1),0,([]:(List Int))⟩:Qn),0)
 )
def Qfa:(List Int)→(Qn × Int)→Prop:=fun x r=>match x,r with
 | p0,(r0,r1)=>∀ H,PC prog env 74 ([(Lb p0)].map .dat) H (.tup [(.dat (Qn.toD r0)),(Qg r1)]) H
theorem Qgs:∀ x r,Qbv x=some r→Qfa x r:=by
 intro p0 r hm
 unfold Qbv at hm
 unfold Qfa
 obtain ⟨r0,r1⟩:=r
 intro H
 refine PC_sx (ds:=[(Lb p0)]) (fn:=f74) rfl ?_
 refine Qd (R_G (Qa 2 (Qe (Qd (R_G (Qa 2 ?_))))))
 obtain ⟨v1,hx,hm⟩:=Qh hm
 have hq:=QeT _ _ hx []
 refine Qr hq ?_
 refine Qa 1 ?_
 obtain ⟨out,hx,hm⟩:=Qh hm
 rcases out with v2|⟨v3,v4⟩
 ·have hq:=QcR _ _ hx
  dsimp only [J2] at hq
  refine Q0 hq ?_
  refine Qa 4 (Qe (Qo ?_))
  obtain ⟨rfl,rfl⟩:=Zl hm
  exact ⟨trivial,Qk⟩
 ·have hq:=QcR _ _ hx
  dsimp only [J2] at hq
  refine Q0 hq ?_
  refine Qa 4 (Qe (Qo ?_))
  obtain ⟨rfl,rfl⟩:=Zl hm
  exact ⟨trivial,Xi [(.agg [Ea,(.ms 2 1 0 v3.length v3.length),(.ms 3 1 0 v4.length v4.length),Ea,(Qg (-1)),(Qg 0),Ea]),(Qg 0)] (by kernel_rfl) (po_tup (ps_cons (p1_agg (pc_cons (by kernel_rfl) (pc_cons (pc_ms (e:=3) Qi v3 rfl (fun _=>rfl) (by kernel_rfl)) (pc_cons (pc_ms (e:=3) Qi v4 rfl (fun _=>rfl) (by kernel_rfl)) (pc_cons (by kernel_rfl) (pc_cons (by kernel_rfl) (pc_cons (by kernel_rfl) (pc_cons (by kernel_rfl) pc_nil)))))))) (ps_cons (by kernel_rfl) ps_nil)))⟩
def Xr (x:(Qc × (List Int))):Option Qc :=
 match x with
 | (p0,p1) =>
 some (⟨6,p1,0,([]:(List Int)),0,0,([]:(List Int)),([(⟨p0.kind,p0.shape,p0.buffer,p0.starts,p0.axis,p0.amount,p0.perm,p0.kids⟩:Qc)]:(List Qc))⟩:Qc)
def QdB:(Qc × (List Int))→Qc→Prop:=fun x r=>match x,r with
 | (p0,p1),r0=>∀ H,PC prog env 75 ([(Qc.ex p0),(Lb p1)].map .dat) H (.dat (Qc.ex r0)) H
theorem Qcb:∀ x r,Xr x=some r→QdB x r:=by
 intro x r0 hm
 unfold Xr at hm
 unfold QdB
 obtain ⟨p0,p1⟩:=x
 intro H
 refine PC_sx (ds:=[(Qc.ex p0),(Lb p1)]) (fn:=f75) rfl ?_
 refine Qd (R_G (Qa 2 (Qe (Qd (R_G (Qa 5 (Qe (Qo ?_))))))))
 obtain rfl:=Qq hm
 exact ⟨trivial,Qk⟩
def Qbs (x:(Qf × Qc)):Option (Qc × Int) :=
 match x with
 | (p0,p1) =>
 if p0.fn=3 then
  Qaq (p0.axis,p1.shape)>>=fun ((v1,v2):(Qn × Int)) =>
  JQ (3,v1,p1)>>=fun (v3:Qc) =>
  some (v3,v2)
 else
 if p0.fn=4 then
  Qb7 p1.shape>>=fun ((v4,v5):(Qn × Int)) =>
  Xj (v4,p1)>>=fun (v6:Qc) =>
  some (v6,v5)
 else
 Qbv p1.shape>>=fun ((v7,v8):(Qn × Int)) =>
 Xr ((⟨p1.kind,p1.shape,p1.buffer,p1.starts,p1.axis,p1.amount,p1.perm,p1.kids⟩:Qc),v7.shape)>>=fun (v9:Qc) =>
 some (v9,v8)
def Qe5:(Qf × Qc)→(Qc × Int)→Prop:=fun x r=>match x,r with
 | (p0,p1),(r0,r1)=>∀ H,PC prog env 47 ([(Qf.ex p0),(Qc.ex p1)].map .dat) H (.tup [(.dat (Qc.ex r0)),(Qg r1)]) H
theorem Qgp:∀ x r,Qbs x=some r→Qe5 x r:=by
 intro x r hm
 unfold Qbs at hm
 unfold Qe5
 obtain ⟨p0,p1⟩:=x
 obtain ⟨r0,r1⟩:=r
 intro H
 refine PC_sx (ds:=[(Qf.ex p0),(Qc.ex p1)]) (fn:=f47) rfl ?_
 refine Qd (R_G (Qa 4 (Qe (Qd (Qd (R_G (Qa 2 (Qe (Qu (Qd (R_G ?_)))))))))))
 refine Qa 2 (Qe ?_)
 refine Qy hm (ZN _ _) (fun hm=>?_) (fun hm=>?_)
 ·refine Qd (R_G (Qa 4 ?_))
  obtain ⟨⟨v1,v2⟩,hx,hm⟩:=Qh hm
  have hq:=Qf0 _ _ hx []
  refine Qr hq ?_
  refine Qa 6 (Qe (Qd (R_G (Qa 2 ?_))))
  obtain ⟨v3,hx,hm⟩:=Qh hm
  have hq:=QeN _ _ hx []
  refine Qr hq ?_
  refine Qa 3 (Qe (Qo ?_))
  obtain ⟨rfl,rfl⟩:=Zl hm
  exact ⟨trivial,Qk⟩
 refine Qd (R_G (Qa 2 (Qe ?_)))
 refine Qy hm (ZN _ _) (fun hm=>?_) (fun hm=>?_)
 ·refine Qd (R_G (Qa 2 ?_))
  obtain ⟨⟨v4,v5⟩,hx,hm⟩:=Qh hm
  have hq:=QgN _ _ hx []
  refine Qr hq ?_
  refine Qa 6 (Qe (Qd (R_G (Qa 2 ?_))))
  obtain ⟨v6,hx,hm⟩:=Qh hm
  have hq:=QcO _ _ hx []
  refine Qr hq ?_
  refine Qa 3 (Qe (Qo ?_))
  obtain ⟨rfl,rfl⟩:=Zl hm
  exact ⟨trivial,Qk⟩
 refine Qs (Qd (R_G (Qa 2 ?_)))
 obtain ⟨⟨v7,v8⟩,hx,hm⟩:=Qh hm
 have hq:=Qgs _ _ hx []
 refine Qr hq ?_
 refine Qa 6 (Qe (Qd (R_G (Qa 3 ?_))))
 obtain ⟨v9,hx,hm⟩:=Qh hm
 have hq:=Qcb _ _ hx []
 refine Qr hq ?_
 refine Qa 3 (Qe (Qo ?_))
 obtain ⟨rfl,rfl⟩:=Zl hm
 exact ⟨trivial,Qk⟩
def XJ (x:Unit):Option (Unit) :=
 match x with
 | _ =>
 some ()
def Qbc:Unit→Unit→Prop:=fun x r=>match x with
 | _=>PC prog env 48 [] [] (match r with|_=>(.mapv 0)) (match r with|_=>[(.map [(.bool true,(.dat (.raw (.func (.func 76) #[] #[])))),(.bool false,(.dat (.raw (.func (.func 77) #[] #[]))))])])
theorem Qe0:∀ x r,XJ x=some r→Qbc x r:=by
 intro x r hm
 unfold XJ at hm
 unfold Qbc
 refine PC_sxB (fn:=f48) rfl ?_
 refine Qd (R_G (Qa 1 (Qe (Qd (R_G (Qa 1 (Qa 1 (Qa 1 (Qa 2 (Qe (Qo ?_)))))))))))
 obtain rfl:=Qq hm
 exact ⟨trivial,QM (by kernel_rfl) (by kernel_rfl)⟩
def Qbj (x:Int):Option Int :=
 match x with
 | p0 =>
 some p0
def QfF:Int→Int→Prop:=fun x r=>match x,r with
 | p0,v5001=>∀ H,PC prog env 150 ([(Qi p0)].map .dat) H (.fn 157 [(.iptr [(Qi v5001)])]) H
theorem QfH:∀ x r,Qbj x=some r→QfF x r:=by
 intro p0 v5001 hm
 unfold Qbj at hm
 unfold QfF
 intro H
 refine PC_sx (ds:=[(Qi p0)]) (fn:=f150) rfl ?_
 refine Qd (R_G (Qa 2 (Qe (Qd (R_G (Qa 2 (Qe (Qo ?_))))))))
 obtain rfl:=Qq hm
 exact ⟨trivial,Qk⟩
def YX (x:Int):Option (Unit) :=
 match x with
 | q0 =>
 some ()
def Jh:Int→Unit→Prop:=fun x r=>match x with
 | q0=>PC prog env 157 [(.iptr [(Qi q0)])] [] (match r with|_=>(La ([q0]:List Int))) (match r with|_=>[])
theorem Qcg:∀ x r,YX x=some r→Jh x r:=by
 intro q0 r hm
 unfold YX at hm
 unfold Jh
 refine PC_sxB (fn:=f157) rfl ?_
 refine Qd (R_G (Qa 1 (Qe (Qd (R_G (Qa 3 (Qe (Qo ?_))))))))
 obtain rfl:=Qq hm
 exact ⟨trivial,QM (by kernel_rfl) (by kernel_rfl)⟩
def Y8 (x:((List Int) × Int × Int)):Option (((List Int) × Int)) :=
 match x with
 | (q0,q1,q2) =>
 ((if q1 < 0 then
  some true
 else
 some (decide (q1 > (q0.length:Int)))
 )>>=fun (v2:Bool) =>
 if v2=true then
  some true
 else
 some (decide (q1 > q1))
 )>>=fun (v1:Bool) =>
 if v1=true then
  some (([]:List Int),4)
 else
 sub q0 0 q1>>=fun v3 =>
 YX q2>>=fun (_:Unit) =>
 sub q0 q1 (q0.length:Int)>>=fun v4 =>
 Z9 ([v3,([q2]:List Int),v4]:List (List Int))>>=fun (v5:(List Int)) =>
 some (v5,0)
def X9:((List Int) × Int × Int)→((List Int) × Int)→Prop:=fun x r=>match x with
 | (q0,q1,q2)=>PC prog env 149 [(La q0),(Qg q1),(Qg q1),(.fn 157 [(.iptr [(Qi q2)])])] [] (match r with|(v5001,v5002)=>(.tup [(La v5001),(Qg v5002)])) (match r with|(v5001,v5002)=>[])
theorem Qc3:∀ x r,Y8 x=some r→X9 x r:=by
 intro x r hm
 unfold Y8 at hm
 unfold X9
 obtain ⟨q0,q1,q2⟩:=x
 refine PC_sxB (fn:=f149) rfl ?_
 refine Qd (R_G (Qa 2 (Qe (Qd (Qd ?_)))))
 obtain ⟨v1,hs,hm⟩:=Qh hm
 refine Yx (fun d=>⟨sl d 33 [(0,(La q0)),(1,(Qg q1)),(2,(Qg q1)),(3,(.fn 157 [(.iptr [(Qi q2)])])),(22,(Qm v1))],[]⟩) ?_ (fun d=>?_)
 ·replace hm:=hs
  clear hs
  refine QcY ?_
  refine Qa 3 ?_
  obtain ⟨v2,hs,hm⟩:=Qh hm
  refine YC (j:=8) (fun d=>⟨sl d 33 [(0,(La q0)),(1,(Qg q1)),(2,(Qg q1)),(3,(.fn 157 [(.iptr [(Qi q2)])])),(17,(Qm v2))],[]⟩) (fun d=>?_) (fun hJ=>?_)
  ·clear hs
   refine Qa 1 ?_
   refine Qw 18 hm (Qz _) (fun hm=>?_) (fun hm=>?_)
   ·refine Qa 4 ?_
    refine Qe ⟨by kernel_rfl,?_⟩
    obtain rfl:=Qq hm
    exact Qp
   refine Qa 4 ?_
   refine Qe ⟨by kernel_rfl,?_⟩
   obtain rfl:=Qq hm
   exact Qp
  clear hm
  refine Qw 12 hs (rfl) (fun hm=>?_) (fun hm=>?_)
  ·refine Qa 5 ?_
   obtain rfl:=Qq hm
   exact hJ _ _
  refine Qa 2 ?_
  refine QP Qi q0 (es:=(List.map Qi) q0) rfl ?_
  refine Qa 2 ?_
  obtain rfl:=Qq hm
  exact hJ _ _
 clear hs
 refine Qy hm (Qz _) (fun hm=>?_) (fun hm=>?_)
 ·refine Qd (R_G (Qa 2 (Qe (Qo ?_))))
  obtain rfl:=Qq hm
  exact ⟨trivial,QM (by kernel_rfl) (by kernel_rfl)⟩
 refine Qs (Qd ?_)
 refine QaB ?_
 refine Qa 2 ?_
 obtain ⟨v3,hx,hm⟩:=Qh hm
 refine Qgl 1 Qi q0 v3 0 q1 (es:=(List.map Qi) q0) (L:=(List.map Qi)) (a:=natI 0) (b:=natI q1) (fun _=>rfl) rfl (fun _=>by first|rfl|exact num_of_fit ((fun _=>rfl) _)) hx rfl (Or.inl rfl) ?_
 refine Qa 1 ?_
 obtain ⟨_,hx,hm⟩:=Qh hm
 have hq:=Qcg _ _ hx
 dsimp only [Jh] at hq
 refine Q0 hq ?_
 refine Qa 2 ?_
 obtain ⟨v4,hx,hm⟩:=Qh hm
 refine Qgl 1 Qi q0 v4 q1 (q0.length:Int) (es:=(List.map Qi) q0) (L:=(List.map Qi)) (a:=natI q1) (b:=some ((List.map Qi) q0).length) (fun _=>rfl) rfl (fun _=>by first|rfl|exact num_of_fit ((fun _=>rfl) _)) hx rfl (Or.inr ⟨rfl,rfl⟩) ?_
 refine Qa 1 ?_
 obtain ⟨v5,hx,hm⟩:=Qh hm
 have hq:=Jy _ _ hx []
 refine Qr hq ?_
 refine Qa 2 ?_
 refine Qe ⟨by kernel_rfl,?_⟩
 refine Qo ?_
 obtain rfl:=Qq hm
 exact ⟨trivial,QM (by kernel_rfl) (by kernel_rfl)⟩
def Qav (x:((List Int) × Int × Int)):Option ((List Int) × Int) :=
 match x with
 | (p0,p1,p2) =>
 Qbj p2>>=fun (v1:Int) =>
 Y8 (p0,p1,v1)>>=fun ((v2,v3):((List Int) × Int)) =>
 some (v2,v3)
def Qd1:((List Int) × Int × Int)→((List Int) × Int)→Prop:=fun x r=>match x,r with
 | (p0,p1,p2),(r0,r1)=>∀ H,PC prog env 131 ([(Lb p0),(Qi p1),(Qi p2)].map .dat) H (.tup [(La r0),(Qg r1)]) H
theorem Qf2:∀ x r,Qav x=some r→Qd1 x r:=by
 intro x r hm
 unfold Qav at hm
 unfold Qd1
 obtain ⟨p0,p1,p2⟩:=x
 obtain ⟨r0,r1⟩:=r
 intro H
 refine PC_sx (ds:=[(Lb p0),(Qi p1),(Qi p2)]) (fn:=f131) rfl ?_
 refine Qd (R_G (Qa 2 (Qe (Qd (R_G (Qa 4 ?_))))))
 obtain ⟨v1,hx,hm⟩:=Qh hm
 have hq:=QfH _ _ hx []
 refine Qr hq ?_
 obtain ⟨⟨v2,v3⟩,hx,hm⟩:=Qh hm
 have hq:=Qc3 _ _ hx
 dsimp only [X9] at hq
 refine Q0 hq ?_
 refine Qa 4 (Qe (Qo ?_))
 obtain ⟨rfl,rfl⟩:=Zl hm
 exact ⟨trivial,Qk⟩
def Y9 (x:((List Int) × Int × Int × Int)):Option (((List Int) × Int)) :=
 match x with
 | (q0,q1,q2,q3) =>
 ((if q1 < 0 then
  some true
 else
 some (decide (q2 > (q0.length:Int)))
 )>>=fun (v2:Bool) =>
 if v2=true then
  some true
 else
 some (decide (q1 > q2))
 )>>=fun (v1:Bool) =>
 if v1=true then
  some (([]:List Int),4)
 else
 sub q0 0 q1>>=fun v3 =>
 YX q3>>=fun (_:Unit) =>
 sub q0 q2 (q0.length:Int)>>=fun v4 =>
 Z9 ([v3,([q3]:List Int),v4]:List (List Int))>>=fun (v5:(List Int)) =>
 some (v5,0)
def Ja:((List Int) × Int × Int × Int)→((List Int) × Int)→Prop:=fun x r=>match x with
 | (q0,q1,q2,q3)=>PC prog env 149 [(La q0),(Qg q1),(Qg q2),(.fn 157 [(.iptr [(Qi q3)])])] [] (match r with|(v5001,v5002)=>(.tup [(La v5001),(Qg v5002)])) (match r with|(v5001,v5002)=>[])
theorem Qc4:∀ x r,Y9 x=some r→Ja x r:=by
 intro x r hm
 unfold Y9 at hm
 unfold Ja
 obtain ⟨q0,q1,q2,q3⟩:=x
 refine PC_sxB (fn:=f149) rfl ?_
 refine Qd (R_G (Qa 2 (Qe (Qd (Qd ?_)))))
 obtain ⟨v1,hs,hm⟩:=Qh hm
 refine Yx (fun d=>⟨sl d 33 [(0,(La q0)),(1,(Qg q1)),(2,(Qg q2)),(3,(.fn 157 [(.iptr [(Qi q3)])])),(22,(Qm v1))],[]⟩) ?_ (fun d=>?_)
 ·replace hm:=hs
  clear hs
  refine QcY ?_
  refine Qa 3 ?_
  obtain ⟨v2,hs,hm⟩:=Qh hm
  refine YC (j:=8) (fun d=>⟨sl d 33 [(0,(La q0)),(1,(Qg q1)),(2,(Qg q2)),(3,(.fn 157 [(.iptr [(Qi q3)])])),(17,(Qm v2))],[]⟩) (fun d=>?_) (fun hJ=>?_)
  ·clear hs
   refine Qa 1 ?_
   refine Qw 18 hm (Qz _) (fun hm=>?_) (fun hm=>?_)
   ·refine Qa 4 ?_
    refine Qe ⟨by kernel_rfl,?_⟩
    obtain rfl:=Qq hm
    exact Qp
   refine Qa 4 ?_
   refine Qe ⟨by kernel_rfl,?_⟩
   obtain rfl:=Qq hm
   exact Qp
  clear hm
  refine Qw 12 hs (rfl) (fun hm=>?_) (fun hm=>?_)
  ·refine Qa 5 ?_
   obtain rfl:=Qq hm
   exact hJ _ _
  refine Qa 2 ?_
  refine QP Qi q0 (es:=(List.map Qi) q0) rfl ?_
  refine Qa 2 ?_
  obtain rfl:=Qq hm
  exact hJ _ _
 clear hs
 refine Qy hm (Qz _) (fun hm=>?_) (fun hm=>?_)
 ·refine Qd (R_G (Qa 2 (Qe (Qo ?_))))
  obtain rfl:=Qq hm
  exact ⟨trivial,QM (by kernel_rfl) (by kernel_rfl)⟩
 refine Qs (Qd ?_)
 refine QaB ?_
 refine Qa 2 ?_
 obtain ⟨v3,hx,hm⟩:=Qh hm
 refine Qgl 1 Qi q0 v3 0 q1 (es:=(List.map Qi) q0) (L:=(List.map Qi)) (a:=natI 0) (b:=natI q1) (fun _=>rfl) rfl (fun _=>by first|rfl|exact num_of_fit ((fun _=>rfl) _)) hx rfl (Or.inl rfl) ?_
 refine Qa 1 ?_
 obtain ⟨_,hx,hm⟩:=Qh hm
 have hq:=Qcg _ _ hx
 dsimp only [Jh] at hq
 refine Q0 hq ?_
 refine Qa 2 ?_
 obtain ⟨v4,hx,hm⟩:=Qh hm
 refine Qgl 1 Qi q0 v4 q2 (q0.length:Int) (es:=(List.map Qi) q0) (L:=(List.map Qi)) (a:=natI q2) (b:=some ((List.map Qi) q0).length) (fun _=>rfl) rfl (fun _=>by first|rfl|exact num_of_fit ((fun _=>rfl) _)) hx rfl (Or.inr ⟨rfl,rfl⟩) ?_
 refine Qa 1 ?_
 obtain ⟨v5,hx,hm⟩:=Qh hm
 have hq:=Jy _ _ hx []
 refine Qr hq ?_
 refine Qa 2 ?_
 refine Qe ⟨by kernel_rfl,?_⟩
 refine Qo ?_
 obtain rfl:=Qq hm
 exact ⟨trivial,QM (by kernel_rfl) (by kernel_rfl)⟩
def YB (x:((List Int) × Int × Int)):Option ((List Int) × Int) :=
 match x with
 | (p0,p1,p2) =>
 if p1≥(p0.length:Int) then
  some (([]:(List Int)),4)
 else
 Qbj p2>>=fun (v1:Int) =>
 Y9 (p0,p1,(W (p1+1)),v1)>>=fun ((v2,v3):((List Int) × Int)) =>
 some (v2,v3)
def QdF:((List Int) × Int × Int)→((List Int) × Int)→Prop:=fun x r=>match x,r with
 | (p0,p1,p2),(r0,r1)=>∀ H,PC prog env 132 ([(Lb p0),(Qi p1),(Qi p2)].map .dat) H (.tup [(La r0),(Qg r1)]) H
theorem Qbb:∀ x r,YB x=some r→QdF x r:=by
 intro x r hm
 unfold YB at hm
 unfold QdF
 obtain ⟨p0,p1,p2⟩:=x
 obtain ⟨r0,r1⟩:=r
 intro H
 refine PC_sx (ds:=[(Lb p0),(Qi p1),(Qi p2)]) (fn:=f132) rfl ?_
 refine Qd (R_G (Qa 2 (Qe (Qd (Qd (R_G (Qa 2 ?_)))))))
 refine QP Qi p0 (es:=(List.map Qi) p0) rfl ?_
 refine Qa 1 (Qe ?_)
 refine Qy hm (rfl) (fun hm=>?_) (fun hm=>?_)
 ·refine Qd (R_G (Qa 2 (Qe (Qo ?_))))
  obtain ⟨rfl,rfl⟩:=Zl hm
  exact ⟨trivial,Qk⟩
 refine Qs (Qd (R_G (Qa 5 ?_)))
 obtain ⟨v1,hx,hm⟩:=Qh hm
 have hq:=QfH _ _ hx []
 refine Qr hq ?_
 obtain ⟨⟨v2,v3⟩,hx,hm⟩:=Qh hm
 have hq:=Qc4 _ _ hx
 dsimp only [Ja] at hq
 refine Q0 hq ?_
 refine Qa 4 (Qe (Qo ?_))
 obtain ⟨rfl,rfl⟩:=Zl hm
 exact ⟨trivial,Qk⟩
def Yd (x:((List Int) × (List Int) × Int × Int)):Option ((List Int) × Int) :=
 match x with
 | (p0,p1,p2,p3) =>
 if (p0.length:Int)=p2 then
  QA p0>>=fun v1 =>
  some (v1,0)
 else
 if (p0.length:Int)=(W (p2 - 1)) then
  Qav (p0,p3,1)>>=fun ((v2,v3):((List Int) × Int)) =>
  some (v2,v3)
 else
 if (p0.length:Int)=0 then
  YB (p1,p3,1)>>=fun ((v4,v5):((List Int) × Int)) =>
  some (v4,v5)
 else
 some (([]:(List Int)),4)
def Qd0:((List Int) × (List Int) × Int × Int)→((List Int) × Int)→Prop:=fun x r=>match x,r with
 | (p0,p1,p2,p3),(r0,r1)=>∀ H,PC prog env 113 ([(Lb p0),(Lb p1),(Qi p2),(Qi p3)].map .dat) H (.tup [(La r0),(Qg r1)]) H
theorem Qeg:∀ x r,Yd x=some r→Qd0 x r:=by
 intro x r hm
 unfold Yd at hm
 unfold Qd0
 obtain ⟨p0,p1,p2,p3⟩:=x
 obtain ⟨r0,r1⟩:=r
 intro H
 refine PC_sx (ds:=[(Lb p0),(Lb p1),(Qi p2),(Qi p3)]) (fn:=f113) rfl ?_
 refine Qd (R_G (Qa 2 (Qe (Qd (Qd (R_G (Qa 1 ?_)))))))
 refine QP Qi p0 (es:=(List.map Qi) p0) rfl ?_
 refine Qe (Qu (Qd (R_G (Qa 3 (Qe ?_)))))
 refine Qy hm (ZN _ _) (fun hm=>?_) (fun hm=>?_)
 ·refine Qd (R_G (Qa 1 ?_))
  obtain ⟨v1,hx,hm⟩:=Qh hm
  have hq:=QF _ _ hx
  dsimp only [QC] at hq
  have hl9:mtOf [Blk.mt 3 (cgm_slices_Clone_int_int v1) (cellsOf Qi v1)] 0=some (3,cgm_slices_Clone_int_int v1,cellsOf Qi v1):=ZP (by kernel_rfl)
  refine ZI (v:=.ms 0 1 0 v1.length v1.length) (fun H=>H++[.mt 3 1 (cellsOf Qi v1)]) rfl (by kernel_rfl) ?_ ?_
  ·intro K hk
   refine Zz 0 (first:=#[]) (cap:=#[]) (j:=(0,3)) (ow':=[]) (f0:=Qi) (l:=v1) rfl ?_ ?_ ?_ (ds:=[.lst ((List.map Qi) p0)]) ?_ hq hl9 ?_ ?_ ?_
   ·kernel_rfl
   ·kernel_rfl
   ·kernel_rfl
   ·kernel_rfl
   ·exact hk
   ·kernel_rfl
   ·decide
  refine Qa 2 (Qe (Qo ?_))
  obtain ⟨rfl,rfl⟩:=Zl hm
  exact ⟨trivial,Xi [(.ms 0 1 0 v1.length v1.length),(Qg 0)] (by kernel_rfl) (po_tup (ps_cons (p1_ms (pc_ms (e:=3) Qi v1 rfl (fun _=>rfl) (by kernel_rfl))) (ps_cons (by kernel_rfl) ps_nil)))⟩
 refine Qd (R_G (Qa 4 (Qe ?_)))
 refine Qy hm (ZN _ _) (fun hm=>?_) (fun hm=>?_)
 ·refine Qd (R_G (Qa 2 ?_))
  obtain ⟨⟨v2,v3⟩,hx,hm⟩:=Qh hm
  have hq:=Qf2 _ _ hx []
  refine Qr hq ?_
  refine Qa 4 (Qe (Qo ?_))
  obtain ⟨rfl,rfl⟩:=Zl hm
  exact ⟨trivial,Qk⟩
 refine Qd (R_G (Qa 2 (Qe ?_)))
 refine Qy hm (ZN _ _) (fun hm=>?_) (fun hm=>?_)
 ·refine Qd (R_G (Qa 2 ?_))
  obtain ⟨⟨v4,v5⟩,hx,hm⟩:=Qh hm
  have hq:=Qbb _ _ hx []
  refine Qr hq ?_
  refine Qa 4 (Qe (Qo ?_))
  obtain ⟨rfl,rfl⟩:=Zl hm
  exact ⟨trivial,Qk⟩
 refine Qs (Qd (R_G (Qa 2 (Qe (Qo ?_)))))
 obtain ⟨rfl,rfl⟩:=Zl hm
 exact ⟨trivial,Qk⟩
def QaE (x:Unit):Option (List Int) :=
 match x with
 | _ =>
 some ([]:(List Int))
def Qdg:Unit→(List Int)→Prop:=fun x r=>match x,r with
 | _,r0=>∀ H,PC prog env 151 ([].map .dat) H (La r0) H
theorem Qfn:∀ x r,QaE x=some r→Qdg x r:=by
 intro x r0 hm
 unfold QaE at hm
 unfold Qdg
 intro H
 refine PC_sx (ds:=[]) (fn:=f151) rfl ?_
 refine Qd (R_G (Qa 1 (Qe (Qd (R_G (Qa 1 (Qe (Qo ?_))))))))
 obtain rfl:=Qq hm
 exact ⟨trivial,Qk⟩
def Y7 (x:((List Int) × Int × Int)):Option (((List Int) × Int)) :=
 match x with
 | (q0,q1,q2) =>
 ((if q1 < 0 then
  some true
 else
 some (decide (q2 > (q0.length:Int)))
 )>>=fun (v2:Bool) =>
 if v2=true then
  some true
 else
 some (decide (q1 > q2))
 )>>=fun (v1:Bool) =>
 if v1=true then
  some (([]:List Int),4)
 else
 sub q0 0 q1>>=fun v3 =>
 QaE ()>>=fun (v4:(List Int)) =>
 sub q0 q2 (q0.length:Int)>>=fun v5 =>
 Z9 ([v3,v4,v5]:List (List Int))>>=fun (v6:(List Int)) =>
 some (v6,0)
def X8:((List Int) × Int × Int)→((List Int) × Int)→Prop:=fun x r=>match x with
 | (q0,q1,q2)=>PC prog env 149 [(La q0),(Qg q1),(Qg q2),(.dat (.raw (.func (.func 151) #[] #[])))] [] (match r with|(v5001,v5002)=>(.tup [(La v5001),(Qg v5002)])) (match r with|(v5001,v5002)=>[])
theorem Qc2:∀ x r,Y7 x=some r→X8 x r:=by
 intro x r hm
 unfold Y7 at hm
 unfold X8
 obtain ⟨q0,q1,q2⟩:=x
 refine PC_sxB (fn:=f149) rfl ?_
 refine Qd (R_G (Qa 2 (Qe (Qd (Qd ?_)))))
 obtain ⟨v1,hs,hm⟩:=Qh hm
 refine Yx (fun d=>⟨sl d 33 [(0,(La q0)),(1,(Qg q1)),(2,(Qg q2)),(3,(.dat (.raw (.func (.func 151) #[] #[])))),(22,(Qm v1))],[]⟩) ?_ (fun d=>?_)
 ·replace hm:=hs
  clear hs
  refine QcY ?_
  refine Qa 3 ?_
  obtain ⟨v2,hs,hm⟩:=Qh hm
  refine YC (j:=8) (fun d=>⟨sl d 33 [(0,(La q0)),(1,(Qg q1)),(2,(Qg q2)),(3,(.dat (.raw (.func (.func 151) #[] #[])))),(17,(Qm v2))],[]⟩) (fun d=>?_) (fun hJ=>?_)
  ·clear hs
   refine Qa 1 ?_
   refine Qw 18 hm (Qz _) (fun hm=>?_) (fun hm=>?_)
   ·refine Qa 4 ?_
    refine Qe ⟨by kernel_rfl,?_⟩
    obtain rfl:=Qq hm
    exact Qp
   refine Qa 4 ?_
   refine Qe ⟨by kernel_rfl,?_⟩
   obtain rfl:=Qq hm
   exact Qp
  clear hm
  refine Qw 12 hs (rfl) (fun hm=>?_) (fun hm=>?_)
  ·refine Qa 5 ?_
   obtain rfl:=Qq hm
   exact hJ _ _
  refine Qa 2 ?_
  refine QP Qi q0 (es:=(List.map Qi) q0) rfl ?_
  refine Qa 2 ?_
  obtain rfl:=Qq hm
  exact hJ _ _
 clear hs
 refine Qy hm (Qz _) (fun hm=>?_) (fun hm=>?_)
 ·refine Qd (R_G (Qa 2 (Qe (Qo ?_))))
  obtain rfl:=Qq hm
  exact ⟨trivial,QM (by kernel_rfl) (by kernel_rfl)⟩
 refine Qs (Qd ?_)
 refine QaB ?_
 refine Qa 2 ?_
 obtain ⟨v3,hx,hm⟩:=Qh hm
 refine Qgl 1 Qi q0 v3 0 q1 (es:=(List.map Qi) q0) (L:=(List.map Qi)) (a:=natI 0) (b:=natI q1) (fun _=>rfl) rfl (fun _=>by first|rfl|exact num_of_fit ((fun _=>rfl) _)) hx rfl (Or.inl rfl) ?_
 refine Qa 1 ?_
 obtain ⟨v4,hx,hm⟩:=Qh hm
 have hq:=Qfn _ _ hx []
 refine Qr hq ?_
 refine Qa 2 ?_
 obtain ⟨v5,hx,hm⟩:=Qh hm
 refine Qgl 1 Qi q0 v5 q2 (q0.length:Int) (es:=(List.map Qi) q0) (L:=(List.map Qi)) (a:=natI q2) (b:=some ((List.map Qi) q0).length) (fun _=>rfl) rfl (fun _=>by first|rfl|exact num_of_fit ((fun _=>rfl) _)) hx rfl (Or.inr ⟨rfl,rfl⟩) ?_
 refine Qa 1 ?_
 obtain ⟨v6,hx,hm⟩:=Qh hm
 have hq:=Jy _ _ hx []
 refine Qr hq ?_
 refine Qa 2 ?_
 refine Qe ⟨by kernel_rfl,?_⟩
 refine Qo ?_
 obtain rfl:=Qq hm
 exact ⟨trivial,QM (by kernel_rfl) (by kernel_rfl)⟩
def Xf (x:((List Int) × Int)):Option ((List Int) × Int) :=
 match x with
 | (p0,p1) =>
 if p1≥(p0.length:Int) then
  some (([]:(List Int)),4)
 else
 Y7 (p0,p1,(W (p1+1)))>>=fun ((v1,v2):((List Int) × Int)) =>
 some (v1,v2)
def Qd2:((List Int) × Int)→((List Int) × Int)→Prop:=fun x r=>match x,r with
 | (p0,p1),(r0,r1)=>∀ H,PC prog env 133 ([(Lb p0),(Qi p1)].map .dat) H (.tup [(La r0),(Qg r1)]) H
theorem Qeh:∀ x r,Xf x=some r→Qd2 x r:=by
 intro x r hm
 unfold Xf at hm
 unfold Qd2
 obtain ⟨p0,p1⟩:=x
 obtain ⟨r0,r1⟩:=r
 intro H
 refine PC_sx (ds:=[(Lb p0),(Qi p1)]) (fn:=f133) rfl ?_
 refine Qd (R_G (Qa 2 (Qe (Qd (Qd (R_G (Qa 2 ?_)))))))
 refine QP Qi p0 (es:=(List.map Qi) p0) rfl ?_
 refine Qa 1 (Qe ?_)
 refine Qy hm (rfl) (fun hm=>?_) (fun hm=>?_)
 ·refine Qd (R_G (Qa 2 (Qe (Qo ?_))))
  obtain ⟨rfl,rfl⟩:=Zl hm
  exact ⟨trivial,Qk⟩
 refine Qs (Qd (R_G (Qa 4 ?_)))
 obtain ⟨⟨v1,v2⟩,hx,hm⟩:=Qh hm
 have hq:=Qc2 _ _ hx
 dsimp only [X8] at hq
 refine Q0 hq ?_
 refine Qa 4 (Qe (Qo ?_))
 obtain ⟨rfl,rfl⟩:=Zl hm
 exact ⟨trivial,Qk⟩
def Zb (x:((List Int) × (List Int) × Int)):Option (Unit ⊕ Unit) :=
 match x with
 | (p0,p1,v201) =>
 if v201 < (p0.length:Int) then
  idx p0 v201>>=fun v601 =>
  idx p1 v201>>=fun v602 =>
  if v601≠v602 then
   some (Sum.inl ())
  else
  Zb (p0,p1,(W (v201+1)))
 else
 some (Sum.inr ())
 partial_fixpoint
def QaR:((List Int) × (List Int) × Int)→(Unit ⊕ Unit)→Prop:=fun x r=>match x with
 | (p0,p1,v201)=>∀ st,prune 0 ((QB (QL [1,1,0,1,0,0] (QN f60))).bind (env.hint 60).keepAt) st=⟨kp 26 [(0,(La p0)),(1,(La p1)),(12,(Qg (p0.length:Int))),(13,(Qg v201))],[]⟩ →
  RL prog env (env.hint 60) true (QL [1,1,0,1,0,0] (QN f60)) 0 st (fun e s=>match r with|.inl _=>e=.ret∧∃ d,s=⟨sl d 26 [(4,(Qm false))],[]⟩|.inr (_)=>e=.exit 0∧∃ d,s=⟨sl d 26 [],[]⟩)
theorem YZ:∀ x r,Zb x=some r→QaR x r:=by
 refine Zb.partial_correctness _ (fun Zb YZ x r hm=>?_)
 unfold QaR
 obtain ⟨p0,p1,v201⟩:=x
 intro st hst
 refine RL_at hst ?_
 clear hst
 refine Qd (R_G (Qa 1 (Qe (Qd ?_))))
 refine Qy hm (rfl) (fun hm=>?_) (fun hm=>?_)
 ·refine Qs (Qd (Qu (Qd (R_G (Qa 2 (Qe (Qd ?_)))))))
  refine QaB ?_
  refine Qa 2 ?_
  refine Zj 1 Qi hm rfl (fun _=>rfl) (fun v601 hm=>?_)
  refine Qa 3 ?_
  refine Zj 1 Qi hm rfl (fun _=>rfl) (fun v602 hm=>?_)
  refine Qa 2 ?_
  refine Qe ⟨by kernel_rfl,?_⟩
  refine Qy hm (ne_dec _ _) (fun hm=>?_) (fun hm=>?_)
  ·refine Qd (R_G (Qa 1 (Qe (Qo ?_))))
   obtain rfl:=Qq hm
   exact ⟨rfl,Qp⟩
  refine Qs (R_G (Qa 2 (Qe ?_)))
  exact YZ _ _ hm _ (by kernel_rfl)
 refine Zh ?_
 obtain rfl:=Qq hm
 exact ⟨rfl,Qp⟩
def Yl (x:((List Int) × (List Int))):Option Bool :=
 match x with
 | (p0,p1) =>
 if (p0.length:Int)≠(p1.length:Int) then
  some false
 else
 (
 Zb (p0,p1,0)>>=fun (out:Unit ⊕ Unit) =>
 match out with
 | .inl _ =>
  some false
 | .inr (_) =>
  some true
 )
def Qbm:((List Int) × (List Int))→Bool→Prop:=fun x r=>match x,r with
 | (p0,p1),r0=>∀ H,PC prog env 60 ([(Lb p0),(Lb p1)].map .dat) H (Qm r0) H
theorem Qdy:∀ x r,Yl x=some r→Qbm x r:=by
 intro x r0 hm
 unfold Yl at hm
 unfold Qbm
 obtain ⟨p0,p1⟩:=x
 intro H
 refine PC_sx (ds:=[(Lb p0),(Lb p1)]) (fn:=f60) rfl ?_
 refine Qd (R_G (Qa 1 (Qe (Qd (Qd (R_G (Qa 1 ?_)))))))
 refine QP Qi p0 (es:=(List.map Qi) p0) rfl ?_
 refine Qa 1 ?_
 refine QP Qi p1 (es:=(List.map Qi) p1) rfl ?_
 refine Qa 1 (Qe ?_)
 refine Qy hm (ne_dec _ _) (fun hm=>?_) (fun hm=>?_)
 ·refine Qd (R_G (Qa 1 (Qe (Qo ?_))))
  obtain rfl:=Qq hm
  exact ⟨trivial,Qk⟩
 refine Qs (Qd (Qd (R_G (Qa 1 ?_))))
 refine QP Qi p0 (es:=(List.map Qi) p0) rfl ?_
 refine Qa 1 (Qe (Qu ?_))
 obtain ⟨out,hs,hm⟩:=Qh hm
 refine Zk ?_
 rcases out with _|_
 ·refine RL_use (YZ _ _ hs) (by kernel_rfl) ?_
  clear hs
  intro e s hp
  obtain ⟨rfl,d,rfl⟩:=hp
  obtain rfl:=Qq hm
  exact ⟨trivial,Qk⟩
 ·refine RL_use (YZ _ _ hs) (by kernel_rfl) ?_
  clear hs
  intro e s hp
  obtain ⟨rfl,d,rfl⟩:=hp
  refine Qd (R_G (Qa 1 (Qe (Qo ?_))))
  obtain rfl:=Qq hm
  exact ⟨trivial,Qk⟩
def ZU (x:((List Int) × (List Int))):Option Bool :=
 match x with
 | (p0,p1) =>
 Yl (p0,p1)>>=fun (v1:Bool) =>
 some v1
def QeL:((List Int) × (List Int))→Bool→Prop:=fun x r=>match x,r with
 | (p0,p1),r0=>∀ H,PC prog env 59 ([(Lb p0),(Lb p1)].map .dat) H (Qm r0) H
theorem Je:∀ x r,ZU x=some r→QeL x r:=by
 intro x r0 hm
 unfold ZU at hm
 unfold QeL
 obtain ⟨p0,p1⟩:=x
 intro H
 refine PC_sx (ds:=[(Lb p0),(Lb p1)]) (fn:=f59) rfl ?_
 refine Qd (R_G (Qa 1 (Qe (Qd (R_G (Qa 2 ?_))))))
 obtain ⟨v1,hx,hm⟩:=Qh hm
 have hq:=Qdy _ _ hx []
 refine Qr hq ?_
 refine Qa 1 (Qe (Qo ?_))
 obtain rfl:=Qq hm
 exact ⟨trivial,Qk⟩
def Qbw (x:(Int × Int)):Option (Int × Bool) :=
 match x with
 | (p0,p1) =>
 some ((W (p0+p1)),(decide ((W (p0+p1))≤65536)))
def Qfc:(Int × Int)→(Int × Bool)→Prop:=fun x r=>match x,r with
 | (p0,p1),(r0,r1)=>∀ H,PC prog env 152 ([(Qi p0),(Qi p1)].map .dat) H (.tup [(Qg r0),(Qm r1)]) H
theorem Qgt:∀ x r,Qbw x=some r→Qfc x r:=by
 intro x r hm
 unfold Qbw at hm
 unfold Qfc
 obtain ⟨p0,p1⟩:=x
 obtain ⟨r0,r1⟩:=r
 intro H
 refine PC_sx (ds:=[(Qi p0),(Qi p1)]) (fn:=f152) rfl ?_
 refine Qd (R_G (Qa 2 (Qe (Qd (R_G (Qa 9 (Qe (Qo ?_))))))))
 obtain ⟨rfl,rfl⟩:=Zl hm
 exact ⟨trivial,Qk⟩
def Q1 (x:((List Int) × Int × Int)):Option (Int ⊕ Int) :=
 match x with
 | (p0,v201,v202) =>
 if v202 < (p0.length:Int) then
  idx p0 v202>>=fun v603 =>
  Qbw (v201,v603)>>=fun ((v604,v605):(Int × Bool)) =>
  if v605=false then
   some (Sum.inl v604)
  else
  Q1 (p0,v604,(W (v202+1)))
 else
 some (Sum.inr v201)
 partial_fixpoint
def JA:((List Int) × Int × Int)→(Int ⊕ Int)→Prop:=fun x r=>match x with
 | (p0,v201,v202)=>∀ st,prune 0 ((QB (QL [1,1,0,1,0,0] (QN f148))).bind (env.hint 148).keepAt) st=⟨kp 31 [(2,(.dat (.raw (.func (.func 152) #[] #[])))),(8,(Qg v201)),(13,(La p0)),(14,(Qg (p0.length:Int))),(15,(Qg v202))],[]⟩ →
  RL prog env (env.hint 148) true (QL [1,1,0,1,0,0] (QN f148)) 0 st (fun e s=>match r with|.inl v601=>e=.ret∧∃ d,s=⟨sl d 31 [(6,(Qg v601)),(7,(Qm false))],[]⟩|.inr (v602)=>e=.exit 0∧∃ d,s=⟨sl d 31 [(8,(Qg v602))],[]⟩)
theorem Yv:∀ x r,Q1 x=some r→JA x r:=by
 refine Q1.partial_correctness _ (fun Q1 Yv x r hm=>?_)
 unfold JA
 obtain ⟨p0,v201,v202⟩:=x
 intro st hst
 refine RL_at hst ?_
 clear hst
 refine Qd (R_G (Qa 1 (Qe (Qd ?_))))
 refine Qy hm (rfl) (fun hm=>?_) (fun hm=>?_)
 ·refine Qs (Qd (Qu (Qd (R_G ?_))))
  refine Zj 1 Qi hm rfl (fun _=>rfl) (fun v603 hm=>?_)
  refine Qa 2 (Qe (Qd (R_G (Qa 3 ?_))))
  obtain ⟨⟨v604,v605⟩,hx,hm⟩:=Qh hm
  have hq:=Qgt _ _ hx []
  refine Qr hq ?_
  refine Qa 5 (Qe (Qd (R_G (Qa 2 (Qe ?_)))))
  refine Qy hm (Xp _) (fun hm=>?_) (fun hm=>?_)
  ·refine Qd (R_G (Qa 3 (Qe (Qo ?_))))
   obtain rfl:=Qq hm
   exact ⟨rfl,Qp⟩
  refine Qs (R_G (Qa 2 (Qe ?_)))
  exact Yv _ _ hm _ (by kernel_rfl)
 refine Zh ?_
 obtain rfl:=Qq hm
 exact ⟨rfl,Qp⟩
def YV (x:((List Int) × Int)):Option (Int × Bool) :=
 match x with
 | (p0,p1) =>
 (
 Q1 (p0,p1,0)>>=fun (out:Int ⊕ Int) =>
 match out with
 | .inl v601 =>
  some (v601,false)
 | .inr (v602) =>
  some (v602,true)
 )
def Qan:((List Int) × Int)→(Int × Bool)→Prop:=fun x r=>match x,r with
 | (p0,p1),(r0,r1)=>∀ H,PC prog env 148 ([(Lb p0),(Qi p1),(.raw (.func (.func 152) #[] #[]))].map .dat) H (.tup [(Qg r0),(Qm r1)]) H
theorem QcC:∀ x r,YV x=some r→Qan x r:=by
 intro x r hm
 unfold YV at hm
 unfold Qan
 obtain ⟨p0,p1⟩:=x
 obtain ⟨r0,r1⟩:=r
 intro H
 refine PC_sx (ds:=[(Lb p0),(Qi p1),(.raw (.func (.func 152) #[] #[]))]) (fn:=f148) rfl ?_
 refine Qd (R_G (Qa 2 (Qe (Qd (R_G (Qa 3 (Qe (Qd (Qd (R_G (Qa 1 ?_)))))))))))
 refine QP Qi p0 (es:=(List.map Qi) p0) rfl ?_
 refine Qa 1 (Qe (Qu ?_))
 obtain ⟨out,hs,hm⟩:=Qh hm
 refine Zk ?_
 rcases out with v601|v602
 ·refine RL_use (Yv _ _ hs) (by kernel_rfl) ?_
  clear hs
  intro e s hp
  obtain ⟨rfl,d,rfl⟩:=hp
  obtain ⟨rfl,rfl⟩:=Zl hm
  exact ⟨trivial,Qk⟩
 ·refine RL_use (Yv _ _ hs) (by kernel_rfl) ?_
  clear hs
  intro e s hp
  obtain ⟨rfl,d,rfl⟩:=hp
  refine Qd (R_G (Qa 3 (Qe (Qo ?_))))
  obtain ⟨rfl,rfl⟩:=Zl hm
  exact ⟨trivial,Qk⟩
def YU (x:((List Int) × Int)):Option (Int × Int) :=
 match x with
 | (p0,p1) =>
 JJ p0>>=fun (v1:Int) =>
 if v1≠0 then
  some (0,v1)
 else
 YV (p0,p1)>>=fun ((v2,v3):(Int × Bool)) =>
 if v3=false then
  some (0,7)
 else
 some (v2,0)
def Qam:((List Int) × Int)→(Int × Int)→Prop:=fun x r=>match x,r with
 | (p0,p1),(r0,r1)=>∀ H,PC prog env 127 ([(Lb p0),(Qi p1),(.raw (.func (.func 152) #[] #[]))].map .dat) H (.tup [(Qg r0),(Qg r1)]) H
theorem QcB:∀ x r,YU x=some r→Qam x r:=by
 intro x r hm
 unfold YU at hm
 unfold Qam
 obtain ⟨p0,p1⟩:=x
 obtain ⟨r0,r1⟩:=r
 intro H
 refine PC_sx (ds:=[(Lb p0),(Qi p1),(.raw (.func (.func 152) #[] #[]))]) (fn:=f127) rfl ?_
 refine Qd (R_G (Qa 2 (Qe (Qd (Qd (R_G (Qa 1 ?_)))))))
 obtain ⟨v1,hx,hm⟩:=Qh hm
 have hq:=Qdx _ _ hx []
 refine Qr hq ?_
 refine Qa 1 (Qe (Qd (R_G (Qa 2 (Qe ?_)))))
 refine Qy hm (ne_dec _ _) (fun hm=>?_) (fun hm=>?_)
 ·refine Qd (R_G (Qa 3 (Qe (Qo ?_))))
  obtain ⟨rfl,rfl⟩:=Zl hm
  exact ⟨trivial,Qk⟩
 refine Qs (Qd (R_G (Qa 3 ?_)))
 obtain ⟨⟨v2,v3⟩,hx,hm⟩:=Qh hm
 have hq:=QcC _ _ hx []
 refine Qr hq ?_
 refine Qa 5 (Qe (Qd (Qd (R_G (Qa 2 (Qe ?_))))))
 refine Qy hm (Xp _) (fun hm=>?_) (fun hm=>?_)
 ·refine Qd (R_G (Qa 2 (Qe (Qo ?_))))
  obtain ⟨rfl,rfl⟩:=Zl hm
  exact ⟨trivial,Qk⟩
 refine Qs (Qd (R_G (Qa 3 (Qe (Qo ?_)))))
 obtain ⟨rfl,rfl⟩:=Zl hm
 exact ⟨trivial,Qk⟩
def Qcw (x:(List Int)):Option (Int × Int) :=
 match x with
 | p0 =>
 YU (p0,0)>>=fun ((v1,v2):(Int × Int)) =>
 some (v1,v2)
def QfS:(List Int)→(Int × Int)→Prop:=fun x r=>match x,r with
 | p0,(r0,r1)=>∀ H,PC prog env 134 ([(Lb p0)].map .dat) H (.tup [(Qg r0),(Qg r1)]) H
theorem QgY:∀ x r,Qcw x=some r→QfS x r:=by
 intro p0 r hm
 unfold Qcw at hm
 unfold QfS
 obtain ⟨r0,r1⟩:=r
 intro H
 refine PC_sx (ds:=[(Lb p0)]) (fn:=f134) rfl ?_
 refine Qd (R_G (Qa 2 (Qe (Qd (R_G (Qa 1 ?_))))))
 obtain ⟨⟨v1,v2⟩,hx,hm⟩:=Qh hm
 have hq:=QcB _ _ hx []
 refine Qr hq ?_
 refine Qa 4 (Qe (Qo ?_))
 obtain ⟨rfl,rfl⟩:=Zl hm
 exact ⟨trivial,Qk⟩
def QbQ (x:((List Int) × (List Int) × Int)):Option ((List Int) × Int) :=
 match x with
 | (p0,p1,p2) =>
 Xf (p0,p2)>>=fun ((v1,v2):((List Int) × Int)) =>
 Xf (p1,p2)>>=fun ((v3,v4):((List Int) × Int)) =>
 ZU (v1,v3)>>=fun (v5:Bool) =>
 if v5=false then
  some (([]:(List Int)),5)
 else
 idx p0 p2>>=fun v6 =>
 idx p1 p2>>=fun v7 =>
 Qcw ([v6,v7]:List Int)>>=fun ((v8,v9):(Int × Int)) =>
 if v9≠0 then
  some (([]:(List Int)),v9)
 else
 YB (p0,p2,v8)>>=fun ((v10,v11):((List Int) × Int)) =>
 some (v10,v11)
def QeI:((List Int) × (List Int) × Int)→((List Int) × Int)→Prop:=fun x r=>match x,r with
 | (p0,p1,p2),(r0,r1)=>∀ H,PC prog env 114 ([(Lb p0),(Lb p1),(Qi p2)].map .dat) H (.tup [(La r0),(Qg r1)]) H
theorem Qgj:∀ x r,QbQ x=some r→QeI x r:=by
 intro x r hm
 unfold QbQ at hm
 unfold QeI
 obtain ⟨p0,p1,p2⟩:=x
 obtain ⟨r0,r1⟩:=r
 intro H
 refine PC_sx (ds:=[(Lb p0),(Lb p1),(Qi p2)]) (fn:=f114) rfl ?_
 refine Qd (R_G (Qa 2 (Qe (Qd (R_G (Qa 2 ?_))))))
 obtain ⟨⟨v1,v2⟩,hx,hm⟩:=Qh hm
 have hq:=Qeh _ _ hx []
 refine Qr hq ?_
 refine Qa 5 (Qe (Qd (R_G (Qa 2 ?_))))
 obtain ⟨⟨v3,v4⟩,hx,hm⟩:=Qh hm
 have hq:=Qeh _ _ hx []
 refine Qr hq ?_
 refine Qa 5 (Qe (Qd (Qd (R_G (Qa 2 ?_)))))
 obtain ⟨v5,hx,hm⟩:=Qh hm
 have hq:=Je _ _ hx []
 refine Qr hq ?_
 refine Qa 1 (Qe ?_)
 refine Qy hm (Xp _) (fun hm=>?_) (fun hm=>?_)
 ·refine Qd (R_G (Qa 2 (Qe (Qo ?_))))
  obtain ⟨rfl,rfl⟩:=Zl hm
  exact ⟨trivial,Qk⟩
 refine Qs (Qd ?_)
 refine QaB ?_
 refine Qa 2 ?_
 refine Zj 1 Qi hm rfl (fun _=>rfl) (fun v6 hm=>?_)
 refine Qa 3 ?_
 refine Zj 1 Qi hm rfl (fun _=>rfl) (fun v7 hm=>?_)
 refine Qa 2 ?_
 obtain ⟨⟨v8,v9⟩,hx,hm⟩:=Qh hm
 have hq:=QgY _ _ hx []
 refine Qr hq ?_
 refine Qa 5 ?_
 refine Qe ⟨by kernel_rfl,?_⟩
 refine Qd (Qd (R_G (Qa 2 (Qe ?_))))
 refine Qy hm (ne_dec _ _) (fun hm=>?_) (fun hm=>?_)
 ·refine Qd (R_G (Qa 3 (Qe (Qo ?_))))
  obtain ⟨rfl,rfl⟩:=Zl hm
  exact ⟨trivial,Qk⟩
 refine Qs (Qd (R_G (Qa 3 ?_)))
 obtain ⟨⟨v10,v11⟩,hx,hm⟩:=Qh hm
 have hq:=Qbb _ _ hx []
 refine Qr hq ?_
 refine Qa 4 (Qe (Qo ?_))
 obtain ⟨rfl,rfl⟩:=Zl hm
 exact ⟨trivial,Qk⟩
def X1 (x:(Int × Int × (List Int) × (List Int) × (List Int))):Option (Unit) :=
 match x with
 | (q0,q1,q2,q3,q4) =>
 some ()
def Qaj:(Int × Int × (List Int) × (List Int) × (List Int))→Unit→Prop:=fun x r=>match x with
 | (q0,q1,q2,q3,q4)=>PC prog env 111 [(.ptr 6 0),(.iptr [(Qi q0)]),(.iptr [(Qi q1)])] [Qx,(.box [(La q2)]),(.box [(.fn 111 [(.iptr [(Qi q0)]),(.iptr [(Qi q1)])]),(.fn 115 [(.ptr 1 0)])]),Qx,(.mt 3 1 (cellsOf Qi q3)),(.mt 3 1 (cellsOf Qi q4)),(.box [Ea,(.ms 4 1 0 q3.length q3.length),(.ms 5 1 0 q4.length q4.length),Ea,(Qg (-1)),(Qg 0),Ea])] (match r with|_=>(.tup [])) (match r with|_=>[Qx,(.box [(La q2)]),(.box [(.fn 111 [(.iptr [(Qi q0)]),(.iptr [(Qi q1)])]),(.fn 115 [(.ptr 1 0)])]),Qx,(.mt 3 1 (cellsOf Qi q3)),(.mt 3 1 (cellsOf Qi q4)),(.box [Ea,(.ms 4 1 0 q3.length q3.length),(.ms 5 1 0 q4.length q4.length),Ea,(Qg q0),(Qg q1),Ea])])
theorem Qed:∀ x r,X1 x=some r→Qaj x r:=by
 intro x r hm
 unfold X1 at hm
 unfold Qaj
 obtain ⟨q0,q1,q2,q3,q4⟩:=x
 refine PC_sxB (fn:=f111) rfl ?_
 refine QaB ?_
 refine Qa 10 ?_
 refine Qe ⟨by kernel_rfl,?_⟩
 obtain rfl:=Qq hm
 exact ⟨trivial,QM (by kernel_rfl) (by kernel_rfl)⟩
def Xk (x:((List Int) × Int × Int × (List Int) × (List Int))):Option (Unit) :=
 match x with
 | (q0,q1,q2,q3,q4) =>
 some ()
def Jo:((List Int) × Int × Int × (List Int) × (List Int))→Unit→Prop:=fun x r=>match x with
 | (q0,q1,q2,q3,q4)=>PC prog env 115 [(.ptr 6 0),(.ptr 1 0)] [Qx,(.box [(La q0)]),(.box [(.fn 111 [(.iptr [(Qi q1)]),(.iptr [(Qi q2)])]),(.fn 115 [(.ptr 1 0)])]),Qx,(.mt 3 1 (cellsOf Qi q3)),(.mt 3 1 (cellsOf Qi q4)),(.box [Ea,(.ms 4 1 0 q3.length q3.length),(.ms 5 1 0 q4.length q4.length),Ea,(Qg q1),(Qg q2),Ea])] (match r with|_=>(.tup [])) (match r with|_=>[Qx,(.box [(La q0)]),(.box [(.fn 111 [(.iptr [(Qi q1)]),(.iptr [(Qi q2)])]),(.fn 115 [(.ptr 1 0)])]),Qx,(.mt 3 1 (cellsOf Qi q3)),(.mt 3 1 (cellsOf Qi q4)),(.box [(La q0),(.ms 4 1 0 q3.length q3.length),(.ms 5 1 0 q4.length q4.length),Ea,(Qg q1),(Qg q2),Ea])])
theorem Qdm:∀ x r,Xk x=some r→Jo x r:=by
 intro x r hm
 unfold Xk at hm
 unfold Jo
 obtain ⟨q0,q1,q2,q3,q4⟩:=x
 refine PC_sxB (fn:=f115) rfl ?_
 refine R_G (Qa 5 (Qe ?_))
 obtain rfl:=Qq hm
 exact ⟨trivial,QM (by kernel_rfl) (by kernel_rfl)⟩
def Qac (x:((List Int) × (List Int) × (List Int) × Int × Int)):Option (Int ⊕ ((List Int) × (List Int))) :=
 match x with
 | (q0,q1,q2,q3,q4) =>
 Zo q1>>=fun (v1:Int) =>
 if v1≠0 then
  some (Sum.inl v1)
 else
 QA q0>>=fun v2 =>
 QA q1>>=fun v3 =>
 X1 (q3,q4,q2,v2,v3)>>=fun (_:Unit) =>
 Xk (q2,q3,q4,v2,v3)>>=fun (_:Unit) =>
 some (Sum.inr (v2,v3))
def J4:((List Int) × (List Int) × (List Int) × Int × Int)→(Int ⊕ ((List Int) × (List Int)))→Prop:=fun x r=>match x with
 | (q0,q1,q2,q3,q4)=>PC prog env 93 [(La q0),(La q1),(.arr 2 0 2 2)] [Qx,(.box [(La q2)]),(.box [(.fn 111 [(.iptr [(Qi q3)]),(.iptr [(Qi q4)])]),(.fn 115 [(.ptr 1 0)])])] (match r with|.inl v5001=>(.tup [(.dat (.agg [Eb,Eb,Eb,Eb,(Qi 0),(Qi 0),Eb])),(Qg v5001)])|.inr ((v5002,v5003))=>(.tup [(.agg [(La q2),(.ms 4 1 0 v5002.length v5002.length),(.ms 5 1 0 v5003.length v5003.length),Ea,(Qg q3),(Qg q4),Ea]),(Qg 0)])) (match r with|.inl v5001=>[Qx,(.box [(La q2)]),(.box [(.fn 111 [(.iptr [(Qi q3)]),(.iptr [(Qi q4)])]),(.fn 115 [(.ptr 1 0)])]),Qx]|.inr ((v5002,v5003))=>[Qx,(.box [(La q2)]),(.box [(.fn 111 [(.iptr [(Qi q3)]),(.iptr [(Qi q4)])]),(.fn 115 [(.ptr 1 0)])]),(.box [(La q2),(.ms 4 1 0 v5002.length v5002.length),(.ms 5 1 0 v5003.length v5003.length),Ea,(Qg q3),(Qg q4),Ea]),(.mt 3 1 (cellsOf Qi v5002)),(.mt 3 1 (cellsOf Qi v5003)),(.box [(La q2),(.ms 4 1 0 v5002.length v5002.length),(.ms 5 1 0 v5003.length v5003.length),Ea,(Qg q3),(Qg q4),Ea])])
theorem QcT:∀ x r,Qac x=some r→J4 x r:=by
 intro x r hm
 unfold Qac at hm
 unfold J4
 obtain ⟨q0,q1,q2,q3,q4⟩:=x
 refine PC_sxB (fn:=f93) rfl ?_
 refine Qd (R_G (Qa 2 (Qe (Qd (Qd (R_G (Qa 1 ?_)))))))
 obtain ⟨v1,hx,hm⟩:=Qh hm
 have hq:=ZE _ _ hx []
 refine Qr hq ?_
 refine Qa 1 (Qe (Qd (R_G (Qa 2 (Qe ?_)))))
 refine Qy hm (ne_dec _ _) (fun hm=>?_) (fun hm=>?_)
 ·refine Qd (R_G (Qa 4 (Qe (Qo ?_))))
  obtain rfl:=Qq hm
  exact ⟨trivial,QM (by kernel_rfl) (by kernel_rfl)⟩
 refine Qs (Qd (R_G (Qa 1 ?_)))
 obtain ⟨v2,hx,hm⟩:=Qh hm
 have hq:=QF _ _ hx
 dsimp only [QC] at hq
 have hl9:mtOf [Blk.mt 3 (cgm_slices_Clone_int_int v2) (cellsOf Qi v2)] 0=some (3,cgm_slices_Clone_int_int v2,cellsOf Qi v2):=ZP (by kernel_rfl)
 refine ZI (v:=.ms 4 1 0 v2.length v2.length) (fun H=>H++[.mt 3 1 (cellsOf Qi v2)]) rfl (by kernel_rfl) ?_ ?_
 ·intro K hk
  refine Zz 4 (first:=#[]) (cap:=#[]) (j:=(0,3)) (ow':=[]) (f0:=Qi) (l:=v2) rfl ?_ ?_ ?_ (ds:=[.lst ((List.map Qi) q0)]) ?_ hq hl9 ?_ ?_ ?_
  ·kernel_rfl
  ·kernel_rfl
  ·kernel_rfl
  ·kernel_rfl
  ·exact hk
  ·kernel_rfl
  ·decide
 refine Qa 1 ?_
 obtain ⟨v3,hx,hm⟩:=Qh hm
 have hq:=QF _ _ hx
 dsimp only [QC] at hq
 have hl9:mtOf [Blk.mt 3 (cgm_slices_Clone_int_int v3) (cellsOf Qi v3)] 0=some (3,cgm_slices_Clone_int_int v3,cellsOf Qi v3):=ZP (by kernel_rfl)
 refine ZI (v:=.ms 5 1 0 v3.length v3.length) (fun H=>H++[.mt 3 1 (cellsOf Qi v3)]) rfl (by kernel_rfl) ?_ ?_
 ·intro K hk
  refine Zz 5 (first:=#[]) (cap:=#[]) (j:=(0,3)) (ow':=[]) (f0:=Qi) (l:=v3) rfl ?_ ?_ ?_ (ds:=[.lst ((List.map Qi) q1)]) ?_ hq hl9 ?_ ?_ ?_
  ·kernel_rfl
  ·kernel_rfl
  ·kernel_rfl
  ·kernel_rfl
  ·exact hk
  ·kernel_rfl
  ·decide
 refine Qa 3 (Qe (Qd (Qd (R_G (Qa 1 (Qa 1 (Qa 1 (Qe (Qu ?_)))))))))
 refine Zk ?_
 refine RL_at (st':=⟨kp 33 [(6,(.ptr 3 0)),(9,(.ptr 6 0)),(23,(.arr 2 0 2 2)),(24,(Qg 2)),(25,(Qg 0))],[Qx,(.box [(La q2)]),(.box [(.fn 111 [(.iptr [(Qi q3)]),(.iptr [(Qi q4)])]),(.fn 115 [(.ptr 1 0)])]),Qx,(.mt 3 1 (cellsOf Qi v2)),(.mt 3 1 (cellsOf Qi v3)),(.box [Ea,(.ms 4 1 0 v2.length v2.length),(.ms 5 1 0 v3.length v3.length),Ea,(Qg (-1)),(Qg 0),Ea])]⟩) (prune_of2 [Qx,(.box [(La q2)]),(.box [(.fn 111 [(.iptr [(Qi q3)]),(.iptr [(Qi q4)])]),(.fn 115 [(.ptr 1 0)])]),Qx,(.mt 3 1 (cellsOf Qi v2)),(.mt 3 1 (cellsOf Qi v3)),(.box [Ea,(.ms 4 1 0 v2.length v2.length),(.ms 5 1 0 v3.length v3.length),Ea,(Qg (-1)),(Qg 0),Ea])] (fun _=>(pg_cons (by kernel_rfl) (pg_cons (by kernel_rfl) (pg_cons (by kernel_rfl) (pg_cons (by kernel_rfl) (pg_cons (purge_mt Qi _ _ _ _ _) (pg_cons (purge_mt Qi _ _ _ _ _) (pg_cons (by kernel_rfl) pg_nil)))))))) rfl) ?_
 refine Qd (R_G (Qa 1 (Qe (Qd ?_))))
 refine Qbd (by kernel_rfl) ?_
 refine Qs (Qd (Qu (Qd (R_G (Qa 1 (Qa 2 (Qe (R_G (Qa 1 ?_)))))))))
 obtain ⟨_,hx,hm⟩:=Qh hm
 have hq:=Qed _ _ hx
 dsimp only [Qaj] at hq
 refine Q0 hq ?_
 refine Qe (R_G (Qa 2 (Qe ?_)))
 refine RL_at (st':=⟨kp 33 [(6,(.ptr 3 0)),(9,(.ptr 6 0)),(23,(.arr 2 0 2 2)),(24,(Qg 2)),(25,(Qg 1))],[Qx,(.box [(La q2)]),(.box [(.fn 111 [(.iptr [(Qi q3)]),(.iptr [(Qi q4)])]),(.fn 115 [(.ptr 1 0)])]),Qx,(.mt 3 1 (cellsOf Qi v2)),(.mt 3 1 (cellsOf Qi v3)),(.box [Ea,(.ms 4 1 0 v2.length v2.length),(.ms 5 1 0 v3.length v3.length),Ea,(Qg q3),(Qg q4),Ea])]⟩) (prune_of2 [Qx,(.box [(La q2)]),(.box [(.fn 111 [(.iptr [(Qi q3)]),(.iptr [(Qi q4)])]),(.fn 115 [(.ptr 1 0)])]),Qx,(.mt 3 1 (cellsOf Qi v2)),(.mt 3 1 (cellsOf Qi v3)),(.box [Ea,(.ms 4 1 0 v2.length v2.length),(.ms 5 1 0 v3.length v3.length),Ea,(Qg q3),(Qg q4),Ea])] (fun _=>(pg_cons (by kernel_rfl) (pg_cons (by kernel_rfl) (pg_cons (by kernel_rfl) (pg_cons (by kernel_rfl) (pg_cons (purge_mt Qi _ _ _ _ _) (pg_cons (purge_mt Qi _ _ _ _ _) (pg_cons (by kernel_rfl) pg_nil)))))))) rfl) ?_
 refine Qd (R_G (Qa 1 (Qe (Qd ?_))))
 refine Qbd (by kernel_rfl) ?_
 refine Qs (Qd (Qu (Qd (R_G (Qa 1 (Qa 2 (Qe (R_G (Qa 1 ?_)))))))))
 obtain ⟨_,hx,hm⟩:=Qh hm
 have hq:=Qdm _ _ hx
 dsimp only [Jo] at hq
 refine Q0 hq ?_
 refine Qe (R_G (Qa 2 (Qe ?_)))
 refine RL_at (st':=⟨kp 33 [(6,(.ptr 3 0)),(9,(.ptr 6 0)),(23,(.arr 2 0 2 2)),(24,(Qg 2)),(25,(Qg 2))],[Qx,(.box [(La q2)]),(.box [(.fn 111 [(.iptr [(Qi q3)]),(.iptr [(Qi q4)])]),(.fn 115 [(.ptr 1 0)])]),Qx,(.mt 3 1 (cellsOf Qi v2)),(.mt 3 1 (cellsOf Qi v3)),(.box [(La q2),(.ms 4 1 0 v2.length v2.length),(.ms 5 1 0 v3.length v3.length),Ea,(Qg q3),(Qg q4),Ea])]⟩) (prune_of2 [Qx,(.box [(La q2)]),(.box [(.fn 111 [(.iptr [(Qi q3)]),(.iptr [(Qi q4)])]),(.fn 115 [(.ptr 1 0)])]),Qx,(.mt 3 1 (cellsOf Qi v2)),(.mt 3 1 (cellsOf Qi v3)),(.box [(La q2),(.ms 4 1 0 v2.length v2.length),(.ms 5 1 0 v3.length v3.length),Ea,(Qg q3),(Qg q4),Ea])] (fun _=>(pg_cons (by kernel_rfl) (pg_cons (by kernel_rfl) (pg_cons (by kernel_rfl) (pg_cons (by kernel_rfl) (pg_cons (purge_mt Qi _ _ _ _ _) (pg_cons (purge_mt Qi _ _ _ _ _) (pg_cons (by kernel_rfl) pg_nil)))))))) rfl) ?_
 refine Qd (R_G (Qa 1 (Qe (Qd ?_))))
 refine Xh (by kernel_rfl) ?_
 refine Zh (Qd (R_G (Qa 3 (Qe (Qo ?_)))))
 obtain rfl:=Qq hm
 exact ⟨trivial,QM (by kernel_rfl) (by kernel_rfl)⟩
def YY (x:(Int × (List Int) × (List Int))):Option (Qn × Int) :=
 match x with
 | (p0,p1,p2) =>
 (if p0=(-1) then
  some (W ((max (max (p1.length:Int) (p2.length:Int)) 1) - 1))
 else
 some p0
 )>>=fun (v1:Int) =>
 if v1≥(max (max (p1.length:Int) (p2.length:Int)) 1) then
  Zv 4>>=fun ((v2,v3):(Qn × Int)) =>
  some (v2,v3)
 else
 Yd (p1,p2,(max (max (p1.length:Int) (p2.length:Int)) 1),v1)>>=fun ((v4,v5):((List Int) × Int)) =>
 Yd (p2,p1,(max (max (p1.length:Int) (p2.length:Int)) 1),v1)>>=fun ((v6,v7):((List Int) × Int)) =>
 (if v5≠0 then
  some true
 else
 some (v7 != 0)
 )>>=fun (v8:Bool) =>
 if v8=true then
  Zv 4>>=fun ((v9,v10):(Qn × Int)) =>
  some (v9,v10)
 else
 QbQ (v4,v6,v1)>>=fun ((v11,v12):((List Int) × Int)) =>
 if v12≠0 then
  Zv v12>>=fun ((v13,v14):(Qn × Int)) =>
  some (v13,v14)
 else
 Y6 (v1,0)>>=fun ((v15,v16):(Int × Int)) =>
 (
 Qac (v6,v11,v4,v15,v16)>>=fun (out:Int ⊕ ((List Int) × (List Int))) =>
 match out with
 | .inl v17 =>
  some ((⟨([]:(List Int)),([]:(List Int)),([]:(List Int)),([]:(List Int)),0,0,([]:(List Int))⟩:Qn),v17)
 | .inr ((v18,v19)) =>
  some ((⟨v4,v18,v19,([]:(List Int)),v15,v16,([]:(List Int))⟩:Qn),0)
 )
def QdD:(Int × (List Int) × (List Int))→(Qn × Int)→Prop:=fun x r=>match x,r with
 | (p0,p1,p2),(r0,r1)=>∀ H,PC prog env 96 ([(Qi p0),(Lb p1),(Lb p2)].map .dat) H (.tup [(.dat (Qn.toD r0)),(Qg r1)]) H
theorem QfI:∀ x r,YY x=some r→QdD x r:=by
 intro x r hm
 unfold YY at hm
 unfold QdD
 obtain ⟨p0,p1,p2⟩:=x
 obtain ⟨r0,r1⟩:=r
 intro H
 refine PC_sx (ds:=[(Qi p0),(Lb p1),(Lb p2)]) (fn:=f96) rfl ?_
 refine Qd (R_G (Qa 2 (Qe (Qd (R_G (Qa 1 ?_))))))
 refine QP Qi p1 (es:=(List.map Qi) p1) rfl ?_
 refine Qa 1 ?_
 refine QP Qi p2 (es:=(List.map Qi) p2) rfl ?_
 refine Zt rfl (fun _=>Qhs (k:=.i64) (m:=(p1.length:Int)) (n:=(p2.length:Int)) (q:=1) rfl (by kernel_rfl) (by kernel_rfl) (by kernel_rfl)) ?_
 refine Qa 1 (Qe (Qd (Qd (R_G (Qa 2 (Qe ?_))))))
 obtain ⟨v1,hs,hm⟩:=Qh hm
 refine Yx (fun d=>⟨sl d 76 [(0,(Qg v1)),(1,(La p1)),(2,(La p2)),(6,(.ptr 0 0)),(8,(Qg (max (max (p1.length:Int) (p2.length:Int)) 1)))],[Qx]⟩) ?_ (fun d=>?_)
 ·replace hm:=hs
  clear hs
  refine Qy hm (ZN _ _) (fun hm=>?_) (fun hm=>?_)
  ·refine R_G (Qa 3 (Qe ?_))
   obtain rfl:=Qq hm
   exact Qp
  refine Qs ?_
  obtain rfl:=Qq hm
  exact Qp
 clear hs
 refine Qd (Qd (R_G (Qa 3 (Qe ?_))))
 refine Qy hm (rfl) (fun hm=>?_) (fun hm=>?_)
 ·refine Qd (R_G ?_)
  obtain ⟨⟨v2,v3⟩,hx,hm⟩:=Qh hm
  have hq:=ZV _ _ hx []
  refine Qr hq ?_
  refine Qa 4 (Qe (Qo ?_))
  obtain ⟨rfl,rfl⟩:=Zl hm
  exact ⟨trivial,Qk⟩
 refine Qs (Qd (R_G (Qa 4 ?_)))
 obtain ⟨⟨v4,v5⟩,hx,hm⟩:=Qh hm
 have hq:=Qeg _ _ hx []
 refine Qr hq ?_
 refine Qa 6 (Qe (Qd (R_G (Qa 4 ?_))))
 obtain ⟨⟨v6,v7⟩,hx,hm⟩:=Qh hm
 have hq:=Qeg _ _ hx []
 refine Qr hq ?_
 refine Qa 5 (Qe (Qd (Qd ?_)))
 obtain ⟨v8,hs,hm⟩:=Qh hm
 refine Yx (fun d=>⟨sl d 76 [(0,(Qg v1)),(6,(.ptr 0 0)),(9,(.ptr 1 0)),(11,(La v6)),(50,(Qm v8))],[Qx,(.box [(La v4)])]⟩) ?_ (fun d=>?_)
 ·replace hm:=hs
  clear hs
  refine R_G (Qa 3 ?_)
  refine Qw 47 hm (ne_dec _ _) (fun hm=>?_) (fun hm=>?_)
  ·refine Qa 3 (Qe ?_)
   obtain rfl:=Qq hm
   exact Qp
  refine Qa 3 (Qe ?_)
  obtain rfl:=Qq hm
  exact Qp
 clear hs
 refine Qy hm (Qz _) (fun hm=>?_) (fun hm=>?_)
 ·refine Qd (R_G ?_)
  obtain ⟨⟨v9,v10⟩,hx,hm⟩:=Qh hm
  have hq:=ZV _ _ hx []
  refine Qr hq ?_
  refine Qa 4 (Qe (Qo ?_))
  obtain ⟨rfl,rfl⟩:=Zl hm
  exact ⟨trivial,Qk⟩
 refine Qs (Qd (R_G (Qa 3 ?_)))
 obtain ⟨⟨v11,v12⟩,hx,hm⟩:=Qh hm
 have hq:=Qgj _ _ hx []
 refine Qr hq ?_
 refine Qa 5 (Qe (Qd (Qd (R_G (Qa 2 (Qe ?_))))))
 refine Qy hm (ne_dec _ _) (fun hm=>?_) (fun hm=>?_)
 ·refine Qd (R_G (Qa 1 ?_))
  obtain ⟨⟨v13,v14⟩,hx,hm⟩:=Qh hm
  have hq:=ZV _ _ hx []
  refine Qr hq ?_
  refine Qa 4 (Qe (Qo ?_))
  obtain ⟨rfl,rfl⟩:=Zl hm
  exact ⟨trivial,Qk⟩
 refine Qs (Qd (R_G (Qa 3 ?_)))
 obtain ⟨⟨v15,v16⟩,hx,hm⟩:=Qh hm
 have hq:=Qdw _ _ hx []
 refine Qr hq ?_
 refine Qa 2 ?_
 obtain ⟨out,hx,hm⟩:=Qh hm
 rcases out with v17|⟨v18,v19⟩
 ·have hq:=QcT _ _ hx
  dsimp only [J4] at hq
  refine Q0 hq ?_
  refine Qa 4 (Qe (Qo ?_))
  obtain ⟨rfl,rfl⟩:=Zl hm
  exact ⟨trivial,Qk⟩
 ·have hq:=QcT _ _ hx
  dsimp only [J4] at hq
  refine Q0 hq ?_
  refine Qa 4 (Qe (Qo ?_))
  obtain ⟨rfl,rfl⟩:=Zl hm
  exact ⟨trivial,Xi [(.agg [(La v4),(.ms 4 1 0 v18.length v18.length),(.ms 5 1 0 v19.length v19.length),Ea,(Qg v15),(Qg v16),Ea]),(Qg 0)] (by kernel_rfl) (po_tup (ps_cons (p1_agg (pc_cons (by kernel_rfl) (pc_cons (pc_ms (e:=3) Qi v18 rfl (fun _=>rfl) (by kernel_rfl)) (pc_cons (pc_ms (e:=3) Qi v19 rfl (fun _=>rfl) (by kernel_rfl)) (pc_cons (by kernel_rfl) (pc_cons (by kernel_rfl) (pc_cons (by kernel_rfl) (pc_cons (by kernel_rfl) pc_nil)))))))) (ps_cons (by kernel_rfl) ps_nil)))⟩
def Qao (x:(Qc × (List Int))):Option Qc :=
 match x with
 | (p0,p1) =>
 ZU (p0.shape,p1)>>=fun (v1:Bool) =>
 if v1=true then
  some p0
 else
 Xr (p0,p1)>>=fun (v2:Qc) =>
 some v2
def Qfr:(Qc × (List Int))→Qc→Prop:=fun x r=>match x,r with
 | (p0,p1),r0=>∀ H,PC prog env 97 ([(Qc.ex p0),(Lb p1)].map .dat) H (.dat (Qc.ex r0)) H
theorem Qea:∀ x r,Qao x=some r→Qfr x r:=by
 intro x r0 hm
 unfold Qao at hm
 unfold Qfr
 obtain ⟨p0,p1⟩:=x
 intro H
 refine PC_sx (ds:=[(Qc.ex p0),(Lb p1)]) (fn:=f97) rfl ?_
 refine Qd (R_G (Qa 2 (Qe (Qd (Qd (R_G (Qa 3 ?_)))))))
 obtain ⟨v1,hx,hm⟩:=Qh hm
 have hq:=Je _ _ hx []
 refine Qr hq ?_
 refine Qe ?_
 refine Qy hm (Qz _) (fun hm=>?_) (fun hm=>?_)
 ·refine Qd (R_G (Qa 2 (Qe (Qo ?_))))
  obtain rfl:=Qq hm
  exact ⟨trivial,Qk⟩
 refine Qs (Qd (R_G (Qa 2 ?_)))
 obtain ⟨v2,hx,hm⟩:=Qh hm
 have hq:=Qcb _ _ hx []
 refine Qr hq ?_
 refine Qa 1 (Qe (Qo ?_))
 obtain rfl:=Qq hm
 exact ⟨trivial,Qk⟩
def Ye (x:List Int):Option (List Int):=app 8 [] x
def cgm_slices_Clone_int64_int64 (l:List Int):Nat:=match l with|[]=>0|_=>1
def YN:List Int→List Int→Prop:=fun x r=>PC prog env 116 [.dat (Lb x)] [] (.ms 0 (cgm_slices_Clone_int64_int64 r) 0 r.length r.length) [.mt 2 (cgm_slices_Clone_int64_int64 r) (cellsOf Qi r)]
theorem Qax:∀ x r,Ye x=some r→YN x r:=by
 intro x r hm
 obtain ⟨hroom,hr⟩:=app_some hm
 have hr:r=x:=hr
 subst hr
 unfold YN
 cases r with
 | nil=>exact PC_of (n:=20) (by kernel_rfl)
 | cons a l =>
  refine PC_sxB (fn:=f116) rfl ?_
  refine Qd (R_G (Qa 1 (Qe (Qd (Qd (R_G (Qa 1 ?_)))))))
  refine Zt rfl (fun _=>Qgx (p:=.dat (Lb (a::l))) (b:=false) rfl (by kernel_rfl) (by kernel_rfl) (by kernel_rfl)) ?_
  refine Qe ?_
  refine Xh (by kernel_rfl) ?_
  refine Qs (Qd (R_G (Qa 2 ?_)))
  refine ZI (v:=.ms 0 1 0 (a::l).length (a::l).length) (fun H=>H.set 0 (.mt 2 1 (cellsOf Qi (a::l)))) rfl (by kernel_rfl) (fun _ hk=>QgQ Qi (l:=[]) (es:=a::l) (bytes:=8) (e:=2) (tt:=0) (g:=0) (m:=0) hm (fun _=>rfl) (by kernel_rfl) (by kernel_rfl) (by kernel_rfl) (by kernel_rfl) rfl rfl (by kernel_rfl) rfl (by kernel_rfl) (source_lst (fun _=>rfl)) hk) ?_
  refine Qa 1 (Qe (Qo ?_))
  exact ⟨trivial,QM (by kernel_rfl) (by kernel_rfl)⟩
def X4 (x:(Int × Int × Int × ByteArray × (List Int) × (List Qf) × (List (ByteArray × Int)) × (List Qb) × (List Qb))):Option (((List Int) × Bool × Int)) :=
 match x with
 | (q0,q1,q2,q3,q4,q5,q6,q7,q8) =>
 if q0=1 then
  Ye q4>>=fun v1 =>
  some (v1,((q4.length:Int) == 1),0)
 else
 Yu (q3,q6,q7,q8)>>=fun ((v2,v3,v4):((List Int) × (List Int) × Bool)) =>
 if v4=false then
  some (([]:List Int),false,2)
 else
 if (v2.length:Int) > 1 then
  some (([]:List Int),false,4)
 else
 some (v3,((v2.length:Int) == 0),0)
def Qbo:(Int × Int × Int × ByteArray × (List Int) × (List Qf) × (List (ByteArray × Int)) × (List Qb) × (List Qb))→((List Int) × Bool × Int)→Prop:=fun x r=>match x with
 | (q0,q1,q2,q3,q4,q5,q6,q7,q8)=>PCX prog env 98 [(.ptr 4 0),(.dat (.agg [(Qi q0),(Qi q1),(Qi q2),(strD q3),(Lb q4),(.lst (Qf.toDs q5))]))] [(.map (smE q6)),(.tok 59 q7.length),(.box [(.vec 1 ((List.map Qb.toD) q7)),(.mapv 0)]),(.tok 59 (([]:List Qb).length)),(.box [(.vec 1 ((List.map Qb.toD) q8)),(.mapv 0)])] (match r with|(v5001,v5002,v5003)=>(.tup [(.dat (.agg [(Lb v5001),(QaW v5002)])),(Qg v5003)])) (match r with|(v5001,v5002,v5003)=>[(.map (smE q6)),(.tok 59 q7.length),(.box [(.vec 1 ((List.map Qb.toD) q7)),(.mapv 0)]),(.tok 59 (([]:List Qb).length)),(.box [(.vec 1 ((List.map Qb.toD) q8)),(.mapv 0)])])
theorem Qfk:∀ x r,X4 x=some r→Qbo x r:=by
 intro x r hm
 unfold X4 at hm
 unfold Qbo
 obtain ⟨q0,q1,q2,q3,q4,q5,q6,q7,q8⟩:=x
 refine PCX_sxB (fn:=f98) rfl ?_
 refine Qd (R_G (Qa 3 (Qe (Qd (Qd (R_G (Qa 3 (Qe ?_))))))))
 refine Qy hm (ZN _ _) (fun hm=>?_) (fun hm=>?_)
 ·refine Qd ?_
  refine QaB ?_
  refine Qa 2 ?_
  obtain ⟨v1,hx,hm⟩:=Qh hm
  have hq:=Qax _ _ hx
  dsimp only [YN] at hq
  refine Zt (v:=.dat (Lb v1)) rfl (fun _=>QcH (f:=116) (first:=#[]) (cap:=#[]) (e:=2) (ow':=[]) (ds:=[.lst ((List.map Qi) q4)]) rfl (by kernel_rfl) (by kernel_rfl) (by kernel_rfl) (by kernel_rfl) hq (p1_ms (pc_ms (e:=2) Qi v1 rfl (fun _=>rfl) (by kernel_rfl)))) ?_
  refine Qa 2 ?_
  refine QP Qi q4 (es:=(List.map Qi) q4) rfl ?_
  refine Qa 4 ?_
  refine Qe ⟨by kernel_rfl,?_⟩
  refine Qo ?_
  obtain rfl:=Qq hm
  exact ⟨trivial,fin_bodyX 5 (by kernel_rfl) (by kernel_rfl)⟩
 refine Qs (Qd (R_G (Qa 3 ?_)))
 obtain ⟨⟨v2,v3,v4⟩,hx,hm⟩:=Qh hm
 have hq:=Qcf _ _ hx
 dsimp only [Jg] at hq
 refine QbJ (n:=5) hq ?_ (hi:=und_hi 0) (hq:=und_hq 0)
 refine Qa 6 (Qe (Qd (Qu (Qd (R_G (Qa 3 (Qe ?_)))))))
 refine Qy hm (Xp _) (fun hm=>?_) (fun hm=>?_)
 ·refine Qd (R_G (Qa 3 (Qe (Qo ?_))))
  obtain rfl:=Qq hm
  exact ⟨trivial,fin_bodyX 5 (by kernel_rfl) (by kernel_rfl)⟩
 refine Qd (R_G (Qa 2 ?_))
 refine QP Qi v2 (es:=(List.map Qi) v2) rfl ?_
 refine Qa 2 (Qe ?_)
 refine Qy hm (rfl) (fun hm=>?_) (fun hm=>?_)
 ·refine Qd (R_G (Qa 3 (Qe (Qo ?_))))
  obtain rfl:=Qq hm
  exact ⟨trivial,fin_bodyX 5 (by kernel_rfl) (by kernel_rfl)⟩
 refine Qs (Qd (R_G (Qa 4 ?_)))
 refine QP Qi v2 (es:=(List.map Qi) v2) rfl ?_
 refine Qa 4 (Qe (Qo ?_))
 obtain rfl:=Qq hm
 exact ⟨trivial,fin_bodyX 5 (by kernel_rfl) (by kernel_rfl)⟩
def Xo (x:Int × Int):Option (List Int):=match x with
 | (a,n)=>if (a=1∨a=-1)∧0≤n∧n≤16 then some (List.replicate n.toNat a) else none
def Js:Int × Int→List Int→Prop:=fun x r=>match x with
 | (a,n)=>PC prog env 153 [(La ([a]:List Int)),(Qg n)] [] (.arr 0 0 r.length r.length) [(.box (cellsOf Qi r))]
theorem Qdp:∀ x r,Xo x=some r→Js x r:=by
 intro x r hm
 obtain ⟨a,n⟩:=x
 unfold Xo at hm
 simp only at hm
 split at hm
 ·rename_i hc
  cases hm
  obtain ⟨ha,h0,h1⟩:=hc
  obtain ⟨k,rfl⟩:=Int.eq_ofNat_of_zero_le h0
  have hk:k≤16:=by omega
  unfold Js
  skip
  rcases ha with rfl|rfl
  ·match k,hk with
   | 0,_=>refine PC_of (n:=60) ?_; kernel_rfl
   | 1,_=>refine PC_of (n:=60) ?_; kernel_rfl
   | 2,_=>refine PC_of (n:=60) ?_; kernel_rfl
   | 3,_=>refine PC_of (n:=60) ?_; kernel_rfl
   | 4,_=>refine PC_of (n:=60) ?_; kernel_rfl
   | 5,_=>refine PC_of (n:=60) ?_; kernel_rfl
   | 6,_=>refine PC_of (n:=60) ?_; kernel_rfl
   | 7,_=>refine PC_of (n:=60) ?_; kernel_rfl
   | 8,_=>refine PC_of (n:=60) ?_; kernel_rfl
   | 9,_=>refine PC_of (n:=60) ?_; kernel_rfl
   | 10,_=>refine PC_of (n:=60) ?_; kernel_rfl
   | 11,_=>refine PC_of (n:=60) ?_; kernel_rfl
   | 12,_=>refine PC_of (n:=60) ?_; kernel_rfl
   | 13,_=>refine PC_of (n:=60) ?_; kernel_rfl
   | 14,_=>refine PC_of (n:=60) ?_; kernel_rfl
   | 15,_=>refine PC_of (n:=60) ?_; kernel_rfl
   | 16,_=>refine PC_of (n:=60) ?_; kernel_rfl
  ·match k,hk with
   | 0,_=>refine PC_of (n:=60) ?_; kernel_rfl
   | 1,_=>refine PC_of (n:=60) ?_; kernel_rfl
   | 2,_=>refine PC_of (n:=60) ?_; kernel_rfl
   | 3,_=>refine PC_of (n:=60) ?_; kernel_rfl
   | 4,_=>refine PC_of (n:=60) ?_; kernel_rfl
   | 5,_=>refine PC_of (n:=60) ?_; kernel_rfl
   | 6,_=>refine PC_of (n:=60) ?_; kernel_rfl
   | 7,_=>refine PC_of (n:=60) ?_; kernel_rfl
   | 8,_=>refine PC_of (n:=60) ?_; kernel_rfl
   | 9,_=>refine PC_of (n:=60) ?_; kernel_rfl
   | 10,_=>refine PC_of (n:=60) ?_; kernel_rfl
   | 11,_=>refine PC_of (n:=60) ?_; kernel_rfl
   | 12,_=>refine PC_of (n:=60) ?_; kernel_rfl
   | 13,_=>refine PC_of (n:=60) ?_; kernel_rfl
   | 14,_=>refine PC_of (n:=60) ?_; kernel_rfl
   | 15,_=>refine PC_of (n:=60) ?_; kernel_rfl
   | 16,_=>refine PC_of (n:=60) ?_; kernel_rfl
 ·cases hm
def QcN (x:Int):Option (List Int) :=
 match x with
 | p0 =>
 Xo (1,p0)>>=fun v1 =>
 some v1
def QfD:Int→(List Int)→Prop:=fun x r=>match x,r with
 | p0,r0=>∀ H,PC prog env 135 ([(Qi p0)].map .dat) H (La r0) H
theorem QgP:∀ x r,QcN x=some r→QfD x r:=by
 intro p0 r0 hm
 unfold QcN at hm
 unfold QfD
 intro H
 refine PC_sx (ds:=[(Qi p0)]) (fn:=f135) rfl ?_
 refine Qd (R_G (Qa 1 (Qe (Qd (R_G (Qa 2 ?_))))))
 obtain ⟨v1,hx,hm⟩:=Qh hm
 have hq:=Qdp _ _ hx
 dsimp only [Js] at hq
 replace hq:=hq
 refine Q0 hq ?_
 refine Qa 1 (Qe (Qo ?_))
 obtain rfl:=Qq hm
 exact ⟨trivial,Xi [(.arr 0 0 v1.length v1.length)] (by kernel_rfl) (po_arr (pc_arr Qi v1 rfl (fun _=>rfl) (by kernel_rfl)))⟩
def Qau (x:((List Int) × Int)):Option ((List Int) × Int) :=
 match x with
 | (p0,p1) =>
 if (p0.length:Int) > 0 then
  some (p0,0)
 else
 if p1 > 16 then
  some (([]:(List Int)),7)
 else
 QcN p1>>=fun (v1:(List Int)) =>
 some (v1,0)
def QfE:((List Int) × Int)→((List Int) × Int)→Prop:=fun x r=>match x,r with
 | (p0,p1),(r0,r1)=>∀ H,PC prog env 117 ([(Lb p0),(Qi p1)].map .dat) H (.tup [(La r0),(Qg r1)]) H
theorem QfG:∀ x r,Qau x=some r→QfE x r:=by
 intro x r hm
 unfold Qau at hm
 unfold QfE
 obtain ⟨p0,p1⟩:=x
 obtain ⟨r0,r1⟩:=r
 intro H
 refine PC_sx (ds:=[(Lb p0),(Qi p1)]) (fn:=f117) rfl ?_
 refine Qd (R_G (Qa 2 (Qe (Qd (Qu (Qd (R_G (Qa 1 ?_))))))))
 refine QP Qi p0 (es:=(List.map Qi) p0) rfl ?_
 refine Qa 2 (Qe ?_)
 refine Qy hm (rfl) (fun hm=>?_) (fun hm=>?_)
 ·refine Qd (R_G (Qa 3 (Qe (Qo ?_))))
  obtain ⟨rfl,rfl⟩:=Zl hm
  exact ⟨trivial,Qk⟩
 refine Qd (R_G (Qa 3 (Qe ?_)))
 refine Qy hm (rfl) (fun hm=>?_) (fun hm=>?_)
 ·refine Qd (R_G (Qa 2 (Qe (Qo ?_))))
  obtain ⟨rfl,rfl⟩:=Zl hm
  exact ⟨trivial,Qk⟩
 refine Qs (Qd (R_G (Qa 1 ?_)))
 obtain ⟨v1,hx,hm⟩:=Qh hm
 have hq:=QgP _ _ hx []
 refine Qr hq ?_
 refine Qa 2 (Qe (Qo ?_))
 obtain ⟨rfl,rfl⟩:=Zl hm
 exact ⟨trivial,Qk⟩
def XE (x:Int):Option (Int × Int) :=
 match x with
 | p0 =>
 (if p0 > 65536 then
  some true
 else
 some (decide (p0 < (-65536)))
 )>>=fun (v1:Bool) =>
 if v1=true then
  some (0,7)
 else
 some ((if p0 < (W (0 - p0)) then (W (0 - p0)) else p0),0)
def Qdi:Int→(Int × Int)→Prop:=fun x r=>match x,r with
 | p0,(r0,r1)=>∀ H,PC prog env 118 ([(Qi p0)].map .dat) H (.tup [(Qg r0),(Qg r1)]) H
theorem Qdo:∀ x r,XE x=some r→Qdi x r:=by
 intro p0 r hm
 unfold XE at hm
 unfold Qdi
 obtain ⟨r0,r1⟩:=r
 intro H
 refine PC_sx (ds:=[(Qi p0)]) (fn:=f118) rfl ?_
 refine Qd (R_G (Qa 2 (Qe (Qd (Qd ?_)))))
 obtain ⟨v1,hs,hm⟩:=Qh hm
 refine Yx (fun d=>⟨sl d 14 [(0,(Qg p0)),(9,(Qm v1))],[]⟩) ?_ (fun d=>?_)
 ·replace hm:=hs
  clear hs
  refine R_G (Qa 3 ?_)
  refine Qw 6 hm (rfl) (fun hm=>?_) (fun hm=>?_)
  ·refine Qa 3 (Qe ?_)
   obtain rfl:=Qq hm
   exact Qp
  refine Qa 3 (Qe ?_)
  obtain rfl:=Qq hm
  exact Qp
 clear hs
 refine Qy hm (Qz _) (fun hm=>?_) (fun hm=>?_)
 ·refine Qd (R_G (Qa 2 (Qe (Qo ?_))))
  obtain ⟨rfl,rfl⟩:=Zl hm
  exact ⟨trivial,Qk⟩
 refine Qs (Qd (R_G (Qa 3 ?_)))
 refine Zt rfl (fun _=>Qg5 (k:=.i64) (m:=p0) (n:=(W (0 - p0))) rfl (by kernel_rfl) (by kernel_rfl)) ?_
 refine Qa 2 (Qe (Qo ?_))
 obtain ⟨rfl,rfl⟩:=Zl hm
 exact ⟨trivial,Qk⟩
def Jj (x:((List Int) × (List Int) × Bool × Nat)):Option (Unit) :=
 match x with
 | (q0,q1,q2,q3) =>
 some ()
def QaT:((List Int) × (List Int) × Bool × Nat)→Unit→Prop:=fun x r=>match x with
 | (q0,q1,q2,q3)=>PC prog env 119 [(.vec 3 ((List.map Qi) q0))] [(.box [(La q1),(Qm q2)]),Qx,(.tok 3 q3),(.tok 3 q0.length)] (match r with|_=>(.fn 136 [(.ptr 4 0)])) (match r with|_=>[(.box [(La q1),(Qm q2)]),Qx,(.tok 3 q3),(.tok 3 q0.length),(.box [(.vec 3 ((List.map Qi) q0))])])
theorem Qel:∀ x r,Jj x=some r→QaT x r:=by
 intro x r hm
 unfold Jj at hm
 unfold QaT
 obtain ⟨q0,q1,q2,q3⟩:=x
 refine PC_sxB (fn:=f119) rfl ?_
 refine Qd (R_G (Qa 2 (Qe (Qd (R_G (Qa 2 (Qe (Qo ?_))))))))
 obtain rfl:=Qq hm
 exact ⟨trivial,QM (by kernel_rfl) (by kernel_rfl)⟩
def XO (x:((List Int) × Bool × (List Int) × (List Int) × (List Int) × Nat)):Option (Unit) :=
 match x with
 | (q0,q1,q2,q3,q4,q5) =>
 some ()
def JX:((List Int) × Bool × (List Int) × (List Int) × (List Int) × Nat)→Unit→Prop:=fun x r=>match x with
 | (q0,q1,q2,q3,q4,q5)=>PC prog env 136 [(.ptr 9 0),(.ptr 4 0)] [(.box [(La q0),(Qm q1)]),Qx,(.tok 3 q5),(.tok 3 q2.length),(.box [(.vec 3 ((List.map Qi) q2))]),JZ,Qx,(.mt 3 1 (cellsOf Qi q3)),(.mt 3 1 (cellsOf Qi q4)),(.box [Ea,(.ms 7 1 0 q3.length q3.length),(.ms 8 1 0 q4.length q4.length),Ea,(Qg (-1)),(Qg 0),Ea])] (match r with|_=>(.tup [])) (match r with|_=>[(.box [(La q0),(Qm q1)]),Qx,(.tok 3 q5),(.tok 3 q2.length),(.box [(.vec 3 ((List.map Qi) q2))]),JZ,Qx,(.mt 3 1 (cellsOf Qi q3)),(.mt 3 1 (cellsOf Qi q4)),(.box [Ea,(.ms 7 1 0 q3.length q3.length),(.ms 8 1 0 q4.length q4.length),(.vec 3 ((List.map Qi) q2)),(Qg (-1)),(Qg 0),Ea])])
theorem QdL:∀ x r,XO x=some r→JX x r:=by
 intro x r hm
 unfold XO at hm
 unfold JX
 obtain ⟨q0,q1,q2,q3,q4,q5⟩:=x
 refine PC_sxB (fn:=f136) rfl ?_
 refine R_G (Qa 5 (Qe ?_))
 obtain rfl:=Qq hm
 exact ⟨trivial,QM (by kernel_rfl) (by kernel_rfl)⟩
def Qad (x:((List Int) × (List Int) × (List Int) × Bool × (List Int))):Option (Int ⊕ ((List Int) × (List Int))) :=
 match x with
 | (q0,q1,q2,q3,q4) =>
 Zo q1>>=fun (v1:Int) =>
 if v1≠0 then
  some (Sum.inl v1)
 else
 QA q0>>=fun v2 =>
 QA q1>>=fun v3 =>
 XO (q2,q3,q4,v2,v3,q1.length)>>=fun (_:Unit) =>
 some (Sum.inr (v2,v3))
def J5:((List Int) × (List Int) × (List Int) × Bool × (List Int))→(Int ⊕ ((List Int) × (List Int)))→Prop:=fun x r=>match x with
 | (q0,q1,q2,q3,q4)=>PC prog env 93 [(La q0),(.vec 2 ((List.map Qi) q1)),(.arr 5 0 1 1)] [(.box [(La q2),(Qm q3)]),Qx,(.tok 3 q1.length),(.tok 3 q4.length),(.box [(.vec 3 ((List.map Qi) q4))]),JZ] (match r with|.inl v5001=>(.tup [(.dat (.agg [Eb,Eb,Eb,Eb,(Qi 0),(Qi 0),Eb])),(Qg v5001)])|.inr ((v5002,v5003))=>(.tup [(.agg [Ea,(.ms 7 1 0 v5002.length v5002.length),(.ms 8 1 0 v5003.length v5003.length),(.vec 3 ((List.map Qi) q4)),(Qg (-1)),(Qg 0),Ea]),(Qg 0)])) (match r with|.inl v5001=>[(.box [(La q2),(Qm q3)]),Qx,(.tok 3 q1.length),(.tok 3 q4.length),(.box [(.vec 3 ((List.map Qi) q4))]),JZ,Qx]|.inr ((v5002,v5003))=>[(.box [(La q2),(Qm q3)]),Qx,(.tok 3 q1.length),(.tok 3 q4.length),(.box [(.vec 3 ((List.map Qi) q4))]),JZ,(.box [Ea,(.ms 7 1 0 v5002.length v5002.length),(.ms 8 1 0 v5003.length v5003.length),(.vec 3 ((List.map Qi) q4)),(Qg (-1)),(Qg 0),Ea]),(.mt 3 1 (cellsOf Qi v5002)),(.mt 3 1 (cellsOf Qi v5003)),(.box [Ea,(.ms 7 1 0 v5002.length v5002.length),(.ms 8 1 0 v5003.length v5003.length),(.vec 3 ((List.map Qi) q4)),(Qg (-1)),(Qg 0),Ea])])
theorem QcU:∀ x r,Qad x=some r→J5 x r:=by
 intro x r hm
 unfold Qad at hm
 unfold J5
 obtain ⟨q0,q1,q2,q3,q4⟩:=x
 refine PC_sxB (fn:=f93) rfl ?_
 refine Qd (R_G (Qa 2 (Qe (Qd (Qd (R_G (Qa 1 ?_)))))))
 obtain ⟨v1,hx,hm⟩:=Qh hm
 have hq:=ZE _ _ hx []
 refine Qr hq ?_
 refine Qa 1 (Qe (Qd (R_G (Qa 2 (Qe ?_)))))
 refine Qy hm (ne_dec _ _) (fun hm=>?_) (fun hm=>?_)
 ·refine Qd (R_G (Qa 4 (Qe (Qo ?_))))
  obtain rfl:=Qq hm
  exact ⟨trivial,QM (by kernel_rfl) (by kernel_rfl)⟩
 refine Qs (Qd (R_G (Qa 1 ?_)))
 obtain ⟨v2,hx,hm⟩:=Qh hm
 have hq:=QF _ _ hx
 dsimp only [QC] at hq
 have hl9:mtOf [Blk.mt 3 (cgm_slices_Clone_int_int v2) (cellsOf Qi v2)] 0=some (3,cgm_slices_Clone_int_int v2,cellsOf Qi v2):=ZP (by kernel_rfl)
 refine ZI (v:=.ms 7 1 0 v2.length v2.length) (fun H=>H++[.mt 3 1 (cellsOf Qi v2)]) rfl (by kernel_rfl) ?_ ?_
 ·intro K hk
  refine Zz 7 (first:=#[]) (cap:=#[]) (j:=(0,3)) (ow':=[]) (f0:=Qi) (l:=v2) rfl ?_ ?_ ?_ (ds:=[.lst ((List.map Qi) q0)]) ?_ hq hl9 ?_ ?_ ?_
  ·kernel_rfl
  ·kernel_rfl
  ·kernel_rfl
  ·kernel_rfl
  ·exact hk
  ·kernel_rfl
  ·decide
 refine Qa 1 ?_
 obtain ⟨v3,hx,hm⟩:=Qh hm
 have hq:=QF _ _ hx
 dsimp only [QC] at hq
 have hl9:mtOf [Blk.mt 3 (cgm_slices_Clone_int_int v3) (cellsOf Qi v3)] 0=some (3,cgm_slices_Clone_int_int v3,cellsOf Qi v3):=ZP (by kernel_rfl)
 refine ZI (v:=.ms 8 1 0 v3.length v3.length) (fun H=>H++[.mt 3 1 (cellsOf Qi v3)]) rfl (by kernel_rfl) ?_ ?_
 ·intro K hk
  refine Zz 8 (first:=#[]) (cap:=#[]) (j:=(0,3)) (ow':=[]) (f0:=Qi) (l:=v3) rfl ?_ ?_ ?_ (ds:=[.lst ((List.map Qi) q1)]) ?_ hq hl9 ?_ ?_ ?_
  ·kernel_rfl
  ·kernel_rfl
  ·kernel_rfl
  ·kernel_rfl
  ·exact hk
  ·kernel_rfl
  ·decide
 refine Qa 3 (Qe (Qd (Qd (R_G (Qa 1 (Qa 1 (Qa 1 (Qe (Qu ?_)))))))))
 refine Zk ?_
 refine RL_at (st':=⟨kp 33 [(6,(.ptr 6 0)),(9,(.ptr 9 0)),(23,(.arr 5 0 1 1)),(24,(Qg 1)),(25,(Qg 0))],[(.box [(La q2),(Qm q3)]),Qx,(.tok 3 q1.length),(.tok 3 q4.length),(.box [(.vec 3 ((List.map Qi) q4))]),JZ,Qx,(.mt 3 1 (cellsOf Qi v2)),(.mt 3 1 (cellsOf Qi v3)),(.box [Ea,(.ms 7 1 0 v2.length v2.length),(.ms 8 1 0 v3.length v3.length),Ea,(Qg (-1)),(Qg 0),Ea])]⟩) (prune_of2 [(.box [(La q2),(Qm q3)]),Qx,(.tok 3 q1.length),(.tok 3 q4.length),(.box [(.vec 3 ((List.map Qi) q4))]),JZ,Qx,(.mt 3 1 (cellsOf Qi v2)),(.mt 3 1 (cellsOf Qi v3)),(.box [Ea,(.ms 7 1 0 v2.length v2.length),(.ms 8 1 0 v3.length v3.length),Ea,(Qg (-1)),(Qg 0),Ea])] (fun _=>(pg_cons (by kernel_rfl) (pg_cons (by kernel_rfl) (pg_cons (by kernel_rfl) (pg_cons (by kernel_rfl) (pg_cons (by kernel_rfl) (pg_cons (by kernel_rfl) (pg_cons (by kernel_rfl) (pg_cons (purge_mt Qi _ _ _ _ _) (pg_cons (purge_mt Qi _ _ _ _ _) (pg_cons (by kernel_rfl) pg_nil))))))))))) rfl) ?_
 refine Qd (R_G (Qa 1 (Qe (Qd ?_))))
 refine Qbd (by kernel_rfl) ?_
 refine Qs (Qd (Qu (Qd (R_G (Qa 1 (Qa 2 (Qe (R_G (Qa 1 ?_)))))))))
 obtain ⟨_,hx,hm⟩:=Qh hm
 have hq:=QdL _ _ hx
 dsimp only [JX] at hq
 refine Q0 hq ?_
 refine Qe (R_G (Qa 2 (Qe ?_)))
 refine RL_at (st':=⟨kp 33 [(6,(.ptr 6 0)),(9,(.ptr 9 0)),(23,(.arr 5 0 1 1)),(24,(Qg 1)),(25,(Qg 1))],[(.box [(La q2),(Qm q3)]),Qx,(.tok 3 q1.length),(.tok 3 q4.length),(.box [(.vec 3 ((List.map Qi) q4))]),JZ,Qx,(.mt 3 1 (cellsOf Qi v2)),(.mt 3 1 (cellsOf Qi v3)),(.box [Ea,(.ms 7 1 0 v2.length v2.length),(.ms 8 1 0 v3.length v3.length),(.vec 3 ((List.map Qi) q4)),(Qg (-1)),(Qg 0),Ea])]⟩) (prune_of2 [(.box [(La q2),(Qm q3)]),Qx,(.tok 3 q1.length),(.tok 3 q4.length),(.box [(.vec 3 ((List.map Qi) q4))]),JZ,Qx,(.mt 3 1 (cellsOf Qi v2)),(.mt 3 1 (cellsOf Qi v3)),(.box [Ea,(.ms 7 1 0 v2.length v2.length),(.ms 8 1 0 v3.length v3.length),(.vec 3 ((List.map Qi) q4)),(Qg (-1)),(Qg 0),Ea])] (fun _=>(pg_cons (by kernel_rfl) (pg_cons (by kernel_rfl) (pg_cons (by kernel_rfl) (pg_cons (by kernel_rfl) (pg_cons (by kernel_rfl) (pg_cons (by kernel_rfl) (pg_cons (by kernel_rfl) (pg_cons (purge_mt Qi _ _ _ _ _) (pg_cons (purge_mt Qi _ _ _ _ _) (pg_cons (by kernel_rfl) pg_nil))))))))))) rfl) ?_
 refine Qd (R_G (Qa 1 (Qe (Qd ?_))))
 refine Xh (by kernel_rfl) ?_
 refine Zh (Qd (R_G (Qa 3 (Qe (Qo ?_)))))
 obtain rfl:=Qq hm
 exact ⟨trivial,QM (by kernel_rfl) (by kernel_rfl)⟩
def Yy (x:(QG × (List Int) × (List Int) × (List Int) × Int)):Option (((List Int) × (List Int) × (List Int) × (List Int) × Int × Int × (List Int) × Int × Nat × Nat) ⊕ ((List Int) × (List Int))) :=
 match x with
 | (p0,v1,v207,v208,v209) =>
 if v209 < (p0.values.length:Int) then
  idx p0.values v209>>=fun v619 =>
  XE v619>>=fun ((v620,v621):(Int × Int)) =>
  if v621≠0 then
   Zv v621>>=fun ((v622,v623):(Qn × Int)) =>
   some (Sum.inl (v622.left,v622.right,v622.shape,v622.starts,v622.axis,v622.amount,v622.perm,v623,v207.length,v208.length))
  else
  app 8 v207 ([v620]:List Int)>>=fun v624 =>
  if v619 < 0 then
   idx v1 v209>>=fun v625 =>
   app 8 v208 ([(W (v625 - v620))]:List Int)>>=fun v626 =>
   Yy (p0,v1,v624,v626,(W (v209+1)))
  else
  app 8 v208 ([0]:List Int)>>=fun v627 =>
  Yy (p0,v1,v624,v627,(W (v209+1)))
 else
 some (Sum.inr (v207,v208))
 partial_fixpoint
def QdY:(QG × (List Int) × (List Int) × (List Int) × Int)→(((List Int) × (List Int) × (List Int) × (List Int) × Int × Int × (List Int) × Int × Nat × Nat) ⊕ ((List Int) × (List Int)))→Prop:=fun x r=>match x with
 | (p0,v1,v207,v208,v209)=>∀ st,prune 4 ((QB (QL [1,1,1,1,1,0,1,0,0] (QN f99))).bind (env.hint 99).keepAt) st=⟨kp 83 [(4,(.ptr 1 0)),(6,(La v1)),(8,(.vec 2 ((List.map Qi) v207))),(9,(.vec 3 ((List.map Qi) v208))),(38,(La p0.values)),(39,(Qg (p0.values.length:Int))),(40,(Qg v209))],[(.box [(La p0.values),(Qm p0.scalar)]),Qx,(.tok 3 v207.length),(.tok 3 v208.length)]⟩ →
  RL prog env (env.hint 99) true (QL [1,1,1,1,1,0,1,0,0] (QN f99)) 4 st (fun e s=>match r with|.inl (v607,v608,v609,v610,v611,v612,v613,v614,v615,v616)=>e=.ret∧∃ d,s=⟨sl d 83 [(4,(.ptr 1 0)),(5,(Qg v614))],[(.box [(La p0.values),(Qm p0.scalar)]),(.box [(La v607),(La v608),(La v609),(La v610),(Qg v611),(Qg v612),(La v613)]),(.tok 3 v615),(.tok 3 v616)]⟩|.inr ((v617,v618))=>e=.exit 0∧∃ d,s=⟨sl d 83 [(4,(.ptr 1 0)),(6,(La v1)),(8,(.vec 2 ((List.map Qi) v617))),(9,(.vec 3 ((List.map Qi) v618)))],[(.box [(La p0.values),(Qm p0.scalar)]),Qx,(.tok 3 v617.length),(.tok 3 v618.length)]⟩)
theorem Qaw:∀ x r,Yy x=some r→QdY x r:=by
 refine Yy.partial_correctness _ (fun Yy Qaw x r hm=>?_)
 unfold QdY
 obtain ⟨p0,v1,v207,v208,v209⟩:=x
 intro st hst
 refine RL_at hst ?_
 clear hst
 refine Qd (R_G (Qa 1 (Qe (Qd ?_))))
 refine Qy hm (rfl) (fun hm=>?_) (fun hm=>?_)
 ·refine Qs (Qd (Qu (Qd (R_G (Qa 1 ?_)))))
  refine Zj 1 Qi hm rfl (fun _=>rfl) (fun v619 hm=>?_)
  refine Qa 3 (Qe (Qd (R_G (Qa 1 ?_))))
  obtain ⟨⟨v620,v621⟩,hx,hm⟩:=Qh hm
  have hq:=Qdo _ _ hx []
  refine Qr hq ?_
  refine Qa 5 (Qe (Qd (Qd (R_G (Qa 2 (Qe ?_))))))
  refine Qy hm (ne_dec _ _) (fun hm=>?_) (fun hm=>?_)
  ·refine Qd (R_G (Qa 1 ?_))
   obtain ⟨⟨v622,v623⟩,hx,hm⟩:=Qh hm
   have hq:=ZV _ _ hx []
   refine Qr hq ?_
   refine Qa 4 (Qe (Qo ?_))
   obtain rfl:=Qq hm
   exact ⟨rfl,Qp⟩
  refine Qs (Qd (R_G (Qa 3 ?_)))
  obtain ⟨v624,hx,hm⟩:=Qh hm
  refine Qc7 3 1 8 2 Qi v207 ([v620]:List Int) v624 (xs:=(List.map Qi) v207) (es:=(List.map Qi) ([v620]:List Int)) (L:=(List.map Qi)) (fun _=>rfl) rfl rfl (fun _=>rfl) hx ?_
  refine Qa 1 (Qe (Qd (R_G (Qa 2 (Qe ?_)))))
  refine Qy hm (rfl) (fun hm=>?_) (fun hm=>?_)
  ·refine R_G (Qa 3 ?_)
   refine Zj 1 Qi hm rfl (fun _=>rfl) (fun v625 hm=>?_)
   refine Qa 4 ?_
   obtain ⟨v626,hx,hm⟩:=Qh hm
   refine Qc7 3 1 8 3 Qi v208 ([(W (v625 - v620))]:List Int) v626 (xs:=(List.map Qi) v208) (es:=(List.map Qi) ([(W (v625 - v620))]:List Int)) (L:=(List.map Qi)) (fun _=>rfl) rfl rfl (fun _=>rfl) hx ?_
   refine Qa 1 (Qe (R_G (Qa 2 (Qe ?_))))
   exact Qaw _ _ hm _ (by kernel_rfl)
  refine R_G (Qa 2 ?_)
  obtain ⟨v627,hx,hm⟩:=Qh hm
  refine Qc7 3 1 8 3 Qi v208 ([0]:List Int) v627 (xs:=(List.map Qi) v208) (es:=(List.map Qi) ([0]:List Int)) (L:=(List.map Qi)) (fun _=>rfl) rfl rfl (fun _=>rfl) hx ?_
  refine Qa 1 (Qe (R_G (Qa 2 (Qe ?_))))
  exact Qaw _ _ hm _ (by kernel_rfl)
 refine Zh ?_
 obtain rfl:=Qq hm
 exact ⟨rfl,Qp⟩
def Qb8 (x:(QG × (List Int))):Option (Qn × Int) :=
 match x with
 | (p0,p1) =>
 Qau (p1,(p0.values.length:Int))>>=fun ((v1,v2):((List Int) × Int)) =>
 if v2≠0 then
  Zv v2>>=fun ((v3,v4):(Qn × Int)) =>
  some (v3,v4)
 else
 if (p0.values.length:Int)≠(v1.length:Int) then
  Zv 5>>=fun ((v5,v6):(Qn × Int)) =>
  some (v5,v6)
 else
 (
 Yy (p0,v1,([]:List Int),([]:List Int),0)>>=fun (out:((List Int) × (List Int) × (List Int) × (List Int) × Int × Int × (List Int) × Int × Nat × Nat) ⊕ ((List Int) × (List Int))) =>
 match out with
 | .inl (v607,v608,v609,v610,v611,v612,v613,v614,v615,v616) =>
  some ((⟨v607,v608,v609,v610,v611,v612,v613⟩:Qn),v614)
 | .inr ((v617,v618)) =>
  Jj (v618,p0.values,p0.scalar,v617.length)>>=fun (_:Unit) =>
  (
  Qad (v1,v617,p0.values,p0.scalar,v618)>>=fun (out:Int ⊕ ((List Int) × (List Int))) =>
  match out with
  | .inl v628 =>
   some ((⟨([]:(List Int)),([]:(List Int)),([]:(List Int)),([]:(List Int)),0,0,([]:(List Int))⟩:Qn),v628)
  | .inr ((v629,v630)) =>
   some ((⟨([]:(List Int)),v629,v630,v618,(-1),0,([]:(List Int))⟩:Qn),0)
  )
 )
def QfC:(QG × (List Int))→(Qn × Int)→Prop:=fun x r=>match x,r with
 | (p0,p1),(r0,r1)=>∀ H,PC prog env 99 ([(QG.toD p0),(Lb p1)].map .dat) H (.tup [(.dat (Qn.toD r0)),(Qg r1)]) H
theorem QgO:∀ x r,Qb8 x=some r→QfC x r:=by
 intro x r hm
 unfold Qb8 at hm
 unfold QfC
 obtain ⟨p0,p1⟩:=x
 obtain ⟨r0,r1⟩:=r
 intro H
 refine PC_sx (ds:=[(QG.toD p0),(Lb p1)]) (fn:=f99) rfl ?_
 refine Qd (R_G (Qa 3 (Qe (Qd (R_G (Qa 3 ?_))))))
 refine QP Qi p0.values (es:=(List.map Qi) p0.values) rfl ?_
 obtain ⟨⟨v1,v2⟩,hx,hm⟩:=Qh hm
 have hq:=QfG _ _ hx []
 refine Qr hq ?_
 refine Qa 5 (Qe (Qd (Qd (R_G (Qa 2 (Qe ?_))))))
 refine Qy hm (ne_dec _ _) (fun hm=>?_) (fun hm=>?_)
 ·refine Qd (R_G (Qa 1 ?_))
  obtain ⟨⟨v3,v4⟩,hx,hm⟩:=Qh hm
  have hq:=ZV _ _ hx []
  refine Qr hq ?_
  refine Qa 4 (Qe (Qo ?_))
  obtain ⟨rfl,rfl⟩:=Zl hm
  exact ⟨trivial,Qk⟩
 refine Qs (Qd (Qd (R_G (Qa 2 ?_))))
 refine QP Qi p0.values (es:=(List.map Qi) p0.values) rfl ?_
 refine Qa 1 ?_
 refine QP Qi v1 (es:=(List.map Qi) v1) rfl ?_
 refine Qa 1 (Qe ?_)
 refine Qy hm (ne_dec _ _) (fun hm=>?_) (fun hm=>?_)
 ·refine Qd (R_G ?_)
  obtain ⟨⟨v5,v6⟩,hx,hm⟩:=Qh hm
  have hq:=ZV _ _ hx []
  refine Qr hq ?_
  refine Qa 4 (Qe (Qo ?_))
  obtain ⟨rfl,rfl⟩:=Zl hm
  exact ⟨trivial,Qk⟩
 refine Qs (Qd (R_G (Qa 2 (Qe (Qd (Qd (R_G (Qa 2 ?_))))))))
 refine QP Qi p0.values (es:=(List.map Qi) p0.values) rfl ?_
 refine Qa 1 (Qe (Qu ?_))
 obtain ⟨out,hs,hm⟩:=Qh hm
 refine Zk ?_
 rcases out with ⟨v607,v608,v609,v610,v611,v612,v613,v614,v615,v616⟩|⟨v617,v618⟩
 ·refine RL_use (Qaw _ _ hs) (by kernel_rfl) ?_
  clear hs
  intro e s hp
  obtain ⟨rfl,d,rfl⟩:=hp
  obtain ⟨rfl,rfl⟩:=Zl hm
  exact ⟨trivial,Qk⟩
 ·refine RL_use (Qaw _ _ hs) (by kernel_rfl) ?_
  clear hs
  intro e s hp
  obtain ⟨rfl,d,rfl⟩:=hp
  refine Qd (R_G (Qa 3 ?_))
  obtain ⟨_,hx,hm⟩:=Qh hm
  have hq:=Qel _ _ hx
  dsimp only [QaT] at hq
  refine Q0 hq ?_
  refine Qa 1 ?_
  obtain ⟨out,hx,hm⟩:=Qh hm
  rcases out with v628|⟨v629,v630⟩
  ·have hq:=QcU _ _ hx
   dsimp only [J5] at hq
   refine Q0 hq ?_
   refine Qa 4 (Qe (Qo ?_))
   obtain ⟨rfl,rfl⟩:=Zl hm
   exact ⟨trivial,Qk⟩
  ·have hq:=QcU _ _ hx
   dsimp only [J5] at hq
   refine Q0 hq ?_
   refine Qa 4 (Qe (Qo ?_))
   obtain ⟨rfl,rfl⟩:=Zl hm
   exact ⟨trivial,Xi [(.agg [Ea,(.ms 7 1 0 v629.length v629.length),(.ms 8 1 0 v630.length v630.length),(.vec 3 ((List.map Qi) v618)),(Qg (-1)),(Qg 0),Ea]),(Qg 0)] (by kernel_rfl) (po_tup (ps_cons (p1_agg (pc_cons (by kernel_rfl) (pc_cons (pc_ms (e:=3) Qi v629 rfl (fun _=>rfl) (by kernel_rfl)) (pc_cons (pc_ms (e:=3) Qi v630 rfl (fun _=>rfl) (by kernel_rfl)) (pc_cons (by kernel_rfl) (pc_cons (by kernel_rfl) (pc_cons (by kernel_rfl) (pc_cons (by kernel_rfl) pc_nil)))))))) (ps_cons (by kernel_rfl) ps_nil)))⟩
def JR (x:(Qn × Qc)):Option Qc :=
 match x with
 | (p0,p1) =>
 Qao (p1,p0.right)>>=fun (v1:Qc) =>
 some (⟨2,p0.shape,0,p0.starts,0,0,([]:(List Int)),([(⟨v1.kind,v1.shape,v1.buffer,v1.starts,v1.axis,v1.amount,v1.perm,v1.kids⟩:Qc)]:(List Qc))⟩:Qc)
def Qes:(Qn × Qc)→Qc→Prop:=fun x r=>match x,r with
 | (p0,p1),r0=>∀ H,PC prog env 100 ([(Qn.toD p0),(Qc.ex p1)].map .dat) H (.dat (Qc.ex r0)) H
theorem QeO:∀ x r,JR x=some r→Qes x r:=by
 intro x r0 hm
 unfold JR at hm
 unfold Qes
 obtain ⟨p0,p1⟩:=x
 intro H
 refine PC_sx (ds:=[(Qn.toD p0),(Qc.ex p1)]) (fn:=f100) rfl ?_
 refine Qd (R_G (Qa 3 (Qe (Qd ?_))))
 refine QaB ?_
 refine Qa 7 ?_
 obtain ⟨v1,hx,hm⟩:=Qh hm
 have hq:=Qea _ _ hx []
 refine Qr hq ?_
 refine Qa 3 ?_
 refine Qe ⟨by kernel_rfl,?_⟩
 refine Qo ?_
 obtain rfl:=Qq hm
 exact ⟨trivial,Qk⟩
def Qat (x:(Int × Int)):Option (Int × Int) :=
 match x with
 | (p0,p1) =>
 XE p1>>=fun ((v1,v2):(Int × Int)) =>
 (if v2≠0 then
  some true
 else
 some (decide (v1 > p0))
 )>>=fun (v3:Bool) =>
 (if v3=true then
  some p0
 else
 some v1
 )>>=fun (v4:Int) =>
 if p1 < 0 then
  some ((W (p0 - v4)),0)
 else
 some ((W (p0 - v4)),v4)
def QdZ:(Int × Int)→(Int × Int)→Prop:=fun x r=>match x,r with
 | (p0,p1),(r0,r1)=>∀ H,PC prog env 120 ([(Qi p0),(Qi p1)].map .dat) H (.tup [(Qg r0),(Qg r1)]) H
theorem Qf1:∀ x r,Qat x=some r→QdZ x r:=by
 intro x r hm
 unfold Qat at hm
 unfold QdZ
 obtain ⟨p0,p1⟩:=x
 obtain ⟨r0,r1⟩:=r
 intro H
 refine PC_sx (ds:=[(Qi p0),(Qi p1)]) (fn:=f120) rfl ?_
 refine Qd (R_G (Qa 2 (Qe (Qd (R_G (Qa 1 ?_))))))
 obtain ⟨⟨v1,v2⟩,hx,hm⟩:=Qh hm
 have hq:=Qdo _ _ hx []
 refine Qr hq ?_
 refine Qa 5 (Qe (Qd (Qd ?_)))
 obtain ⟨v3,hs,hm⟩:=Qh hm
 refine Yx (fun d=>⟨sl d 30 [(0,(Qg p0)),(1,(Qg p1)),(6,(Qg v1)),(19,(Qm v3))],[]⟩) ?_ (fun d=>?_)
 ·replace hm:=hs
  clear hs
  refine R_G (Qa 3 ?_)
  refine Qw 15 hm (ne_dec _ _) (fun hm=>?_) (fun hm=>?_)
  ·refine Qa 4 (Qe ?_)
   obtain rfl:=Qq hm
   exact Qp
  refine Qa 4 (Qe ?_)
  obtain rfl:=Qq hm
  exact Qp
 clear hs
 obtain ⟨v4,hs,hm⟩:=Qh hm
 refine Yx (fun d=>⟨sl d 30 [(0,(Qg p0)),(1,(Qg p1)),(6,(Qg v4))],[]⟩) ?_ (fun d=>?_)
 ·replace hm:=hs
  clear hs
  refine Qy hm (Qz _) (fun hm=>?_) (fun hm=>?_)
  ·refine R_G (Qa 2 (Qe ?_))
   obtain rfl:=Qq hm
   exact Qp
  refine Qs ?_
  obtain rfl:=Qq hm
  exact Qp
 clear hs
 refine Qd (Qd (R_G (Qa 2 (Qe ?_))))
 refine Qy hm (rfl) (fun hm=>?_) (fun hm=>?_)
 ·refine Qd (R_G (Qa 5 (Qe (Qo ?_))))
  obtain ⟨rfl,rfl⟩:=Zl hm
  exact ⟨trivial,Qk⟩
 refine Qs (Qd (R_G (Qa 6 (Qe (Qo ?_)))))
 obtain ⟨rfl,rfl⟩:=Zl hm
 exact ⟨trivial,Qk⟩
def Jk (x:(Nat × (List Int) × Bool × (List Int) × (List Int))):Option (Unit) :=
 match x with
 | (q0,q1,q2,q3,q4) =>
 some ()
def QaU:(Nat × (List Int) × Bool × (List Int) × (List Int))→Unit→Prop:=fun x r=>match x with
 | (q0,q1,q2,q3,q4)=>PC prog env 119 [(.arr 3 0 q0 q0)] [(.box [(La q1),(Qm q2)]),Qx,(.mt 3 1 (cellsOf Qi q3)),(.box (cellsOf Qi q4))] (match r with|_=>(.fn 136 [(.ptr 4 0)])) (match r with|_=>[(.box [(La q1),(Qm q2)]),Qx,(.mt 3 1 (cellsOf Qi q3)),(.box (cellsOf Qi q4)),(.box [(.arr 3 0 q0 q0)])])
theorem Qem:∀ x r,Jk x=some r→QaU x r:=by
 intro x r hm
 unfold Jk at hm
 unfold QaU
 obtain ⟨q0,q1,q2,q3,q4⟩:=x
 refine PC_sxB (fn:=f119) rfl ?_
 refine Qd (R_G (Qa 2 (Qe (Qd (R_G (Qa 2 (Qe (Qo ?_))))))))
 obtain rfl:=Qq hm
 exact ⟨trivial,QM (by kernel_rfl) (by kernel_rfl)⟩
def XP (x:((List Int) × Bool × (List Int) × (List Int) × Nat × (List Int) × (List Int))):Option (Unit) :=
 match x with
 | (q0,q1,q2,q3,q4,q5,q6) =>
 some ()
def JY:((List Int) × Bool × (List Int) × (List Int) × Nat × (List Int) × (List Int))→Unit→Prop:=fun x r=>match x with
 | (q0,q1,q2,q3,q4,q5,q6)=>PC prog env 136 [(.ptr 9 0),(.ptr 4 0)] [(.box [(La q0),(Qm q1)]),Qx,(.mt 3 1 (cellsOf Qi q2)),(.box (cellsOf Qi q3)),(.box [(.arr 3 0 q4 q4)]),JZ,Qx,(.mt 3 1 (cellsOf Qi q5)),(.mt 3 1 (cellsOf Qi q6)),(.box [Ea,(.ms 7 1 0 q5.length q5.length),(.ms 8 1 0 q6.length q6.length),Ea,(Qg (-1)),(Qg 0),Ea])] (match r with|_=>(.tup [])) (match r with|_=>[(.box [(La q0),(Qm q1)]),Qx,(.mt 3 1 (cellsOf Qi q2)),(.box (cellsOf Qi q3)),(.box [(.arr 3 0 q4 q4)]),JZ,Qx,(.mt 3 1 (cellsOf Qi q5)),(.mt 3 1 (cellsOf Qi q6)),(.box [Ea,(.ms 7 1 0 q5.length q5.length),(.ms 8 1 0 q6.length q6.length),(.arr 3 0 q4 q4),(Qg (-1)),(Qg 0),Ea])])
theorem QdM:∀ x r,XP x=some r→JY x r:=by
 intro x r hm
 unfold XP at hm
 unfold JY
 obtain ⟨q0,q1,q2,q3,q4,q5,q6⟩:=x
 refine PC_sxB (fn:=f136) rfl ?_
 refine R_G (Qa 5 (Qe ?_))
 obtain rfl:=Qq hm
 exact ⟨trivial,QM (by kernel_rfl) (by kernel_rfl)⟩
def Qaf (x:((List Int) × Nat × (List Int) × Bool × (List Int) × (List Int) × Nat)):Option (Int ⊕ ((List Int) × (List Int))) :=
 match x with
 | (q0,q1,q2,q3,q4,q5,q6) =>
 Z3 (q4.length=q1)>>=fun (_:Unit) =>
 Zo q4>>=fun (v2:Int) =>
 if v2≠0 then
  some (Sum.inl v2)
 else
 QA q0>>=fun v3 =>
 Z3 (q4.length=q1)>>=fun (_:Unit) =>
 QA q4>>=fun v5 =>
 XP (q2,q3,q4,q5,q6,v3,v5)>>=fun (_:Unit) =>
 some (Sum.inr (v3,v5))
def J8:((List Int) × Nat × (List Int) × Bool × (List Int) × (List Int) × Nat)→(Int ⊕ ((List Int) × (List Int)))→Prop:=fun x r=>match x with
 | (q0,q1,q2,q3,q4,q5,q6)=>PC prog env 93 [(La q0),(.ms 2 1 0 q1 q1),(.arr 5 0 1 1)] [(.box [(La q2),(Qm q3)]),Qx,(.mt 3 1 (cellsOf Qi q4)),(.box (cellsOf Qi q5)),(.box [(.arr 3 0 q6 q6)]),JZ] (match r with|.inl v5001=>(.tup [(.dat (.agg [Eb,Eb,Eb,Eb,(Qi 0),(Qi 0),Eb])),(Qg v5001)])|.inr ((v5002,v5003))=>(.tup [(.agg [Ea,(.ms 7 1 0 v5002.length v5002.length),(.ms 8 1 0 v5003.length v5003.length),(.arr 3 0 q6 q6),(Qg (-1)),(Qg 0),Ea]),(Qg 0)])) (match r with|.inl v5001=>[(.box [(La q2),(Qm q3)]),Qx,(.mt 3 1 (cellsOf Qi q4)),(.box (cellsOf Qi q5)),(.box [(.arr 3 0 q6 q6)]),JZ,Qx]|.inr ((v5002,v5003))=>[(.box [(La q2),(Qm q3)]),Qx,(.mt 3 1 (cellsOf Qi q4)),(.box (cellsOf Qi q5)),(.box [(.arr 3 0 q6 q6)]),JZ,(.box [Ea,(.ms 7 1 0 v5002.length v5002.length),(.ms 8 1 0 v5003.length v5003.length),(.arr 3 0 q6 q6),(Qg (-1)),(Qg 0),Ea]),(.mt 3 1 (cellsOf Qi v5002)),(.mt 3 1 (cellsOf Qi v5003)),(.box [Ea,(.ms 7 1 0 v5002.length v5002.length),(.ms 8 1 0 v5003.length v5003.length),(.arr 3 0 q6 q6),(Qg (-1)),(Qg 0),Ea])])
theorem QcX:∀ x r,Qaf x=some r→J8 x r:=by
 intro x r hm
 unfold Qaf at hm
 unfold J8
 obtain ⟨q0,q1,q2,q3,q4,q5,q6⟩:=x
 refine PC_sxB (fn:=f93) rfl ?_
 refine Qd (R_G (Qa 2 (Qe (Qd (Qd (R_G (Qa 1 ?_)))))))
 obtain ⟨_,hl1,hm⟩:=Qh hm
 replace hl1:=Z7 hl1
 obtain ⟨v2,hx,hm⟩:=Qh hm
 have hq:=ZE _ _ hx []
 refine Qgm (args:=[(.ms 2 1 0 q1 q1)]) hq (ps_cons (p1_ms (pc_ms (e:=3) Qi q4 hl1 (fun _=>rfl) (by kernel_rfl))) ps_nil) ?_
 refine Qa 1 (Qe (Qd (R_G (Qa 2 (Qe ?_)))))
 refine Qy hm (ne_dec _ _) (fun hm=>?_) (fun hm=>?_)
 ·refine Qd (R_G (Qa 4 (Qe (Qo ?_))))
  obtain rfl:=Qq hm
  exact ⟨trivial,QM (by kernel_rfl) (by kernel_rfl)⟩
 refine Qs (Qd (R_G (Qa 1 ?_)))
 obtain ⟨v3,hx,hm⟩:=Qh hm
 have hq:=QF _ _ hx
 dsimp only [QC] at hq
 have hl9:mtOf [Blk.mt 3 (cgm_slices_Clone_int_int v3) (cellsOf Qi v3)] 0=some (3,cgm_slices_Clone_int_int v3,cellsOf Qi v3):=ZP (by kernel_rfl)
 refine ZI (v:=.ms 7 1 0 v3.length v3.length) (fun H=>H++[.mt 3 1 (cellsOf Qi v3)]) rfl (by kernel_rfl) ?_ ?_
 ·intro K hk
  refine Zz 7 (first:=#[]) (cap:=#[]) (j:=(0,3)) (ow':=[]) (f0:=Qi) (l:=v3) rfl ?_ ?_ ?_ (ds:=[.lst ((List.map Qi) q0)]) ?_ hq hl9 ?_ ?_ ?_
  ·kernel_rfl
  ·kernel_rfl
  ·kernel_rfl
  ·kernel_rfl
  ·exact hk
  ·kernel_rfl
  ·decide
 refine Qa 1 ?_
 obtain ⟨_,hl4,hm⟩:=Qh hm
 replace hl4:=Z7 hl4
 obtain ⟨v5,hx,hm⟩:=Qh hm
 have hq:=QF _ _ hx
 dsimp only [QC] at hq
 have hl9:mtOf [Blk.mt 3 (cgm_slices_Clone_int_int v5) (cellsOf Qi v5)] 0=some (3,cgm_slices_Clone_int_int v5,cellsOf Qi v5):=ZP (by kernel_rfl)
 refine ZI (v:=.ms 8 1 0 v5.length v5.length) (fun H=>H++[.mt 3 1 (cellsOf Qi v5)]) rfl (by kernel_rfl) ?_ ?_
 ·intro K hk
  refine Zz 8 (first:=#[]) (cap:=#[]) (j:=(0,3)) (ow':=[]) (f0:=Qi) (l:=v5) rfl ?_ ?_ ?_ (ds:=[.lst ((List.map Qi) q4)]) ?_ hq hl9 ?_ ?_ ?_
  ·kernel_rfl
  ·kernel_rfl
  ·exact plain_or (cellsOf_plain (fun _=>rfl) _)
  ·exact ps_one (v:=(.ms 2 1 0 q1 q1)) (by kernel_rfl) (p1_ms (pc_ms (e:=3) Qi q4 hl4 (fun _=>rfl) (by kernel_rfl)))
  ·exact hk
  ·kernel_rfl
  ·decide
 refine Qa 3 (Qe (Qd (Qd (R_G (Qa 1 (Qa 1 (Qa 1 (Qe (Qu ?_)))))))))
 refine Zk ?_
 refine RL_at (st':=⟨kp 33 [(6,(.ptr 6 0)),(9,(.ptr 9 0)),(23,(.arr 5 0 1 1)),(24,(Qg 1)),(25,(Qg 0))],[(.box [(La q2),(Qm q3)]),Qx,(.mt 3 1 (cellsOf Qi q4)),(.box (cellsOf Qi q5)),(.box [(.arr 3 0 q6 q6)]),JZ,Qx,(.mt 3 1 (cellsOf Qi v3)),(.mt 3 1 (cellsOf Qi v5)),(.box [Ea,(.ms 7 1 0 v3.length v3.length),(.ms 8 1 0 v5.length v5.length),Ea,(Qg (-1)),(Qg 0),Ea])]⟩) (prune_of2 [(.box [(La q2),(Qm q3)]),Qx,(.mt 3 1 (cellsOf Qi q4)),(.box (cellsOf Qi q5)),(.box [(.arr 3 0 q6 q6)]),JZ,Qx,(.mt 3 1 (cellsOf Qi v3)),(.mt 3 1 (cellsOf Qi v5)),(.box [Ea,(.ms 7 1 0 v3.length v3.length),(.ms 8 1 0 v5.length v5.length),Ea,(Qg (-1)),(Qg 0),Ea])] (fun _=>(pg_cons (by kernel_rfl) (pg_cons (by kernel_rfl) (pg_cons (purge_mt Qi _ _ _ _ _) (pg_cons (purge_box Qi _ _ _) (pg_cons (by kernel_rfl) (pg_cons (by kernel_rfl) (pg_cons (by kernel_rfl) (pg_cons (purge_mt Qi _ _ _ _ _) (pg_cons (purge_mt Qi _ _ _ _ _) (pg_cons (by kernel_rfl) pg_nil))))))))))) rfl) ?_
 refine Qd (R_G (Qa 1 (Qe (Qd ?_))))
 refine Qbd (by kernel_rfl) ?_
 refine Qs (Qd (Qu (Qd (R_G (Qa 1 (Qa 2 (Qe (R_G (Qa 1 ?_)))))))))
 obtain ⟨_,hx,hm⟩:=Qh hm
 have hq:=QdM _ _ hx
 dsimp only [JY] at hq
 refine Q0 hq ?_
 refine Qe (R_G (Qa 2 (Qe ?_)))
 refine RL_at (st':=⟨kp 33 [(6,(.ptr 6 0)),(9,(.ptr 9 0)),(23,(.arr 5 0 1 1)),(24,(Qg 1)),(25,(Qg 1))],[(.box [(La q2),(Qm q3)]),Qx,(.mt 3 1 (cellsOf Qi q4)),(.box (cellsOf Qi q5)),(.box [(.arr 3 0 q6 q6)]),JZ,Qx,(.mt 3 1 (cellsOf Qi v3)),(.mt 3 1 (cellsOf Qi v5)),(.box [Ea,(.ms 7 1 0 v3.length v3.length),(.ms 8 1 0 v5.length v5.length),(.arr 3 0 q6 q6),(Qg (-1)),(Qg 0),Ea])]⟩) (prune_of2 [(.box [(La q2),(Qm q3)]),Qx,(.mt 3 1 (cellsOf Qi q4)),(.box (cellsOf Qi q5)),(.box [(.arr 3 0 q6 q6)]),JZ,Qx,(.mt 3 1 (cellsOf Qi v3)),(.mt 3 1 (cellsOf Qi v5)),(.box [Ea,(.ms 7 1 0 v3.length v3.length),(.ms 8 1 0 v5.length v5.length),(.arr 3 0 q6 q6),(Qg (-1)),(Qg 0),Ea])] (fun _=>(pg_cons (by kernel_rfl) (pg_cons (by kernel_rfl) (pg_cons (purge_mt Qi _ _ _ _ _) (pg_cons (purge_box Qi _ _ _) (pg_cons (by kernel_rfl) (pg_cons (by kernel_rfl) (pg_cons (by kernel_rfl) (pg_cons (purge_mt Qi _ _ _ _ _) (pg_cons (purge_mt Qi _ _ _ _ _) (pg_cons (by kernel_rfl) pg_nil))))))))))) rfl) ?_
 refine Qd (R_G (Qa 1 (Qe (Qd ?_))))
 refine Xh (by kernel_rfl) ?_
 refine Zh (Qd (R_G (Qa 3 (Qe (Qo ?_)))))
 obtain rfl:=Qq hm
 exact ⟨trivial,QM (by kernel_rfl) (by kernel_rfl)⟩
def YT (x:(QG × (List Int) × (List Int) × (List Int) × (List Int) × (List Int) × Int)):Option (((List Int) × (List Int))) :=
 match x with
 | (p0,v1,v7,v8,v209,v210,v211) =>
 if v211 < (p0.values.length:Int) then
  idx p0.values v211>>=fun v611 =>
  idx v1 v211>>=fun v612 =>
  Qat (v612,v611)>>=fun ((v613,v614):(Int × Int)) =>
  Z3 (v209.length=v7.length)>>=fun (_:Unit) =>
  idx v209 v211>>=fun v615 =>
  setM v209 v211 v613>>=fun v617 =>
  Z3 (v210.length=v8.length)>>=fun (_:Unit) =>
  idx v210 v211>>=fun v618 =>
  setM v210 v211 v614>>=fun v620 =>
  YT (p0,v1,v7,v8,v617,v620,(W (v211+1)))
 else
 some (v209,v210)
 partial_fixpoint
def QdU:(QG × (List Int) × (List Int) × (List Int) × (List Int) × (List Int) × Int)→((List Int) × (List Int))→Prop:=fun x r=>match x with
 | (p0,v1,v7,v8,v209,v210,v211)=>∀ st,prune 4 ((QB (QL [1,1,1,1,1,0,1,0,0] (QN f101))).bind (env.hint 101).keepAt) st=⟨kp 72 [(4,(.ptr 1 0)),(6,(La v1)),(8,(.ms 2 1 0 v7.length v7.length)),(9,(.arr 3 0 v8.length v8.length)),(41,(La p0.values)),(42,(Qg (p0.values.length:Int))),(43,(Qg v211))],[(.box [(La p0.values),(Qm p0.scalar)]),Qx,(.mt 3 1 (cellsOf Qi v209)),(.box (cellsOf Qi v210))]⟩ →
  RL prog env (env.hint 101) true (QL [1,1,1,1,1,0,1,0,0] (QN f101)) 4 st (fun e s=>match r with|(v609,v610)=>e=.exit 0∧∃ d,s=⟨sl d 72 [(4,(.ptr 1 0)),(6,(La v1)),(8,(.ms 2 1 0 v7.length v7.length)),(9,(.arr 3 0 v8.length v8.length))],[(.box [(La p0.values),(Qm p0.scalar)]),Qx,(.mt 3 1 (cellsOf Qi v609)),(.box (cellsOf Qi v610))]⟩)
theorem Qcz:∀ x r,YT x=some r→QdU x r:=by
 refine YT.partial_correctness _ (fun YT Qcz x r hm=>?_)
 unfold QdU
 obtain ⟨p0,v1,v7,v8,v209,v210,v211⟩:=x
 intro st hst
 refine RL_at hst ?_
 clear hst
 refine Qd (R_G (Qa 1 (Qe (Qd ?_))))
 refine Qy hm (rfl) (fun hm=>?_) (fun hm=>?_)
 ·refine Qs (Qd (Qu (Qd (R_G (Qa 1 ?_)))))
  refine Zj 1 Qi hm rfl (fun _=>rfl) (fun v611 hm=>?_)
  refine Qa 3 (Qe (R_G (Qa 6 ?_)))
  refine Zj 1 Qi hm rfl (fun _=>rfl) (fun v612 hm=>?_)
  refine Qa 2 ?_
  obtain ⟨⟨v613,v614⟩,hx,hm⟩:=Qh hm
  have hq:=Qf1 _ _ hx []
  refine Qr hq ?_
  refine Qa 3 ?_
  obtain ⟨_,hl616,hm⟩:=Qh hm
  replace hl616:=Z7 hl616
  obtain ⟨v615,hx,hm⟩:=Qh hm
  refine Zt rfl (fun _=>Qfl (e:=3) (n:=v211) (j:=(v211).toNat) (tt:=2) (g:=1) (lo:=0) (len:=v7.length) (cap:=v7.length) (k:=.i64) (by kernel_rfl) (by kernel_rfl) rfl (by kernel_rfl) (by kernel_rfl) (idx_nat hx) (Nat.lt_of_lt_of_eq (idx_lt hx) hl616)) ?_
  obtain ⟨v617,hx,hm⟩:=Qh hm
  refine ZI (fun H=>H.set 2 (.mt 3 1 (cellsOf Qi v617))) rfl (by kernel_rfl) (fun _=>Qhh Qi (l:=v209) (n:=v211) (y:=v613) hx (fun _=>rfl) (by kernel_rfl) rfl (by kernel_rfl) (by kernel_rfl) (by kernel_rfl) (by kernel_rfl)) ?_
  obtain ⟨_,hl619,hm⟩:=Qh hm
  replace hl619:=Z7 hl619
  obtain ⟨v618,hx,hm⟩:=Qh hm
  refine Zt rfl (fun _=>QfJ (e:=3) (l:=v210) (n:=v211) (i:=3) (cap:=v8.length) (m:=v8.length) hx hl619 (by kernel_rfl) (by kernel_rfl) rfl (by kernel_rfl) (by kernel_rfl)) ?_
  obtain ⟨v620,hx,hm⟩:=Qh hm
  refine ZI (fun H=>H.set 3 (.box (cellsOf Qi v620))) rfl (by kernel_rfl) (fun _=>Qg6 Qi (l:=v210) (n:=v211) (y:=v614) hx (fun _=>rfl) (by kernel_rfl) rfl (by kernel_rfl) (by kernel_rfl) (by kernel_rfl) (by kernel_rfl)) ?_
  refine Qe (R_G (Qa 2 (Qe ?_)))
  exact Qcz _ _ hm _ (prune_of2 [(.box [(La p0.values),(Qm p0.scalar)]),Qx,(.mt 3 1 (cellsOf Qi v617)),(.box (cellsOf Qi v620))] (fun _=>(pg_cons (by kernel_rfl) (pg_cons (by kernel_rfl) (pg_cons (purge_mt Qi _ _ _ _ _) (pg_cons (purge_box Qi _ _ _) pg_nil))))) rfl)
 refine Zh ?_
 obtain rfl:=Qq hm
 exact ⟨rfl,Qp⟩
def Qbi (x:(QG × (List Int))):Option (Qn × Int) :=
 match x with
 | (p0,p1) =>
 Qau (p1,(p0.values.length:Int))>>=fun ((v1,v2):((List Int) × Int)) =>
 if v2≠0 then
  Zv v2>>=fun ((v3,v4):(Qn × Int)) =>
  some (v3,v4)
 else
 if (p0.values.length:Int) > (v1.length:Int) then
  Zv 5>>=fun ((v5,v6):(Qn × Int)) =>
  some (v5,v6)
 else
 QA v1>>=fun v7 =>
 makeM 8 (v1.length:Int) 0>>=fun v8 =>
 YT (p0,v1,v7,v8,v7,v8,0)>>=fun ((v609,v610):((List Int) × (List Int))) =>
 Jk (v8.length,p0.values,p0.scalar,v609,v610)>>=fun (_:Unit) =>
 (
 Qaf (v1,v7.length,p0.values,p0.scalar,v609,v610,v8.length)>>=fun (out:Int ⊕ ((List Int) × (List Int))) =>
 match out with
 | .inl v621 =>
  some ((⟨([]:(List Int)),([]:(List Int)),([]:(List Int)),([]:(List Int)),0,0,([]:(List Int))⟩:Qn),v621)
 | .inr ((v622,v623)) =>
  Z3 (v610.length=v8.length)>>=fun (_:Unit) =>
  some ((⟨([]:(List Int)),v622,v623,v610,(-1),0,([]:(List Int))⟩:Qn),0)
 )
def QfA:(QG × (List Int))→(Qn × Int)→Prop:=fun x r=>match x,r with
 | (p0,p1),(r0,r1)=>∀ H,PC prog env 101 ([(QG.toD p0),(Lb p1)].map .dat) H (.tup [(.dat (Qn.toD r0)),(Qg r1)]) H
theorem QgM:∀ x r,Qbi x=some r→QfA x r:=by
 intro x r hm
 unfold Qbi at hm
 unfold QfA
 obtain ⟨p0,p1⟩:=x
 obtain ⟨r0,r1⟩:=r
 intro H
 refine PC_sx (ds:=[(QG.toD p0),(Lb p1)]) (fn:=f101) rfl ?_
 refine Qd (R_G (Qa 3 (Qe (Qd (R_G (Qa 3 ?_))))))
 refine QP Qi p0.values (es:=(List.map Qi) p0.values) rfl ?_
 obtain ⟨⟨v1,v2⟩,hx,hm⟩:=Qh hm
 have hq:=QfG _ _ hx []
 refine Qr hq ?_
 refine Qa 5 (Qe (Qd (Qd (R_G (Qa 2 (Qe ?_))))))
 refine Qy hm (ne_dec _ _) (fun hm=>?_) (fun hm=>?_)
 ·refine Qd (R_G (Qa 1 ?_))
  obtain ⟨⟨v3,v4⟩,hx,hm⟩:=Qh hm
  have hq:=ZV _ _ hx []
  refine Qr hq ?_
  refine Qa 4 (Qe (Qo ?_))
  obtain ⟨rfl,rfl⟩:=Zl hm
  exact ⟨trivial,Qk⟩
 refine Qs (Qd (Qd (R_G (Qa 2 ?_))))
 refine QP Qi p0.values (es:=(List.map Qi) p0.values) rfl ?_
 refine Qa 1 ?_
 refine QP Qi v1 (es:=(List.map Qi) v1) rfl ?_
 refine Qa 1 (Qe ?_)
 refine Qy hm (rfl) (fun hm=>?_) (fun hm=>?_)
 ·refine Qd (R_G ?_)
  obtain ⟨⟨v5,v6⟩,hx,hm⟩:=Qh hm
  have hq:=ZV _ _ hx []
  refine Qr hq ?_
  refine Qa 4 (Qe (Qo ?_))
  obtain ⟨rfl,rfl⟩:=Zl hm
  exact ⟨trivial,Qk⟩
 refine Qs (Qd ?_)
 refine QaB ?_
 refine Qa 1 ?_
 obtain ⟨v7,hx,hm⟩:=Qh hm
 have hq:=QF _ _ hx
 dsimp only [QC] at hq
 have hl9:mtOf [Blk.mt 3 (cgm_slices_Clone_int_int v7) (cellsOf Qi v7)] 0=some (3,cgm_slices_Clone_int_int v7,cellsOf Qi v7):=ZP (by kernel_rfl)
 refine ZI (v:=.ms 2 1 0 v7.length v7.length) (fun H=>H++[.mt 3 1 (cellsOf Qi v7)]) rfl (by kernel_rfl) ?_ ?_
 ·intro K hk
  refine Zz 2 (first:=#[]) (cap:=#[]) (j:=(0,3)) (ow':=[]) (f0:=Qi) (l:=v7) rfl ?_ ?_ ?_ (ds:=[.lst ((List.map Qi) v1)]) ?_ hq hl9 ?_ ?_ ?_
  ·kernel_rfl
  ·kernel_rfl
  ·kernel_rfl
  ·kernel_rfl
  ·exact hk
  ·kernel_rfl
  ·decide
 refine Qa 1 ?_
 refine QP Qi v1 (es:=(List.map Qi) v1) rfl ?_
 obtain ⟨v8,hx,hm⟩:=Qh hm
 refine ZI (v:=.arr 3 0 v8.length v8.length) (fun H=>H++[.box (cellsOf Qi v8)]) rfl (by kernel_rfl) ?_ ?_
 ·intro K hk
  exact QfL 3 Qi (z:=0) (n:=(v1.length:Int)) (bytes:=8) hx (e:=3) (by kernel_rfl) (by kernel_rfl) (by kernel_rfl) (by kernel_rfl) rfl rfl (by kernel_rfl) (by kernel_rfl) hk
 refine Qa 2 ?_
 refine Qe ⟨by kernel_rfl,?_⟩
 refine Qd (Qd (R_G (Qa 2 ?_)))
 refine QP Qi p0.values (es:=(List.map Qi) p0.values) rfl ?_
 refine Qa 1 (Qe (Qu ?_))
 obtain ⟨⟨v609,v610⟩,hs,hm⟩:=Qh hm
 refine Zk ?_
 refine RL_use (Qcz _ _ hs) (prune_of2 [(.box [(La p0.values),(Qm p0.scalar)]),Qx,(.mt 3 1 (cellsOf Qi v7)),(.box (cellsOf Qi v8))] (fun _=>(pg_cons (by kernel_rfl) (pg_cons (by kernel_rfl) (pg_cons (purge_mt Qi _ _ _ _ _) (pg_cons (purge_box Qi _ _ _) pg_nil))))) rfl) ?_
 clear hs
 intro e s hp
 obtain ⟨rfl,d,rfl⟩:=hp
 refine Qd (R_G (Qa 3 ?_))
 obtain ⟨_,hx,hm⟩:=Qh hm
 have hq:=Qem _ _ hx
 dsimp only [QaU] at hq
 refine Q0 hq ?_
 refine Qa 1 ?_
 obtain ⟨out,hx,hm⟩:=Qh hm
 rcases out with v621|⟨v622,v623⟩
 ·have hq:=QcX _ _ hx
  dsimp only [J8] at hq
  refine Q0 hq ?_
  refine Qa 4 (Qe (Qo ?_))
  obtain ⟨rfl,rfl⟩:=Zl hm
  exact ⟨trivial,Qk⟩
 ·have hq:=QcX _ _ hx
  dsimp only [J8] at hq
  refine Q0 hq ?_
  refine Qa 4 (Qe (Qo ?_))
  obtain ⟨_,hl624,hm⟩:=Qh hm
  replace hl624:=Z7 hl624
  obtain ⟨rfl,rfl⟩:=Zl hm
  exact ⟨trivial,Xi [(.agg [Ea,(.ms 7 1 0 v622.length v622.length),(.ms 8 1 0 v623.length v623.length),(.arr 3 0 v8.length v8.length),(Qg (-1)),(Qg 0),Ea]),(Qg 0)] (by kernel_rfl) (po_tup (ps_cons (p1_agg (pc_cons (by kernel_rfl) (pc_cons (pc_ms (e:=3) Qi v622 rfl (fun _=>rfl) (by kernel_rfl)) (pc_cons (pc_ms (e:=3) Qi v623 rfl (fun _=>rfl) (by kernel_rfl)) (pc_cons (pc_arr Qi v610 hl624 (fun _=>rfl) (by kernel_rfl)) (pc_cons (by kernel_rfl) (pc_cons (by kernel_rfl) (pc_cons (by kernel_rfl) pc_nil)))))))) (ps_cons (by kernel_rfl) ps_nil)))⟩
def Jw (x:(QG × Int)):Option ((List Int) × Int) :=
 match x with
 | (p0,p1) =>
 if (p0.values.length:Int)≠p1 then
  some (([]:(List Int)),5)
 else
 Ye p0.values>>=fun v1 =>
 some (v1,0)
def Qd6:(QG × Int)→((List Int) × Int)→Prop:=fun x r=>match x,r with
 | (p0,p1),(r0,r1)=>∀ H,PC prog env 137 ([(QG.toD p0),(Qi p1)].map .dat) H (.tup [(La r0),(Qg r1)]) H
theorem Qej:∀ x r,Jw x=some r→Qd6 x r:=by
 intro x r hm
 unfold Jw at hm
 unfold Qd6
 obtain ⟨p0,p1⟩:=x
 obtain ⟨r0,r1⟩:=r
 intro H
 refine PC_sx (ds:=[(QG.toD p0),(Qi p1)]) (fn:=f137) rfl ?_
 refine Qd (R_G (Qa 3 (Qe (Qd (Qd (R_G (Qa 2 ?_)))))))
 refine QP Qi p0.values (es:=(List.map Qi) p0.values) rfl ?_
 refine Qa 2 (Qe ?_)
 refine Qy hm (ne_dec _ _) (fun hm=>?_) (fun hm=>?_)
 ·refine Qd (R_G (Qa 2 (Qe (Qo ?_))))
  obtain ⟨rfl,rfl⟩:=Zl hm
  exact ⟨trivial,Qk⟩
 refine Qs (Qd (R_G (Qa 2 ?_)))
 obtain ⟨v1,hx,hm⟩:=Qh hm
 have hq:=Qax _ _ hx
 dsimp only [YN] at hq
 have hl9:mtOf [Blk.mt 2 (cgm_slices_Clone_int64_int64 v1) (cellsOf Qi v1)] 0=some (2,cgm_slices_Clone_int64_int64 v1,cellsOf Qi v1):=ZP (by kernel_rfl)
 refine ZI (v:=.ms 1 1 0 v1.length v1.length) (fun H=>H++[.mt 2 1 (cellsOf Qi v1)]) rfl (by kernel_rfl) ?_ ?_
 ·intro K hk
  refine Zz 1 (first:=#[]) (cap:=#[]) (j:=(0,2)) (ow':=[]) (f0:=Qi) (l:=v1) rfl ?_ ?_ ?_ (ds:=[.lst ((List.map Qi) p0.values)]) ?_ hq hl9 ?_ ?_ ?_
  ·kernel_rfl
  ·kernel_rfl
  ·kernel_rfl
  ·kernel_rfl
  ·exact hk
  ·kernel_rfl
  ·decide
 refine Qa 2 (Qe (Qo ?_))
 obtain ⟨rfl,rfl⟩:=Zl hm
 exact ⟨trivial,Xi [(.ms 1 1 0 v1.length v1.length),(Qg 0)] (by kernel_rfl) (po_tup (ps_cons (p1_ms (pc_ms (e:=2) Qi v1 rfl (fun _=>rfl) (by kernel_rfl))) (ps_cons (by kernel_rfl) ps_nil)))⟩
def Qds (x:QG):Option (Int × Int) :=
 match x with
 | p0 =>
 Jw (p0,1)>>=fun ((v1,v2):((List Int) × Int)) =>
 if v2≠0 then
  some (0,v2)
 else
 idx v1 0>>=fun v3 =>
 some (v3,0)
def QfT:QG→(Int × Int)→Prop:=fun x r=>match x,r with
 | p0,(r0,r1)=>∀ H,PC prog env 121 ([(QG.toD p0)].map .dat) H (.tup [(Qg r0),(Qg r1)]) H
theorem QgZ:∀ x r,Qds x=some r→QfT x r:=by
 intro p0 r hm
 unfold Qds at hm
 unfold QfT
 obtain ⟨r0,r1⟩:=r
 intro H
 refine PC_sx (ds:=[(QG.toD p0)]) (fn:=f121) rfl ?_
 refine Qd (R_G (Qa 3 (Qe (Qd (R_G (Qa 1 ?_))))))
 obtain ⟨⟨v1,v2⟩,hx,hm⟩:=Qh hm
 have hq:=Qej _ _ hx []
 refine Qr hq ?_
 refine Qa 5 (Qe (Qd (Qd (R_G (Qa 2 (Qe ?_))))))
 refine Qy hm (ne_dec _ _) (fun hm=>?_) (fun hm=>?_)
 ·refine Qd (R_G (Qa 3 (Qe (Qo ?_))))
  obtain ⟨rfl,rfl⟩:=Zl hm
  exact ⟨trivial,Qk⟩
 refine Qs (Qd (R_G (Qa 1 ?_)))
 refine Zj 1 Qi hm rfl (fun _=>rfl) (fun v3 hm=>?_)
 refine Qa 3 (Qe (Qo ?_))
 obtain ⟨rfl,rfl⟩:=Zl hm
 exact ⟨trivial,Qk⟩
def Xm (x:((List Int) × (List Int) × Bool)):Option (Int ⊕ ((List Int) × (List Int))) :=
 match x with
 | (q0,q1,q2) =>
 Zo q0>>=fun (v1:Int) =>
 if v1≠0 then
  some (Sum.inl v1)
 else
 QA q0>>=fun v2 =>
 QA q0>>=fun v3 =>
 some (Sum.inr (v2,v3))
def J7:((List Int) × (List Int) × Bool)→(Int ⊕ ((List Int) × (List Int)))→Prop:=fun x r=>match x with
 | (q0,q1,q2)=>PC prog env 93 [(La q0),(La q0),(.dat (.lst []))] [(.box [(La q1),(Qm q2)]),Qx] (match r with|.inl v5001=>(.tup [(.dat (.agg [Eb,Eb,Eb,Eb,(Qi 0),(Qi 0),Eb])),(Qg v5001)])|.inr ((v5002,v5003))=>(.tup [(.agg [Ea,(.ms 3 1 0 v5002.length v5002.length),(.ms 4 1 0 v5003.length v5003.length),Ea,(Qg (-1)),(Qg 0),Ea]),(Qg 0)])) (match r with|.inl v5001=>[(.box [(La q1),(Qm q2)]),Qx,Qx]|.inr ((v5002,v5003))=>[(.box [(La q1),(Qm q2)]),Qx,(.box [Ea,(.ms 3 1 0 v5002.length v5002.length),(.ms 4 1 0 v5003.length v5003.length),Ea,(Qg (-1)),(Qg 0),Ea]),(.mt 3 1 (cellsOf Qi v5002)),(.mt 3 1 (cellsOf Qi v5003)),(.box [Ea,(.ms 3 1 0 v5002.length v5002.length),(.ms 4 1 0 v5003.length v5003.length),Ea,(Qg (-1)),(Qg 0),Ea])])
theorem QcW:∀ x r,Xm x=some r→J7 x r:=by
 intro x r hm
 unfold Xm at hm
 unfold J7
 obtain ⟨q0,q1,q2⟩:=x
 refine PC_sxB (fn:=f93) rfl ?_
 refine Qd (R_G (Qa 2 (Qe (Qd (Qd (R_G (Qa 1 ?_)))))))
 obtain ⟨v1,hx,hm⟩:=Qh hm
 have hq:=ZE _ _ hx []
 refine Qr hq ?_
 refine Qa 1 (Qe (Qd (R_G (Qa 2 (Qe ?_)))))
 refine Qy hm (ne_dec _ _) (fun hm=>?_) (fun hm=>?_)
 ·refine Qd (R_G (Qa 4 (Qe (Qo ?_))))
  obtain rfl:=Qq hm
  exact ⟨trivial,QM (by kernel_rfl) (by kernel_rfl)⟩
 refine Qs (Qd (R_G (Qa 1 ?_)))
 obtain ⟨v2,hx,hm⟩:=Qh hm
 have hq:=QF _ _ hx
 dsimp only [QC] at hq
 have hl9:mtOf [Blk.mt 3 (cgm_slices_Clone_int_int v2) (cellsOf Qi v2)] 0=some (3,cgm_slices_Clone_int_int v2,cellsOf Qi v2):=ZP (by kernel_rfl)
 refine ZI (v:=.ms 3 1 0 v2.length v2.length) (fun H=>H++[.mt 3 1 (cellsOf Qi v2)]) rfl (by kernel_rfl) ?_ ?_
 ·intro K hk
  refine Zz 3 (first:=#[]) (cap:=#[]) (j:=(0,3)) (ow':=[]) (f0:=Qi) (l:=v2) rfl ?_ ?_ ?_ (ds:=[.lst ((List.map Qi) q0)]) ?_ hq hl9 ?_ ?_ ?_
  ·kernel_rfl
  ·kernel_rfl
  ·kernel_rfl
  ·kernel_rfl
  ·exact hk
  ·kernel_rfl
  ·decide
 refine Qa 1 ?_
 obtain ⟨v3,hx,hm⟩:=Qh hm
 have hq:=QF _ _ hx
 dsimp only [QC] at hq
 have hl9:mtOf [Blk.mt 3 (cgm_slices_Clone_int_int v3) (cellsOf Qi v3)] 0=some (3,cgm_slices_Clone_int_int v3,cellsOf Qi v3):=ZP (by kernel_rfl)
 refine ZI (v:=.ms 4 1 0 v3.length v3.length) (fun H=>H++[.mt 3 1 (cellsOf Qi v3)]) rfl (by kernel_rfl) ?_ ?_
 ·intro K hk
  refine Zz 4 (first:=#[]) (cap:=#[]) (j:=(0,3)) (ow':=[]) (f0:=Qi) (l:=v3) rfl ?_ ?_ ?_ (ds:=[.lst ((List.map Qi) q0)]) ?_ hq hl9 ?_ ?_ ?_
  ·kernel_rfl
  ·kernel_rfl
  ·kernel_rfl
  ·kernel_rfl
  ·exact hk
  ·kernel_rfl
  ·decide
 refine Qa 3 (Qe (Qd (Qd (R_G (Qa 1 (Qa 1 (Qa 1 (Qe (Qu ?_)))))))))
 refine Zk ?_
 refine RL_at (st':=⟨kp 33 [(6,(.ptr 2 0)),(9,(.ptr 5 0)),(23,(.dat (.lst []))),(24,(Qg 0)),(25,(Qg 0))],[(.box [(La q1),(Qm q2)]),Qx,Qx,(.mt 3 1 (cellsOf Qi v2)),(.mt 3 1 (cellsOf Qi v3)),(.box [Ea,(.ms 3 1 0 v2.length v2.length),(.ms 4 1 0 v3.length v3.length),Ea,(Qg (-1)),(Qg 0),Ea])]⟩) (prune_of2 [(.box [(La q1),(Qm q2)]),Qx,Qx,(.mt 3 1 (cellsOf Qi v2)),(.mt 3 1 (cellsOf Qi v3)),(.box [Ea,(.ms 3 1 0 v2.length v2.length),(.ms 4 1 0 v3.length v3.length),Ea,(Qg (-1)),(Qg 0),Ea])] (fun _=>(pg_cons (by kernel_rfl) (pg_cons (by kernel_rfl) (pg_cons (by kernel_rfl) (pg_cons (purge_mt Qi _ _ _ _ _) (pg_cons (purge_mt Qi _ _ _ _ _) (pg_cons (by kernel_rfl) pg_nil))))))) rfl) ?_
 refine Qd (R_G (Qa 1 (Qe (Qd ?_))))
 refine Xh (by kernel_rfl) ?_
 refine Zh (Qd (R_G (Qa 3 (Qe (Qo ?_)))))
 obtain rfl:=Qq hm
 exact ⟨trivial,QM (by kernel_rfl) (by kernel_rfl)⟩
def QbF (x:(Int × Int)):Option Int :=
 match x with
 | (p0,p1) =>
 if p1≤0 then
  some 0
 else
 remM p0 p1>>=fun v1 =>
 if v1 < 0 then
  some (W (v1+p1))
 else
 some v1
def QfQ:(Int × Int)→Int→Prop:=fun x r=>match x,r with
 | (p0,p1),r0=>∀ H,PC prog env 122 ([(Qi p0),(Qi p1)].map .dat) H (Qg r0) H
theorem QgW:∀ x r,QbF x=some r→QfQ x r:=by
 intro x r0 hm
 unfold QbF at hm
 unfold QfQ
 obtain ⟨p0,p1⟩:=x
 intro H
 refine PC_sx (ds:=[(Qi p0),(Qi p1)]) (fn:=f122) rfl ?_
 refine Qd (R_G (Qa 1 (Qe (Qd (Qd (R_G (Qa 2 (Qe ?_))))))))
 refine Qy hm (rfl) (fun hm=>?_) (fun hm=>?_)
 ·refine Qd (R_G (Qa 1 (Qe (Qo ?_))))
  obtain rfl:=Qq hm
  exact ⟨trivial,Qk⟩
 refine Qs (Qd (R_G (Qa 2 ?_)))
 obtain ⟨v1,hx,hm⟩:=Qh hm
 refine Zt rfl (fun _=>Qhz (a:=p0) (b:=p1) hx rfl (by kernel_rfl) (by kernel_rfl)) ?_
 refine Qa 1 (Qe (Qd (Qd (R_G (Qa 2 (Qe ?_))))))
 refine Qy hm (rfl) (fun hm=>?_) (fun hm=>?_)
 ·refine R_G (Qa 4 (Qe (Qd (R_G (Qa 2 (Qe (Qo ?_)))))))
  obtain rfl:=Qq hm
  exact ⟨trivial,Qk⟩
 refine Qs (Qd (R_G (Qa 2 (Qe (Qo ?_)))))
 obtain rfl:=Qq hm
 exact ⟨trivial,Qk⟩
def Qar (x:(Int × Int × (List Int) × Bool × (List Int) × (List Int))):Option (Unit) :=
 match x with
 | (q0,q1,q2,q3,q4,q5) =>
 some ()
def Qak:(Int × Int × (List Int) × Bool × (List Int) × (List Int))→Unit→Prop:=fun x r=>match x with
 | (q0,q1,q2,q3,q4,q5)=>PC prog env 111 [(.ptr 6 0),(.iptr [(Qi q0)]),(.iptr [(Qi q1)])] [(.box [(La q2),(Qm q3)]),Qx,(.box [(.fn 111 [(.iptr [(Qi q0)]),(.iptr [(Qi q1)])])]),Qx,(.mt 3 1 (cellsOf Qi q4)),(.mt 3 1 (cellsOf Qi q5)),(.box [Ea,(.ms 4 1 0 q4.length q4.length),(.ms 5 1 0 q5.length q5.length),Ea,(Qg (-1)),(Qg 0),Ea])] (match r with|_=>(.tup [])) (match r with|_=>[(.box [(La q2),(Qm q3)]),Qx,(.box [(.fn 111 [(.iptr [(Qi q0)]),(.iptr [(Qi q1)])])]),Qx,(.mt 3 1 (cellsOf Qi q4)),(.mt 3 1 (cellsOf Qi q5)),(.box [Ea,(.ms 4 1 0 q4.length q4.length),(.ms 5 1 0 q5.length q5.length),Ea,(Qg q0),(Qg q1),Ea])])
theorem Qee:∀ x r,Qar x=some r→Qak x r:=by
 intro x r hm
 unfold Qar at hm
 unfold Qak
 obtain ⟨q0,q1,q2,q3,q4,q5⟩:=x
 refine PC_sxB (fn:=f111) rfl ?_
 refine QaB ?_
 refine Qa 10 ?_
 refine Qe ⟨by kernel_rfl,?_⟩
 obtain rfl:=Qq hm
 exact ⟨trivial,QM (by kernel_rfl) (by kernel_rfl)⟩
def Xl (x:((List Int) × (List Int) × Bool × Int × Int)):Option (Int ⊕ ((List Int) × (List Int))) :=
 match x with
 | (q0,q1,q2,q3,q4) =>
 Zo q0>>=fun (v1:Int) =>
 if v1≠0 then
  some (Sum.inl v1)
 else
 QA q0>>=fun v2 =>
 QA q0>>=fun v3 =>
 Qar (q3,q4,q1,q2,v2,v3)>>=fun (_:Unit) =>
 some (Sum.inr (v2,v3))
def J3:((List Int) × (List Int) × Bool × Int × Int)→(Int ⊕ ((List Int) × (List Int)))→Prop:=fun x r=>match x with
 | (q0,q1,q2,q3,q4)=>PC prog env 93 [(La q0),(La q0),(.arr 2 0 1 1)] [(.box [(La q1),(Qm q2)]),Qx,(.box [(.fn 111 [(.iptr [(Qi q3)]),(.iptr [(Qi q4)])])])] (match r with|.inl v5001=>(.tup [(.dat (.agg [Eb,Eb,Eb,Eb,(Qi 0),(Qi 0),Eb])),(Qg v5001)])|.inr ((v5002,v5003))=>(.tup [(.agg [Ea,(.ms 4 1 0 v5002.length v5002.length),(.ms 5 1 0 v5003.length v5003.length),Ea,(Qg q3),(Qg q4),Ea]),(Qg 0)])) (match r with|.inl v5001=>[(.box [(La q1),(Qm q2)]),Qx,(.box [(.fn 111 [(.iptr [(Qi q3)]),(.iptr [(Qi q4)])])]),Qx]|.inr ((v5002,v5003))=>[(.box [(La q1),(Qm q2)]),Qx,(.box [(.fn 111 [(.iptr [(Qi q3)]),(.iptr [(Qi q4)])])]),(.box [Ea,(.ms 4 1 0 v5002.length v5002.length),(.ms 5 1 0 v5003.length v5003.length),Ea,(Qg q3),(Qg q4),Ea]),(.mt 3 1 (cellsOf Qi v5002)),(.mt 3 1 (cellsOf Qi v5003)),(.box [Ea,(.ms 4 1 0 v5002.length v5002.length),(.ms 5 1 0 v5003.length v5003.length),Ea,(Qg q3),(Qg q4),Ea])])
theorem QcS:∀ x r,Xl x=some r→J3 x r:=by
 intro x r hm
 unfold Xl at hm
 unfold J3
 obtain ⟨q0,q1,q2,q3,q4⟩:=x
 refine PC_sxB (fn:=f93) rfl ?_
 refine Qd (R_G (Qa 2 (Qe (Qd (Qd (R_G (Qa 1 ?_)))))))
 obtain ⟨v1,hx,hm⟩:=Qh hm
 have hq:=ZE _ _ hx []
 refine Qr hq ?_
 refine Qa 1 (Qe (Qd (R_G (Qa 2 (Qe ?_)))))
 refine Qy hm (ne_dec _ _) (fun hm=>?_) (fun hm=>?_)
 ·refine Qd (R_G (Qa 4 (Qe (Qo ?_))))
  obtain rfl:=Qq hm
  exact ⟨trivial,QM (by kernel_rfl) (by kernel_rfl)⟩
 refine Qs (Qd (R_G (Qa 1 ?_)))
 obtain ⟨v2,hx,hm⟩:=Qh hm
 have hq:=QF _ _ hx
 dsimp only [QC] at hq
 have hl9:mtOf [Blk.mt 3 (cgm_slices_Clone_int_int v2) (cellsOf Qi v2)] 0=some (3,cgm_slices_Clone_int_int v2,cellsOf Qi v2):=ZP (by kernel_rfl)
 refine ZI (v:=.ms 4 1 0 v2.length v2.length) (fun H=>H++[.mt 3 1 (cellsOf Qi v2)]) rfl (by kernel_rfl) ?_ ?_
 ·intro K hk
  refine Zz 4 (first:=#[]) (cap:=#[]) (j:=(0,3)) (ow':=[]) (f0:=Qi) (l:=v2) rfl ?_ ?_ ?_ (ds:=[.lst ((List.map Qi) q0)]) ?_ hq hl9 ?_ ?_ ?_
  ·kernel_rfl
  ·kernel_rfl
  ·kernel_rfl
  ·kernel_rfl
  ·exact hk
  ·kernel_rfl
  ·decide
 refine Qa 1 ?_
 obtain ⟨v3,hx,hm⟩:=Qh hm
 have hq:=QF _ _ hx
 dsimp only [QC] at hq
 have hl9:mtOf [Blk.mt 3 (cgm_slices_Clone_int_int v3) (cellsOf Qi v3)] 0=some (3,cgm_slices_Clone_int_int v3,cellsOf Qi v3):=ZP (by kernel_rfl)
 refine ZI (v:=.ms 5 1 0 v3.length v3.length) (fun H=>H++[.mt 3 1 (cellsOf Qi v3)]) rfl (by kernel_rfl) ?_ ?_
 ·intro K hk
  refine Zz 5 (first:=#[]) (cap:=#[]) (j:=(0,3)) (ow':=[]) (f0:=Qi) (l:=v3) rfl ?_ ?_ ?_ (ds:=[.lst ((List.map Qi) q0)]) ?_ hq hl9 ?_ ?_ ?_
  ·kernel_rfl
  ·kernel_rfl
  ·kernel_rfl
  ·kernel_rfl
  ·exact hk
  ·kernel_rfl
  ·decide
 refine Qa 3 (Qe (Qd (Qd (R_G (Qa 1 (Qa 1 (Qa 1 (Qe (Qu ?_)))))))))
 refine Zk ?_
 refine RL_at (st':=⟨kp 33 [(6,(.ptr 3 0)),(9,(.ptr 6 0)),(23,(.arr 2 0 1 1)),(24,(Qg 1)),(25,(Qg 0))],[(.box [(La q1),(Qm q2)]),Qx,(.box [(.fn 111 [(.iptr [(Qi q3)]),(.iptr [(Qi q4)])])]),Qx,(.mt 3 1 (cellsOf Qi v2)),(.mt 3 1 (cellsOf Qi v3)),(.box [Ea,(.ms 4 1 0 v2.length v2.length),(.ms 5 1 0 v3.length v3.length),Ea,(Qg (-1)),(Qg 0),Ea])]⟩) (prune_of2 [(.box [(La q1),(Qm q2)]),Qx,(.box [(.fn 111 [(.iptr [(Qi q3)]),(.iptr [(Qi q4)])])]),Qx,(.mt 3 1 (cellsOf Qi v2)),(.mt 3 1 (cellsOf Qi v3)),(.box [Ea,(.ms 4 1 0 v2.length v2.length),(.ms 5 1 0 v3.length v3.length),Ea,(Qg (-1)),(Qg 0),Ea])] (fun _=>(pg_cons (by kernel_rfl) (pg_cons (by kernel_rfl) (pg_cons (by kernel_rfl) (pg_cons (by kernel_rfl) (pg_cons (purge_mt Qi _ _ _ _ _) (pg_cons (purge_mt Qi _ _ _ _ _) (pg_cons (by kernel_rfl) pg_nil)))))))) rfl) ?_
 refine Qd (R_G (Qa 1 (Qe (Qd ?_))))
 refine Qbd (by kernel_rfl) ?_
 refine Qs (Qd (Qu (Qd (R_G (Qa 1 (Qa 2 (Qe (R_G (Qa 1 ?_)))))))))
 obtain ⟨_,hx,hm⟩:=Qh hm
 have hq:=Qee _ _ hx
 dsimp only [Qak] at hq
 refine Q0 hq ?_
 refine Qe (R_G (Qa 2 (Qe ?_)))
 refine RL_at (st':=⟨kp 33 [(6,(.ptr 3 0)),(9,(.ptr 6 0)),(23,(.arr 2 0 1 1)),(24,(Qg 1)),(25,(Qg 1))],[(.box [(La q1),(Qm q2)]),Qx,(.box [(.fn 111 [(.iptr [(Qi q3)]),(.iptr [(Qi q4)])])]),Qx,(.mt 3 1 (cellsOf Qi v2)),(.mt 3 1 (cellsOf Qi v3)),(.box [Ea,(.ms 4 1 0 v2.length v2.length),(.ms 5 1 0 v3.length v3.length),Ea,(Qg q3),(Qg q4),Ea])]⟩) (prune_of2 [(.box [(La q1),(Qm q2)]),Qx,(.box [(.fn 111 [(.iptr [(Qi q3)]),(.iptr [(Qi q4)])])]),Qx,(.mt 3 1 (cellsOf Qi v2)),(.mt 3 1 (cellsOf Qi v3)),(.box [Ea,(.ms 4 1 0 v2.length v2.length),(.ms 5 1 0 v3.length v3.length),Ea,(Qg q3),(Qg q4),Ea])] (fun _=>(pg_cons (by kernel_rfl) (pg_cons (by kernel_rfl) (pg_cons (by kernel_rfl) (pg_cons (by kernel_rfl) (pg_cons (purge_mt Qi _ _ _ _ _) (pg_cons (purge_mt Qi _ _ _ _ _) (pg_cons (by kernel_rfl) pg_nil)))))))) rfl) ?_
 refine Qd (R_G (Qa 1 (Qe (Qd ?_))))
 refine Xh (by kernel_rfl) ?_
 refine Zh (Qd (R_G (Qa 3 (Qe (Qo ?_)))))
 obtain rfl:=Qq hm
 exact ⟨trivial,QM (by kernel_rfl) (by kernel_rfl)⟩
def Qa5 (x:(QG × Int × (List Int))):Option (Qn × Int) :=
 match x with
 | (p0,p1,p2) =>
 Qds p0>>=fun ((v1,v2):(Int × Int)) =>
 if v2≠0 then
  Zv v2>>=fun ((v3,v4):(Qn × Int)) =>
  some (v3,v4)
 else
 JU (p1,p2)>>=fun ((v5,v6):(Int × Int)) =>
 if v6≠0 then
  Zv v6>>=fun ((v7,v8):(Qn × Int)) =>
  some (v7,v8)
 else
 if v5 < 0 then
  (
  Xm (p2,p0.values,p0.scalar)>>=fun (out:Int ⊕ ((List Int) × (List Int))) =>
  match out with
  | .inl v9 =>
   some ((⟨([]:(List Int)),([]:(List Int)),([]:(List Int)),([]:(List Int)),0,0,([]:(List Int))⟩:Qn),v9)
  | .inr ((v10,v11)) =>
   some ((⟨([]:(List Int)),v10,v11,([]:(List Int)),(-1),0,([]:(List Int))⟩:Qn),0)
  )
 else
 idx p2 v5>>=fun v12 =>
 QbF (v1,v12)>>=fun (v13:Int) =>
 Y6 (v5,v13)>>=fun ((v14,v15):(Int × Int)) =>
 (
 Xl (p2,p0.values,p0.scalar,v14,v15)>>=fun (out:Int ⊕ ((List Int) × (List Int))) =>
 match out with
 | .inl v16 =>
  some ((⟨([]:(List Int)),([]:(List Int)),([]:(List Int)),([]:(List Int)),0,0,([]:(List Int))⟩:Qn),v16)
 | .inr ((v17,v18)) =>
  some ((⟨([]:(List Int)),v17,v18,([]:(List Int)),v14,v15,([]:(List Int))⟩:Qn),0)
 )
def QeF:(QG × Int × (List Int))→(Qn × Int)→Prop:=fun x r=>match x,r with
 | (p0,p1,p2),(r0,r1)=>∀ H,PC prog env 102 ([(QG.toD p0),(Qi p1),(Lb p2)].map .dat) H (.tup [(.dat (Qn.toD r0)),(Qg r1)]) H
theorem Qgi:∀ x r,Qa5 x=some r→QeF x r:=by
 intro x r hm
 unfold Qa5 at hm
 unfold QeF
 obtain ⟨p0,p1,p2⟩:=x
 obtain ⟨r0,r1⟩:=r
 intro H
 refine PC_sx (ds:=[(QG.toD p0),(Qi p1),(Lb p2)]) (fn:=f102) rfl ?_
 refine Qd (R_G (Qa 3 (Qe (Qd (R_G (Qa 1 ?_))))))
 obtain ⟨⟨v1,v2⟩,hx,hm⟩:=Qh hm
 have hq:=QgZ _ _ hx []
 refine Qr hq ?_
 refine Qa 5 (Qe (Qd (Qd (R_G (Qa 2 (Qe ?_))))))
 refine Qy hm (ne_dec _ _) (fun hm=>?_) (fun hm=>?_)
 ·refine Qd (R_G (Qa 1 ?_))
  obtain ⟨⟨v3,v4⟩,hx,hm⟩:=Qh hm
  have hq:=ZV _ _ hx []
  refine Qr hq ?_
  refine Qa 4 (Qe (Qo ?_))
  obtain ⟨rfl,rfl⟩:=Zl hm
  exact ⟨trivial,Qk⟩
 refine Qs (Qd (R_G (Qa 2 ?_)))
 obtain ⟨⟨v5,v6⟩,hx,hm⟩:=Qh hm
 have hq:=QeS _ _ hx []
 refine Qr hq ?_
 refine Qa 5 (Qe (Qd (Qd (R_G (Qa 2 (Qe ?_))))))
 refine Qy hm (ne_dec _ _) (fun hm=>?_) (fun hm=>?_)
 ·refine Qd (R_G (Qa 1 ?_))
  obtain ⟨⟨v7,v8⟩,hx,hm⟩:=Qh hm
  have hq:=ZV _ _ hx []
  refine Qr hq ?_
  refine Qa 4 (Qe (Qo ?_))
  obtain ⟨rfl,rfl⟩:=Zl hm
  exact ⟨trivial,Qk⟩
 refine Qs (Qd (Qd (R_G (Qa 2 (Qe ?_)))))
 refine Qy hm (rfl) (fun hm=>?_) (fun hm=>?_)
 ·refine Qd (R_G (Qa 2 ?_))
  obtain ⟨out,hx,hm⟩:=Qh hm
  rcases out with v9|⟨v10,v11⟩
  ·have hq:=QcW _ _ hx
   dsimp only [J7] at hq
   refine Q0 hq ?_
   refine Qa 4 (Qe (Qo ?_))
   obtain ⟨rfl,rfl⟩:=Zl hm
   exact ⟨trivial,Qk⟩
  ·have hq:=QcW _ _ hx
   dsimp only [J7] at hq
   refine Q0 hq ?_
   refine Qa 4 (Qe (Qo ?_))
   obtain ⟨rfl,rfl⟩:=Zl hm
   exact ⟨trivial,Xi [(.agg [Ea,(.ms 3 1 0 v10.length v10.length),(.ms 4 1 0 v11.length v11.length),Ea,(Qg (-1)),(Qg 0),Ea]),(Qg 0)] (by kernel_rfl) (po_tup (ps_cons (p1_agg (pc_cons (by kernel_rfl) (pc_cons (pc_ms (e:=3) Qi v10 rfl (fun _=>rfl) (by kernel_rfl)) (pc_cons (pc_ms (e:=3) Qi v11 rfl (fun _=>rfl) (by kernel_rfl)) (pc_cons (by kernel_rfl) (pc_cons (by kernel_rfl) (pc_cons (by kernel_rfl) (pc_cons (by kernel_rfl) pc_nil)))))))) (ps_cons (by kernel_rfl) ps_nil)))⟩
 refine Qs (Qd (R_G (Qa 6 ?_)))
 refine Zj 1 Qi hm rfl (fun _=>rfl) (fun v12 hm=>?_)
 refine Qa 1 ?_
 obtain ⟨v13,hx,hm⟩:=Qh hm
 have hq:=QgW _ _ hx []
 refine Qr hq ?_
 obtain ⟨⟨v14,v15⟩,hx,hm⟩:=Qh hm
 have hq:=Qdw _ _ hx []
 refine Qr hq ?_
 refine Qa 1 ?_
 obtain ⟨out,hx,hm⟩:=Qh hm
 rcases out with v16|⟨v17,v18⟩
 ·have hq:=QcS _ _ hx
  dsimp only [J3] at hq
  refine Q0 hq ?_
  refine Qa 4 (Qe (Qo ?_))
  obtain ⟨rfl,rfl⟩:=Zl hm
  exact ⟨trivial,Qk⟩
 ·have hq:=QcS _ _ hx
  dsimp only [J3] at hq
  refine Q0 hq ?_
  refine Qa 4 (Qe (Qo ?_))
  obtain ⟨rfl,rfl⟩:=Zl hm
  exact ⟨trivial,Xi [(.agg [Ea,(.ms 4 1 0 v17.length v17.length),(.ms 5 1 0 v18.length v18.length),Ea,(Qg v14),(Qg v15),Ea]),(Qg 0)] (by kernel_rfl) (po_tup (ps_cons (p1_agg (pc_cons (by kernel_rfl) (pc_cons (pc_ms (e:=3) Qi v17 rfl (fun _=>rfl) (by kernel_rfl)) (pc_cons (pc_ms (e:=3) Qi v18 rfl (fun _=>rfl) (by kernel_rfl)) (pc_cons (by kernel_rfl) (pc_cons (by kernel_rfl) (pc_cons (by kernel_rfl) (pc_cons (by kernel_rfl) pc_nil)))))))) (ps_cons (by kernel_rfl) ps_nil)))⟩
def YW (x:(Int × (List Int) × Bool × Int × (List Int) × Nat)):Option (((List Int) × Int × Int)) :=
 match x with
 | (q0,q1,q2,q3,q4,q5) =>
 (if q0 < 0 then
  some true
 else
 some (decide (q0≥q3))
 )>>=fun (v1:Bool) =>
 if v1=true then
  some (q4,0,6)
 else
 some ((insK q4 q0),q0,0)
def XG:(Int × (List Int) × Bool × Int × (List Int) × Nat)→((List Int) × Int × Int)→Prop:=fun x r=>match x with
 | (q0,q1,q2,q3,q4,q5)=>PC prog env 139 [(Qg q0),(.ptr 1 0),(.ptr 3 0)] [(.box [(La q1),(Qm q2)]),(.box [(Qg q3)]),(.map (setE .i64 (QaW true) q4)),(.box [(.mapv 2)]),(.tok 3 q5)] (match r with|(v5001,v5002,v5003)=>(.tup [(Qg v5002),(Qg v5003)])) (match r with|(v5001,v5002,v5003)=>[(.box [(La q1),(Qm q2)]),(.box [(Qg q3)]),(.map (setE .i64 (QaW true) v5001)),(.box [(.mapv 2)]),(.tok 3 q5)])
theorem QcD:∀ x r,YW x=some r→XG x r:=by
 intro x r hm
 unfold YW at hm
 unfold XG
 obtain ⟨q0,q1,q2,q3,q4,q5⟩:=x
 refine PC_sxB (fn:=f139) rfl ?_
 refine Qd (R_G (Qa 2 (Qe (Qd (Qd ?_)))))
 obtain ⟨v1,hs,hm⟩:=Qh hm
 refine Yx (fun d=>⟨sl d 16 [(0,(Qg q0)),(2,(.ptr 3 0)),(12,(Qm v1))],[(.box [(La q1),(Qm q2)]),(.box [(Qg q3)]),(.map (setE .i64 (QaW true) q4)),(.box [(.mapv 2)]),(.tok 3 q5)]⟩) ?_ (fun d=>?_)
 ·replace hm:=hs
  clear hs
  refine R_G (Qa 3 ?_)
  refine Qw 8 hm (rfl) (fun hm=>?_) (fun hm=>?_)
  ·refine Qa 4 (Qe ?_)
   obtain rfl:=Qq hm
   exact Qp
  refine Qa 4 (Qe ?_)
  obtain rfl:=Qq hm
  exact Qp
 clear hs
 refine Qy hm (Qz _) (fun hm=>?_) (fun hm=>?_)
 ·refine Qd (R_G (Qa 2 (Qe (Qo ?_))))
  obtain rfl:=Qq hm
  exact ⟨trivial,QM (by kernel_rfl) (by kernel_rfl)⟩
 refine Qs (Qd (R_G (Qa 2 ?_)))
 refine ZI (fun H=>H.set 2 (.map (setE .i64 (QaW true) (insK q4 q0)))) rfl (by kernel_rfl) (fun _=>Qhg (i:=2) (kt:=3) (e:=4) (ik:=.i64) (l:=q4) (n:=q0) (v:=(QaW true)) (by kernel_rfl) (by kernel_rfl) rfl (by kernel_rfl) (by kernel_rfl) (by kernel_rfl) (by kernel_rfl)) ?_
 refine Qe (Qd (R_G (Qa 3 (Qe (Qo ?_)))))
 obtain rfl:=Qq hm
 exact ⟨trivial,QM (by kernel_rfl) (by kernel_rfl)⟩
def QS (x:((List Int) × (List Int) × Bool × Int × (List Int) × (List Int) × Int)):Option (((List Int) × Int × Nat) ⊕ ((List Int) × (List Int))) :=
 match x with
 | (q0,q1,q2,q3,v201,v202,v203) =>
 if v203 < (q0.length:Int) then
  idx q0 v203>>=fun v606 =>
  YW (v606,q1,q2,q3,v201,v202.length)>>=fun ((v607,v608,v609):((List Int) × Int × Int)) =>
  if v609≠0 then
   some (Sum.inl (v607,v609,v202.length))
  else
  app 8 v202 ([v608]:List Int)>>=fun v610 =>
  QS (q0,q1,q2,q3,v607,v610,(W (v203+1)))
 else
 some (Sum.inr (v201,v202))
 partial_fixpoint
def Xy:((List Int) × (List Int) × Bool × Int × (List Int) × (List Int) × Int)→(((List Int) × Int × Nat) ⊕ ((List Int) × (List Int)))→Prop:=fun x r=>match x with
 | (q0,q1,q2,q3,v201,v202,v203)=>∀ st,prune 5 ((QB (QL [1,1,0,1,0,0] (QN f138))).bind (env.hint 138).keepAt) st=⟨kp 35 [(1,(.fn 139 [(.ptr 1 0),(.ptr 3 0)])),(6,(.vec 4 ((List.map Qi) v202))),(14,(La q0)),(15,(Qg (q0.length:Int))),(16,(Qg v203))],[(.box [(La q1),(Qm q2)]),(.box [(Qg q3)]),(.map (setE .i64 (QaW true) v201)),(.box [(.mapv 2)]),(.tok 3 v202.length)]⟩ →
  RL prog env (env.hint 138) true (QL [1,1,0,1,0,0] (QN f138)) 5 st (fun e s=>match r with|.inl (v601,v602,v603)=>e=.ret∧∃ d,s=⟨sl d 35 [(4,Ea),(5,(Qg v602))],[(.box [(La q1),(Qm q2)]),(.box [(Qg q3)]),(.map (setE .i64 (QaW true) v601)),(.box [(.mapv 2)]),(.tok 3 v603)]⟩|.inr ((v604,v605))=>e=.exit 0∧∃ d,s=⟨sl d 35 [(6,(.vec 4 ((List.map Qi) v605)))],[(.box [(La q1),(Qm q2)]),(.box [(Qg q3)]),(.map (setE .i64 (QaW true) v604)),(.box [(.mapv 2)]),(.tok 3 v605.length)]⟩)
theorem ZG:∀ x r,QS x=some r→Xy x r:=by
 refine QS.partial_correctness _ (fun QS ZG x r hm=>?_)
 unfold Xy
 obtain ⟨q0,q1,q2,q3,v201,v202,v203⟩:=x
 intro st hst
 refine RL_at hst ?_
 clear hst
 refine Qd (R_G (Qa 1 (Qe (Qd ?_))))
 refine Qy hm (rfl) (fun hm=>?_) (fun hm=>?_)
 ·refine Qs (Qd (Qu (Qd (R_G ?_))))
  refine Zj 1 Qi hm rfl (fun _=>rfl) (fun v606 hm=>?_)
  refine Qa 2 (Qe (Qd (R_G (Qa 2 ?_))))
  obtain ⟨⟨v607,v608,v609⟩,hx,hm⟩:=Qh hm
  have hq:=QcD _ _ hx
  dsimp only [XG] at hq
  refine Q0 hq ?_
  refine Qa 5 (Qe (Qd (Qd (R_G (Qa 2 (Qe ?_))))))
  refine Qy hm (ne_dec _ _) (fun hm=>?_) (fun hm=>?_)
  ·refine Qd (R_G (Qa 3 (Qe (Qo ?_))))
   obtain rfl:=Qq hm
   exact ⟨rfl,Qp⟩
  refine Qs (R_G (Qa 3 ?_))
  obtain ⟨v610,hx,hm⟩:=Qh hm
  refine Qc7 3 1 8 4 Qi v202 ([v608]:List Int) v610 (xs:=(List.map Qi) v202) (es:=(List.map Qi) ([v608]:List Int)) (L:=(List.map Qi)) (fun _=>rfl) rfl rfl (fun _=>rfl) hx ?_
  refine Qa 1 (Qe (R_G (Qa 2 (Qe ?_))))
  exact ZG _ _ hm _ (prune_of2 [(.box [(La q1),(Qm q2)]),(.box [(Qg q3)]),(.map (setE .i64 (QaW true) v607)),(.box [(.mapv 2)]),(.tok 3 v610.length)] (fun _=>(pg_cons (by kernel_rfl) (pg_cons (by kernel_rfl) (pg_cons (purge_set _ _ _ _ _) (pg_cons (by kernel_rfl) (pg_cons (by kernel_rfl) pg_nil)))))) rfl)
 refine Zh ?_
 obtain rfl:=Qq hm
 exact ⟨rfl,Qp⟩
def Z2 (x:((List Int) × (List Int) × Bool × Int)):Option (((List Int) × Int × Nat) ⊕ ((List Int) × (List Int))) :=
 match x with
 | (q0,q1,q2,q3) =>
 Z3 (0≤(q0.length:Int)∧(q0.length:Int) * (8:Int)≤(room:Int)∧(q0.length:Int)≤9223372036854775807)>>=fun (_:Unit) =>
 (
 QS (q0,q1,q2,q3,([]:List Int),([]:List Int),0)>>=fun (out:((List Int) × Int × Nat) ⊕ ((List Int) × (List Int))) =>
 match out with
 | .inl (v601,v602,v603) =>
  some (Sum.inl (v601,v602,v603))
 | .inr ((v604,v605)) =>
  some (Sum.inr (v604,v605))
 )
def ZY:((List Int) × (List Int) × Bool × Int)→(((List Int) × Int × Nat) ⊕ ((List Int) × (List Int)))→Prop:=fun x r=>match x with
 | (q0,q1,q2,q3)=>PC prog env 138 [(La q0),(.fn 139 [(.ptr 1 0),(.ptr 3 0)])] [(.box [(La q1),(Qm q2)]),(.box [(Qg q3)]),(.map (setE .i64 (QaW true) ([]:List Int))),(.box [(.mapv 2)])] (match r with|.inl (v5001,v5002,v5003)=>(.tup [Ea,(Qg v5002)])|.inr ((v5004,v5005))=>(.tup [(.vec 4 ((List.map Qi) v5005)),(Qg 0)])) (match r with|.inl (v5001,v5002,v5003)=>[(.box [(La q1),(Qm q2)]),(.box [(Qg q3)]),(.map (setE .i64 (QaW true) v5001)),(.box [(.mapv 2)]),(.tok 3 v5003)]|.inr ((v5004,v5005))=>[(.box [(La q1),(Qm q2)]),(.box [(Qg q3)]),(.map (setE .i64 (QaW true) v5004)),(.box [(.mapv 2)]),(.tok 3 v5005.length)])
theorem X7:∀ x r,Z2 x=some r→ZY x r:=by
 intro x r hm
 unfold Z2 at hm
 unfold ZY
 obtain ⟨q0,q1,q2,q3⟩:=x
 refine PC_sxB (fn:=f138) rfl ?_
 refine Qd (R_G (Qa 2 (Qe (Qd (R_G (Qa 1 ?_))))))
 refine QP Qi q0 (es:=(List.map Qi) q0) rfl ?_
 obtain ⟨_,hx,hm⟩:=Qh hm
 replace hx:=Z7 hx
 refine ZI (v:=.vec 4 []) (fun H=>H++[.tok 3 0]) rfl (by kernel_rfl) ?_ ?_
 ·intro K hk
  exact QgA 4 (n:=(q0.length:Int)) (j:=0) (os:=[]) (bytes:=8) (z:=(Qi 0)) hx (by kernel_rfl) (by kernel_rfl) (by kernel_rfl) (by kernel_rfl) (by kernel_rfl) (by kernel_rfl) rfl (by kernel_rfl) (by kernel_rfl) hk
 refine Qa 1 (Qe (Qd (Qd (R_G (Qa 1 ?_)))))
 refine QP Qi q0 (es:=(List.map Qi) q0) rfl ?_
 refine Qa 1 (Qe (Qu ?_))
 obtain ⟨out,hs,hm⟩:=Qh hm
 refine Zk ?_
 rcases out with ⟨v601,v602,v603⟩|⟨v604,v605⟩
 ·refine RL_use (ZG _ _ hs) (prune_of2 [(.box [(La q1),(Qm q2)]),(.box [(Qg q3)]),(.map (setE .i64 (QaW true) ([]:List Int))),(.box [(.mapv 2)]),(.tok 3 (([]:List Int).length))] (fun _=>(pg_cons (by kernel_rfl) (pg_cons (by kernel_rfl) (pg_cons (purge_set _ _ _ _ _) (pg_cons (by kernel_rfl) (pg_cons (by kernel_rfl) pg_nil)))))) rfl) ?_
  clear hs
  intro e s hp
  obtain ⟨rfl,d,rfl⟩:=hp
  obtain rfl:=Qq hm
  exact ⟨trivial,QM (by kernel_rfl) (by kernel_rfl)⟩
 ·refine RL_use (ZG _ _ hs) (prune_of2 [(.box [(La q1),(Qm q2)]),(.box [(Qg q3)]),(.map (setE .i64 (QaW true) ([]:List Int))),(.box [(.mapv 2)]),(.tok 3 (([]:List Int).length))] (fun _=>(pg_cons (by kernel_rfl) (pg_cons (by kernel_rfl) (pg_cons (purge_set _ _ _ _ _) (pg_cons (by kernel_rfl) (pg_cons (by kernel_rfl) pg_nil)))))) rfl) ?_
  clear hs
  intro e s hp
  obtain ⟨rfl,d,rfl⟩:=hp
  refine Qd (R_G (Qa 3 (Qe (Qo ?_))))
  obtain rfl:=Qq hm
  exact ⟨trivial,QM (by kernel_rfl) (by kernel_rfl)⟩
def Zn (x:((List Int) × Int × Int)):Option (Int) :=
 match x with
 | (p0,v202,v203) =>
 if v203 < (p0.length:Int) then
  idx p0 v203>>=fun v603 =>
  Zn (p0,(if v202 < v603 then v603 else v202),(W (v203+1)))
 else
 some v202
 partial_fixpoint
def Qbh:((List Int) × Int × Int)→Int→Prop:=fun x r=>match x with
 | (p0,v202,v203)=>∀ st,prune 0 ((QB (QL [1,1,1,0,1,0,0] (QN f140))).bind (env.hint 140).keepAt) st=⟨kp 25 [(0,(La p0)),(3,(Qg v202)),(4,(Qg v203))],[]⟩ →
  RL prog env (env.hint 140) true (QL [1,1,1,0,1,0,0] (QN f140)) 0 st (fun e s=>match r with|v602=>e=.exit 0∧∃ d,s=⟨sl d 25 [(3,(Qg v602))],[]⟩)
theorem Jz:∀ x r,Zn x=some r→Qbh x r:=by
 refine Zn.partial_correctness _ (fun Zn Jz x r hm=>?_)
 unfold Qbh
 obtain ⟨p0,v202,v203⟩:=x
 intro st hst
 refine RL_at hst ?_
 clear hst
 refine Qd (Qd (R_G (Qa 2 ?_)))
 refine QP Qi p0 (es:=(List.map Qi) p0) rfl ?_
 refine Qa 1 (Qe ?_)
 refine Qy hm (rfl) (fun hm=>?_) (fun hm=>?_)
 ·refine Qs (Qd (Qu (R_G (Qa 3 ?_))))
  refine Zj 1 Qi hm rfl (fun _=>rfl) (fun v603 hm=>?_)
  refine Qa 1 ?_
  refine Zt rfl (fun _=>Qg5 (k:=.i64) (m:=v202) (n:=v603) rfl (by kernel_rfl) (by kernel_rfl)) ?_
  refine Qa 1 (Qe (R_G (Qa 3 (Qe ?_))))
  exact Jz _ _ hm _ (by kernel_rfl)
 refine Zh ?_
 obtain rfl:=Qq hm
 exact ⟨rfl,Qp⟩
def YK (x:(List Int)):Option Int :=
 match x with
 | p0 =>
 if (p0.length:Int) < 1 then
  none
 else
 idx p0 0>>=fun v1 =>
 Zn (p0,v1,1)>>=fun (v602:Int) =>
 some v602
def Qb0:(List Int)→Int→Prop:=fun x r=>match x,r with
 | p0,r0=>∀ H,PC prog env 140 ([(Lb p0)].map .dat) H (Qg r0) H
theorem Qca:∀ x r,YK x=some r→Qb0 x r:=by
 intro p0 r0 hm
 unfold YK at hm
 unfold Qb0
 intro H
 refine PC_sx (ds:=[(Lb p0)]) (fn:=f140) rfl ?_
 refine Qd (R_G (Qa 1 (Qe (Qd (Qd (R_G (Qa 1 ?_)))))))
 refine QP Qi p0 (es:=(List.map Qi) p0) rfl ?_
 refine Qa 1 (Qe ?_)
 refine Qy hm (rfl) (fun hm=>?_) (fun hm=>?_)
 ·refine R_G ?_
  exact (QfV hm).elim
 refine Qs (Qd (R_G (Qa 1 ?_)))
 refine Zj 1 Qi hm rfl (fun _=>rfl) (fun v1 hm=>?_)
 refine Qa 2 (Qe (Qd (Qd (R_G (Qa 1 (Qe (Qu ?_)))))))
 obtain ⟨v602,hs,hm⟩:=Qh hm
 refine Zk ?_
 refine RL_use (Jz _ _ hs) (by kernel_rfl) ?_
 clear hs
 intro e s hp
 obtain ⟨rfl,d,rfl⟩:=hp
 refine Qd (R_G (Qa 2 (Qe (Qo ?_))))
 obtain rfl:=Qq hm
 exact ⟨trivial,Qk⟩
def XL (x:(QG × Int)):Option ((List Int) × Int) :=
 match x with
 | (p0,p1) =>
 Jw (p0,p1)>>=fun ((v1,v2):((List Int) × Int)) =>
 if v2≠0 then
  some (([]:(List Int)),v2)
 else
 (
 Z2 (v1,p0.values,p0.scalar,p1)>>=fun (out:((List Int) × Int × Nat) ⊕ ((List Int) × (List Int))) =>
 match out with
 | .inl (v3,v4,v5) =>
  ((if v4=0 then
   some (decide (p1 > 0))
  else
  some false
  )>>=fun (v9:Bool) =>
  if v9=true then
   YK ([]:(List Int))>>=fun (v10:Int) =>
   some ((v3.length:Int) != (W (v10+1)))
  else
  some false
  )>>=fun (v8:Bool) =>
  if v8=true then
   some (([]:(List Int)),6)
  else
  some (([]:(List Int)),v4)
 | .inr ((v6,v7)) =>
  (if p1 > 0 then
   YK v7>>=fun (v12:Int) =>
   some ((v6.length:Int) != (W (v12+1)))
  else
  some false
  )>>=fun (v11:Bool) =>
  if v11=true then
   some (([]:(List Int)),6)
  else
  some (v7,0)
 )
def Qct:(QG × Int)→((List Int) × Int)→Prop:=fun x r=>match x,r with
 | (p0,p1),(r0,r1)=>∀ H,PC prog env 123 ([(QG.toD p0),(Qi p1)].map .dat) H (.tup [(La r0),(Qg r1)]) H
theorem Qe1:∀ x r,XL x=some r→Qct x r:=by
 intro x r hm
 unfold XL at hm
 unfold Qct
 obtain ⟨p0,p1⟩:=x
 obtain ⟨r0,r1⟩:=r
 intro H
 refine PC_sx (ds:=[(QG.toD p0),(Qi p1)]) (fn:=f123) rfl ?_
 refine Qd (R_G (Qa 4 (Qe (Qd (R_G (Qa 2 ?_))))))
 obtain ⟨⟨v1,v2⟩,hx,hm⟩:=Qh hm
 have hq:=Qej _ _ hx []
 refine Qr hq ?_
 refine Qa 5 (Qe (Qd (Qd (R_G (Qa 2 (Qe ?_))))))
 refine Qy hm (ne_dec _ _) (fun hm=>?_) (fun hm=>?_)
 ·refine Qd (R_G (Qa 3 (Qe (Qo ?_))))
  obtain ⟨rfl,rfl⟩:=Zl hm
  exact ⟨trivial,Qk⟩
 refine Qs (Qd (R_G (Qa 1 (Qa 2 (Qe (Qd (R_G (Qa 2 ?_))))))))
 obtain ⟨out,hx,hm⟩:=Qh hm
 rcases out with ⟨v3,v4,v5⟩|⟨v6,v7⟩
 ·have hq:=X7 _ _ hx
  dsimp only [ZY] at hq
  refine Q0 hq ?_
  refine Qa 5 (Qe (Qd (Qd ?_)))
  obtain ⟨v8,hs,hm⟩:=Qh hm
  refine Yx (fun d=>⟨sl d 42 [(7,(Qg v4)),(9,Ea),(39,(Qm v8))],[(.box [(La p0.values),(Qm p0.scalar)]),(.box [(Qg p1)]),(.map (setE .i64 (QaW true) v3)),(.box [(.mapv 2)]),(.tok 3 v5)]⟩) ?_ (fun d=>?_)
  ·replace hm:=hs
   clear hs
   refine QcY ?_
   refine Qa 3 ?_
   obtain ⟨v9,hs,hm⟩:=Qh hm
   refine YC (j:=6) (fun d=>⟨sl d 42 [(7,(Qg v4)),(8,(.ptr 3 0)),(9,Ea),(31,(Qm v9))],[(.box [(La p0.values),(Qm p0.scalar)]),(.box [(Qg p1)]),(.map (setE .i64 (QaW true) v3)),(.box [(.mapv 2)]),(.tok 3 v5)]⟩) (fun d=>?_) (fun hJ=>?_)
   ·clear hs
    refine Qa 1 ?_
    refine Qw 32 hm (Qz _) (fun hm=>?_) (fun hm=>?_)
    ·refine Qa 1 ?_
     refine Zt rfl (fun _=>QgB (kt:=3) (e:=4) (i:=2) (kk:=.i64) (v:=(QaW true)) (l:=v3) (by kernel_rfl) rfl (by kernel_rfl) (by kernel_rfl)) ?_
     refine Qa 1 ?_
     obtain ⟨v10,hx,hm⟩:=Qh hm
     have hq:=Qca _ _ hx []
     refine Qr hq ?_
     refine Qa 3 ?_
     refine Qe ⟨by kernel_rfl,?_⟩
     obtain rfl:=Qq hm
     exact Qp
    refine Qa 7 ?_
    refine Qe ⟨by kernel_rfl,?_⟩
    obtain rfl:=Qq hm
    exact Qp
   clear hm
   refine Qw 28 hs (ZN _ _) (fun hm=>?_) (fun hm=>?_)
   ·refine Qa 3 ?_
    obtain rfl:=Qq hm
    exact hJ _ _
   refine Qa 3 ?_
   obtain rfl:=Qq hm
   exact hJ _ _
  clear hs
  refine Qy hm (Qz _) (fun hm=>?_) (fun hm=>?_)
  ·refine Qd (R_G (Qa 2 (Qe (Qo ?_))))
   obtain ⟨rfl,rfl⟩:=Zl hm
   exact ⟨trivial,Qk⟩
  refine Qs (Qd (R_G (Qa 4 (Qe (Qo ?_)))))
  obtain ⟨rfl,rfl⟩:=Zl hm
  exact ⟨trivial,Qk⟩
 ·have hq:=X7 _ _ hx
  dsimp only [ZY] at hq
  refine Q0 hq ?_
  refine Qa 5 (Qe (Qd (Qd ?_)))
  obtain ⟨v11,hs,hm⟩:=Qh hm
  refine Yx (fun d=>⟨sl d 42 [(7,(Qg 0)),(9,(.vec 4 ((List.map Qi) v7))),(39,(Qm v11))],[(.box [(La p0.values),(Qm p0.scalar)]),(.box [(Qg p1)]),(.map (setE .i64 (QaW true) v6)),(.box [(.mapv 2)]),(.tok 3 v7.length)]⟩) ?_ (fun d=>?_)
  ·replace hm:=hs
   clear hs
   refine QcY ?_
   refine Qa 7 ?_
   refine Qw 32 hm (rfl) (fun hm=>?_) (fun hm=>?_)
   ·refine Qa 1 ?_
    refine Zt rfl (fun _=>QgB (kt:=3) (e:=4) (i:=2) (kk:=.i64) (v:=(QaW true)) (l:=v6) (by kernel_rfl) rfl (by kernel_rfl) (by kernel_rfl)) ?_
    refine Qa 1 ?_
    obtain ⟨v12,hx,hm⟩:=Qh hm
    have hq:=Qca _ _ hx []
    refine Qr hq ?_
    refine Qa 3 ?_
    refine Qe ⟨by kernel_rfl,?_⟩
    obtain rfl:=Qq hm
    exact Qp
   refine Qa 7 ?_
   refine Qe ⟨by kernel_rfl,?_⟩
   obtain rfl:=Qq hm
   exact Qp
  clear hs
  refine Qy hm (Qz _) (fun hm=>?_) (fun hm=>?_)
  ·refine Qd (R_G (Qa 2 (Qe (Qo ?_))))
   obtain ⟨rfl,rfl⟩:=Zl hm
   exact ⟨trivial,Qk⟩
  refine Qs (Qd (R_G (Qa 4 (Qe (Qo ?_)))))
  obtain ⟨rfl,rfl⟩:=Zl hm
  exact ⟨trivial,Qk⟩
def Ju (x:(QG × (List Int))):Option (Qn × Int) :=
 match x with
 | (p0,p1) =>
 XL ((⟨p0.values,p0.scalar⟩:QG),(p1.length:Int))>>=fun ((v1,v2):((List Int) × Int)) =>
 if v2≠0 then
  Zv v2>>=fun ((v3,v4):(Qn × Int)) =>
  some (v3,v4)
 else
 XW (v1,p1)>>=fun ((v5,v6):(Qn × Int)) =>
 some (v5,v6)
def Qdf:(QG × (List Int))→(Qn × Int)→Prop:=fun x r=>match x,r with
 | (p0,p1),(r0,r1)=>∀ H,PC prog env 103 ([(QG.toD p0),(Lb p1)].map .dat) H (.tup [(.dat (Qn.toD r0)),(Qg r1)]) H
theorem Qfm:∀ x r,Ju x=some r→Qdf x r:=by
 intro x r hm
 unfold Ju at hm
 unfold Qdf
 obtain ⟨p0,p1⟩:=x
 obtain ⟨r0,r1⟩:=r
 intro H
 refine PC_sx (ds:=[(QG.toD p0),(Lb p1)]) (fn:=f103) rfl ?_
 refine Qd (R_G (Qa 3 (Qe (Qd (R_G (Qa 2 ?_))))))
 refine QP Qi p1 (es:=(List.map Qi) p1) rfl ?_
 obtain ⟨⟨v1,v2⟩,hx,hm⟩:=Qh hm
 have hq:=Qe1 _ _ hx []
 refine Qr hq ?_
 refine Qa 5 (Qe (Qd (Qd (R_G (Qa 2 (Qe ?_))))))
 refine Qy hm (ne_dec _ _) (fun hm=>?_) (fun hm=>?_)
 ·refine Qd (R_G (Qa 1 ?_))
  obtain ⟨⟨v3,v4⟩,hx,hm⟩:=Qh hm
  have hq:=ZV _ _ hx []
  refine Qr hq ?_
  refine Qa 4 (Qe (Qo ?_))
  obtain ⟨rfl,rfl⟩:=Zl hm
  exact ⟨trivial,Qk⟩
 refine Qs (Qd (R_G (Qa 2 ?_)))
 obtain ⟨⟨v5,v6⟩,hx,hm⟩:=Qh hm
 have hq:=QdI _ _ hx []
 refine Qr hq ?_
 refine Qa 4 (Qe (Qo ?_))
 obtain ⟨rfl,rfl⟩:=Zl hm
 exact ⟨trivial,Qk⟩
def Jl (x:Int):Option Bool :=
 match x with
 | p0 =>
 some (decide (p0 < 0))
def Qce:Int→Bool→Prop:=fun x r=>match x,r with
 | p0,r0=>∀ H,PC prog env 142 ([(Qi p0)].map .dat) H (Qm r0) H
theorem Qen:∀ x r,Jl x=some r→Qce x r:=by
 intro p0 r0 hm
 unfold Jl at hm
 unfold Qce
 intro H
 refine PC_sx (ds:=[(Qi p0)]) (fn:=f142) rfl ?_
 refine Qd (R_G (Qa 1 (Qe (Qd (R_G (Qa 3 (Qe (Qo ?_))))))))
 obtain rfl:=Qq hm
 exact ⟨trivial,Qk⟩
def QE (x:((List Int) × Int)):Option (Int ⊕ Unit) :=
 match x with
 | (p0,v201) =>
 if v201 < (p0.length:Int) then
  idx p0 v201>>=fun v602 =>
  Jl v602>>=fun (v603:Bool) =>
  if v603=true then
   some (Sum.inl v201)
  else
  QE (p0,(W (v201+1)))
 else
 some (Sum.inr ())
 partial_fixpoint
def Z6:((List Int) × Int)→(Int ⊕ Unit)→Prop:=fun x r=>match x with
 | (p0,v201)=>∀ st,prune 0 ((QB (QL [1,0,1,0,0] (QN f154))).bind (env.hint 154).keepAt) st=⟨kp 19 [(0,(La p0)),(1,(.dat (.raw (.func (.func 142) #[] #[])))),(7,(Qg (p0.length:Int))),(8,(Qg v201))],[]⟩ →
  RL prog env (env.hint 154) true (QL [1,0,1,0,0] (QN f154)) 0 st (fun e s=>match r with|.inl v601=>e=.ret∧∃ d,s=⟨sl d 19 [(4,(Qg v601))],[]⟩|.inr (_)=>e=.exit 0∧∃ d,s=⟨sl d 19 [],[]⟩)
theorem Q6:∀ x r,QE x=some r→Z6 x r:=by
 refine QE.partial_correctness _ (fun QE Q6 x r hm=>?_)
 unfold Z6
 obtain ⟨p0,v201⟩:=x
 intro st hst
 refine RL_at hst ?_
 clear hst
 refine Qd (R_G (Qa 1 (Qe (Qd ?_))))
 refine Qy hm (rfl) (fun hm=>?_) (fun hm=>?_)
 ·refine Qs (Qd (Qu (Qd (R_G (Qa 2 (Qe (Qd (R_G (Qa 3 ?_)))))))))
  refine Zj 1 Qi hm rfl (fun _=>rfl) (fun v602 hm=>?_)
  refine Qa 1 ?_
  obtain ⟨v603,hx,hm⟩:=Qh hm
  have hq:=Qen _ _ hx []
  refine Qr hq ?_
  refine Qe ?_
  refine Qy hm (Qz _) (fun hm=>?_) (fun hm=>?_)
  ·refine Qd (R_G (Qa 2 (Qe (Qo ?_))))
   obtain rfl:=Qq hm
   exact ⟨rfl,Qp⟩
  refine Qs (R_G (Qa 2 (Qe ?_)))
  exact Q6 _ _ hm _ (by kernel_rfl)
 refine Zh ?_
 obtain rfl:=Qq hm
 exact ⟨rfl,Qp⟩
def Zd (x:(List Int)):Option Int :=
 match x with
 | p0 =>
 (
 QE (p0,0)>>=fun (out:Int ⊕ Unit) =>
 match out with
 | .inl v601 =>
  some v601
 | .inr (_) =>
  some (-1)
 )
def Yo:(List Int)→Int→Prop:=fun x r=>match x,r with
 | p0,r0=>∀ H,PC prog env 154 ([(Lb p0),(.raw (.func (.func 142) #[] #[]))].map .dat) H (Qg r0) H
theorem XU:∀ x r,Zd x=some r→Yo x r:=by
 intro p0 r0 hm
 unfold Zd at hm
 unfold Yo
 intro H
 refine PC_sx (ds:=[(Lb p0),(.raw (.func (.func 142) #[] #[]))]) (fn:=f154) rfl ?_
 refine Qd (R_G (Qa 1 (Qe (Qd (Qd (R_G (Qa 1 ?_)))))))
 refine QP Qi p0 (es:=(List.map Qi) p0) rfl ?_
 refine Qa 1 (Qe (Qu ?_))
 obtain ⟨out,hs,hm⟩:=Qh hm
 refine Zk ?_
 rcases out with v601|_
 ·refine RL_use (Q6 _ _ hs) (by kernel_rfl) ?_
  clear hs
  intro e s hp
  obtain ⟨rfl,d,rfl⟩:=hp
  obtain rfl:=Qq hm
  exact ⟨trivial,Qk⟩
 ·refine RL_use (Q6 _ _ hs) (by kernel_rfl) ?_
  clear hs
  intro e s hp
  obtain ⟨rfl,d,rfl⟩:=hp
  refine Qd (R_G (Qa 1 (Qe (Qo ?_))))
  obtain rfl:=Qq hm
  exact ⟨trivial,Qk⟩
def QY (x:(List Int)):Option Bool :=
 match x with
 | p0 =>
 Zd p0>>=fun (v1:Int) =>
 some (decide (v1≥0))
def Z4:(List Int)→Bool→Prop:=fun x r=>match x,r with
 | p0,r0=>∀ H,PC prog env 141 ([(Lb p0),(.raw (.func (.func 142) #[] #[]))].map .dat) H (Qm r0) H
theorem XF:∀ x r,QY x=some r→Z4 x r:=by
 intro p0 r0 hm
 unfold QY at hm
 unfold Z4
 intro H
 refine PC_sx (ds:=[(Lb p0),(.raw (.func (.func 142) #[] #[]))]) (fn:=f141) rfl ?_
 refine Qd (R_G (Qa 1 (Qe (Qd (R_G (Qa 2 ?_))))))
 obtain ⟨v1,hx,hm⟩:=Qh hm
 have hq:=XU _ _ hx []
 refine Qr hq ?_
 refine Qa 2 (Qe (Qo ?_))
 obtain rfl:=Qq hm
 exact ⟨trivial,Qk⟩
def QaF (x:Int):Option (Int × Int) :=
 match x with
 | p0 =>
 if p0 < 0 then
  some (0,6)
 else
 if p0 > 65536 then
  some (0,7)
 else
 some (p0,0)
def Qdh:Int→(Int × Int)→Prop:=fun x r=>match x,r with
 | p0,(r0,r1)=>∀ H,PC prog env 143 ([(Qi p0)].map .dat) H (.tup [(Qg r0),(Qg r1)]) H
theorem Qfo:∀ x r,QaF x=some r→Qdh x r:=by
 intro p0 r hm
 unfold QaF at hm
 unfold Qdh
 obtain ⟨r0,r1⟩:=r
 intro H
 refine PC_sx (ds:=[(Qi p0)]) (fn:=f143) rfl ?_
 refine Qd (R_G (Qa 2 (Qe (Qd (Qu (Qd (R_G (Qa 3 (Qe ?_)))))))))
 refine Qy hm (rfl) (fun hm=>?_) (fun hm=>?_)
 ·refine Qd (R_G (Qa 2 (Qe (Qo ?_))))
  obtain ⟨rfl,rfl⟩:=Zl hm
  exact ⟨trivial,Qk⟩
 refine Qd (R_G (Qa 3 (Qe ?_)))
 refine Qy hm (rfl) (fun hm=>?_) (fun hm=>?_)
 ·refine Qd (R_G (Qa 2 (Qe (Qo ?_))))
  obtain ⟨rfl,rfl⟩:=Zl hm
  exact ⟨trivial,Qk⟩
 refine Qs (Qd (R_G (Qa 3 (Qe (Qo ?_)))))
 obtain ⟨rfl,rfl⟩:=Zl hm
 exact ⟨trivial,Qk⟩
def QR (x:((List Int) × Bool × (List Int) × Int)):Option ((Int × Nat) ⊕ (List Int)) :=
 match x with
 | (q0,q1,v201,v202) =>
 if v202 < (q0.length:Int) then
  idx q0 v202>>=fun v604 =>
  QaF v604>>=fun ((v605,v606):(Int × Int)) =>
  if v606≠0 then
   some (Sum.inl (v606,v201.length))
  else
  app 8 v201 ([v605]:List Int)>>=fun v607 =>
  QR (q0,q1,v607,(W (v202+1)))
 else
 some (Sum.inr v201)
 partial_fixpoint
def Xx:((List Int) × Bool × (List Int) × Int)→((Int × Nat) ⊕ (List Int))→Prop:=fun x r=>match x with
 | (q0,q1,v201,v202)=>∀ st,prune 2 ((QB (QL [1,1,0,1,0,0] (QN f138))).bind (env.hint 138).keepAt) st=⟨kp 35 [(1,(.dat (.raw (.func (.func 143) #[] #[])))),(6,(.vec 1 ((List.map Qi) v201))),(14,(La q0)),(15,(Qg (q0.length:Int))),(16,(Qg v202))],[(.box [(La q0),(Qm q1)]),(.tok 3 v201.length)]⟩ →
  RL prog env (env.hint 138) true (QL [1,1,0,1,0,0] (QN f138)) 2 st (fun e s=>match r with|.inl (v601,v602)=>e=.ret∧∃ d,s=⟨sl d 35 [(4,Ea),(5,(Qg v601))],[(.box [(La q0),(Qm q1)]),(.tok 3 v602)]⟩|.inr (v603)=>e=.exit 0∧∃ d,s=⟨sl d 35 [(6,(.vec 1 ((List.map Qi) v603)))],[(.box [(La q0),(Qm q1)]),(.tok 3 v603.length)]⟩)
theorem ZF:∀ x r,QR x=some r→Xx x r:=by
 refine QR.partial_correctness _ (fun QR ZF x r hm=>?_)
 unfold Xx
 obtain ⟨q0,q1,v201,v202⟩:=x
 intro st hst
 refine RL_at hst ?_
 clear hst
 refine Qd (R_G (Qa 1 (Qe (Qd ?_))))
 refine Qy hm (rfl) (fun hm=>?_) (fun hm=>?_)
 ·refine Qs (Qd (Qu (Qd (R_G ?_))))
  refine Zj 1 Qi hm rfl (fun _=>rfl) (fun v604 hm=>?_)
  refine Qa 2 (Qe (Qd (R_G (Qa 2 ?_))))
  obtain ⟨⟨v605,v606⟩,hx,hm⟩:=Qh hm
  have hq:=Qfo _ _ hx []
  refine Qr hq ?_
  refine Qa 5 (Qe (Qd (Qd (R_G (Qa 2 (Qe ?_))))))
  refine Qy hm (ne_dec _ _) (fun hm=>?_) (fun hm=>?_)
  ·refine Qd (R_G (Qa 3 (Qe (Qo ?_))))
   obtain rfl:=Qq hm
   exact ⟨rfl,Qp⟩
  refine Qs (R_G (Qa 3 ?_))
  obtain ⟨v607,hx,hm⟩:=Qh hm
  refine Qc7 3 1 8 1 Qi v201 ([v605]:List Int) v607 (xs:=(List.map Qi) v201) (es:=(List.map Qi) ([v605]:List Int)) (L:=(List.map Qi)) (fun _=>rfl) rfl rfl (fun _=>rfl) hx ?_
  refine Qa 1 (Qe (R_G (Qa 2 (Qe ?_))))
  exact ZF _ _ hm _ (by kernel_rfl)
 refine Zh ?_
 obtain rfl:=Qq hm
 exact ⟨rfl,Qp⟩
def Z1 (x:((List Int) × Bool)):Option ((Int × Nat) ⊕ (List Int)) :=
 match x with
 | (q0,q1) =>
 Z3 (0≤(q0.length:Int)∧(q0.length:Int) * (8:Int)≤(room:Int)∧(q0.length:Int)≤9223372036854775807)>>=fun (_:Unit) =>
 (
 QR (q0,q1,([]:List Int),0)>>=fun (out:(Int × Nat) ⊕ (List Int)) =>
 match out with
 | .inl (v601,v602) =>
  some (Sum.inl (v601,v602))
 | .inr (v603) =>
  some (Sum.inr v603)
 )
def ZX:((List Int) × Bool)→((Int × Nat) ⊕ (List Int))→Prop:=fun x r=>match x with
 | (q0,q1)=>PC prog env 138 [(La q0),(.dat (.raw (.func (.func 143) #[] #[])))] [(.box [(La q0),(Qm q1)])] (match r with|.inl (v5001,v5002)=>(.tup [Ea,(Qg v5001)])|.inr (v5003)=>(.tup [(.vec 1 ((List.map Qi) v5003)),(Qg 0)])) (match r with|.inl (v5001,v5002)=>[(.box [(La q0),(Qm q1)]),(.tok 3 v5002)]|.inr (v5003)=>[(.box [(La q0),(Qm q1)]),(.tok 3 v5003.length)])
theorem X6:∀ x r,Z1 x=some r→ZX x r:=by
 intro x r hm
 unfold Z1 at hm
 unfold ZX
 obtain ⟨q0,q1⟩:=x
 refine PC_sxB (fn:=f138) rfl ?_
 refine Qd (R_G (Qa 2 (Qe (Qd (R_G (Qa 1 ?_))))))
 refine QP Qi q0 (es:=(List.map Qi) q0) rfl ?_
 obtain ⟨_,hx,hm⟩:=Qh hm
 replace hx:=Z7 hx
 refine ZI (v:=.vec 1 []) (fun H=>H++[.tok 3 0]) rfl (by kernel_rfl) ?_ ?_
 ·intro K hk
  exact QgA 1 (n:=(q0.length:Int)) (j:=0) (os:=[]) (bytes:=8) (z:=(Qi 0)) hx (by kernel_rfl) (by kernel_rfl) (by kernel_rfl) (by kernel_rfl) (by kernel_rfl) (by kernel_rfl) rfl (by kernel_rfl) (by kernel_rfl) hk
 refine Qa 1 (Qe (Qd (Qd (R_G (Qa 1 ?_)))))
 refine QP Qi q0 (es:=(List.map Qi) q0) rfl ?_
 refine Qa 1 (Qe (Qu ?_))
 obtain ⟨out,hs,hm⟩:=Qh hm
 refine Zk ?_
 rcases out with ⟨v601,v602⟩|v603
 ·refine RL_use (ZF _ _ hs) (by kernel_rfl) ?_
  clear hs
  intro e s hp
  obtain ⟨rfl,d,rfl⟩:=hp
  obtain rfl:=Qq hm
  exact ⟨trivial,QM (by kernel_rfl) (by kernel_rfl)⟩
 ·refine RL_use (ZF _ _ hs) (by kernel_rfl) ?_
  clear hs
  intro e s hp
  obtain ⟨rfl,d,rfl⟩:=hp
  refine Qd (R_G (Qa 3 (Qe (Qo ?_))))
  obtain rfl:=Qq hm
  exact ⟨trivial,QM (by kernel_rfl) (by kernel_rfl)⟩
def X3 (x:QG):Option ((List Int) × Int) :=
 match x with
 | p0 =>
 QY p0.values>>=fun (v1:Bool) =>
 if v1=true then
  some (([]:(List Int)),6)
 else
 (
 Z1 (p0.values,p0.scalar)>>=fun (out:(Int × Nat) ⊕ (List Int)) =>
 match out with
 | .inl (v2,v3) =>
  (if v2=0 then
   Zo ([]:(List Int))>>=fun (v6:Int) =>
   some v6
  else
  some v2
  )>>=fun (v5:Int) =>
  if v5≠0 then
   some (([]:(List Int)),v5)
  else
  some (([]:(List Int)),0)
 | .inr (v4) =>
  Zo v4>>=fun (v7:Int) =>
  if v7≠0 then
   some (([]:(List Int)),v7)
  else
  some (v4,0)
 )
def QcK:QG→((List Int) × Int)→Prop:=fun x r=>match x,r with
 | p0,(r0,r1)=>∀ H,PC prog env 124 ([(QG.toD p0)].map .dat) H (.tup [(La r0),(Qg r1)]) H
theorem Qfj:∀ x r,X3 x=some r→QcK x r:=by
 intro p0 r hm
 unfold X3 at hm
 unfold QcK
 obtain ⟨r0,r1⟩:=r
 intro H
 refine PC_sx (ds:=[(QG.toD p0)]) (fn:=f124) rfl ?_
 refine Qd (R_G (Qa 3 (Qe (Qd (Qd (R_G (Qa 2 ?_)))))))
 obtain ⟨v1,hx,hm⟩:=Qh hm
 have hq:=XF _ _ hx []
 refine Qr hq ?_
 refine Qe ?_
 refine Qy hm (Qz _) (fun hm=>?_) (fun hm=>?_)
 ·refine Qd (R_G (Qa 2 (Qe (Qo ?_))))
  obtain ⟨rfl,rfl⟩:=Zl hm
  exact ⟨trivial,Qk⟩
 refine Qs (Qd (R_G (Qa 2 ?_)))
 obtain ⟨out,hx,hm⟩:=Qh hm
 rcases out with ⟨v2,v3⟩|v4
 ·have hq:=X6 _ _ hx
  dsimp only [ZX] at hq
  refine Q0 hq ?_
  refine Qa 5 (Qe (Qd (Qd (R_G (Qa 2 (Qe ?_))))))
  obtain ⟨v5,hs,hm⟩:=Qh hm
  refine Yx (fun d=>⟨sl d 23 [(4,Ea),(5,(Qg v5))],[(.box [(La p0.values),(Qm p0.scalar)]),(.tok 3 v3)]⟩) ?_ (fun d=>?_)
  ·replace hm:=hs
   clear hs
   refine Qy hm (ZN _ _) (fun hm=>?_) (fun hm=>?_)
   ·refine R_G (Qa 1 ?_)
    obtain ⟨v6,hx,hm⟩:=Qh hm
    have hq:=ZE _ _ hx []
    refine Qr hq ?_
    refine Qa 1 (Qe ?_)
    obtain rfl:=Qq hm
    exact Qp
   refine Qs ?_
   obtain rfl:=Qq hm
   exact Qp
  clear hs
  refine Qd (Qd (R_G (Qa 2 (Qe ?_))))
  refine Qy hm (ne_dec _ _) (fun hm=>?_) (fun hm=>?_)
  ·refine Qd (R_G (Qa 3 (Qe (Qo ?_))))
   obtain ⟨rfl,rfl⟩:=Zl hm
   exact ⟨trivial,Qk⟩
  refine Qs (Qd (R_G (Qa 3 (Qe (Qo ?_)))))
  obtain ⟨rfl,rfl⟩:=Zl hm
  exact ⟨trivial,Qk⟩
 ·have hq:=X6 _ _ hx
  dsimp only [ZX] at hq
  refine Q0 hq ?_
  refine Qa 5 (Qe (Qd (Qd (R_G (Qa 2 (Qe ?_))))))
  refine Qbd (by kernel_rfl) ?_
  refine R_G (Qa 1 ?_)
  obtain ⟨v7,hx,hm⟩:=Qh hm
  have hq:=ZE _ _ hx []
  refine Qr hq ?_
  refine Qa 1 (Qe (Qd (Qd (R_G (Qa 2 (Qe ?_))))))
  refine Qy hm (ne_dec _ _) (fun hm=>?_) (fun hm=>?_)
  ·refine Qd (R_G (Qa 3 (Qe (Qo ?_))))
   obtain ⟨rfl,rfl⟩:=Zl hm
   exact ⟨trivial,Qk⟩
  refine Qs (Qd (R_G (Qa 3 (Qe (Qo ?_)))))
  obtain ⟨rfl,rfl⟩:=Zl hm
  exact ⟨trivial,Qk⟩
def Qae (x:((List Int) × (List Int) × (List Int) × Bool)):Option (Int ⊕ ((List Int) × (List Int))) :=
 match x with
 | (q0,q1,q2,q3) =>
 Zo q1>>=fun (v1:Int) =>
 if v1≠0 then
  some (Sum.inl v1)
 else
 QA q0>>=fun v2 =>
 QA q1>>=fun v3 =>
 some (Sum.inr (v2,v3))
def J6:((List Int) × (List Int) × (List Int) × Bool)→(Int ⊕ ((List Int) × (List Int)))→Prop:=fun x r=>match x with
 | (q0,q1,q2,q3)=>PC prog env 93 [(La q0),(La q1),(.dat (.lst []))] [(.box [(La q2),(Qm q3)]),Qx] (match r with|.inl v5001=>(.tup [(.dat (.agg [Eb,Eb,Eb,Eb,(Qi 0),(Qi 0),Eb])),(Qg v5001)])|.inr ((v5002,v5003))=>(.tup [(.agg [Ea,(.ms 3 1 0 v5002.length v5002.length),(.ms 4 1 0 v5003.length v5003.length),Ea,(Qg (-1)),(Qg 0),Ea]),(Qg 0)])) (match r with|.inl v5001=>[(.box [(La q2),(Qm q3)]),Qx,Qx]|.inr ((v5002,v5003))=>[(.box [(La q2),(Qm q3)]),Qx,(.box [Ea,(.ms 3 1 0 v5002.length v5002.length),(.ms 4 1 0 v5003.length v5003.length),Ea,(Qg (-1)),(Qg 0),Ea]),(.mt 3 1 (cellsOf Qi v5002)),(.mt 3 1 (cellsOf Qi v5003)),(.box [Ea,(.ms 3 1 0 v5002.length v5002.length),(.ms 4 1 0 v5003.length v5003.length),Ea,(Qg (-1)),(Qg 0),Ea])])
theorem QcV:∀ x r,Qae x=some r→J6 x r:=by
 intro x r hm
 unfold Qae at hm
 unfold J6
 obtain ⟨q0,q1,q2,q3⟩:=x
 refine PC_sxB (fn:=f93) rfl ?_
 refine Qd (R_G (Qa 2 (Qe (Qd (Qd (R_G (Qa 1 ?_)))))))
 obtain ⟨v1,hx,hm⟩:=Qh hm
 have hq:=ZE _ _ hx []
 refine Qr hq ?_
 refine Qa 1 (Qe (Qd (R_G (Qa 2 (Qe ?_)))))
 refine Qy hm (ne_dec _ _) (fun hm=>?_) (fun hm=>?_)
 ·refine Qd (R_G (Qa 4 (Qe (Qo ?_))))
  obtain rfl:=Qq hm
  exact ⟨trivial,QM (by kernel_rfl) (by kernel_rfl)⟩
 refine Qs (Qd (R_G (Qa 1 ?_)))
 obtain ⟨v2,hx,hm⟩:=Qh hm
 have hq:=QF _ _ hx
 dsimp only [QC] at hq
 have hl9:mtOf [Blk.mt 3 (cgm_slices_Clone_int_int v2) (cellsOf Qi v2)] 0=some (3,cgm_slices_Clone_int_int v2,cellsOf Qi v2):=ZP (by kernel_rfl)
 refine ZI (v:=.ms 3 1 0 v2.length v2.length) (fun H=>H++[.mt 3 1 (cellsOf Qi v2)]) rfl (by kernel_rfl) ?_ ?_
 ·intro K hk
  refine Zz 3 (first:=#[]) (cap:=#[]) (j:=(0,3)) (ow':=[]) (f0:=Qi) (l:=v2) rfl ?_ ?_ ?_ (ds:=[.lst ((List.map Qi) q0)]) ?_ hq hl9 ?_ ?_ ?_
  ·kernel_rfl
  ·kernel_rfl
  ·kernel_rfl
  ·kernel_rfl
  ·exact hk
  ·kernel_rfl
  ·decide
 refine Qa 1 ?_
 obtain ⟨v3,hx,hm⟩:=Qh hm
 have hq:=QF _ _ hx
 dsimp only [QC] at hq
 have hl9:mtOf [Blk.mt 3 (cgm_slices_Clone_int_int v3) (cellsOf Qi v3)] 0=some (3,cgm_slices_Clone_int_int v3,cellsOf Qi v3):=ZP (by kernel_rfl)
 refine ZI (v:=.ms 4 1 0 v3.length v3.length) (fun H=>H++[.mt 3 1 (cellsOf Qi v3)]) rfl (by kernel_rfl) ?_ ?_
 ·intro K hk
  refine Zz 4 (first:=#[]) (cap:=#[]) (j:=(0,3)) (ow':=[]) (f0:=Qi) (l:=v3) rfl ?_ ?_ ?_ (ds:=[.lst ((List.map Qi) q1)]) ?_ hq hl9 ?_ ?_ ?_
  ·kernel_rfl
  ·kernel_rfl
  ·kernel_rfl
  ·kernel_rfl
  ·exact hk
  ·kernel_rfl
  ·decide
 refine Qa 3 (Qe (Qd (Qd (R_G (Qa 1 (Qa 1 (Qa 1 (Qe (Qu ?_)))))))))
 refine Zk ?_
 refine RL_at (st':=⟨kp 33 [(6,(.ptr 2 0)),(9,(.ptr 5 0)),(23,(.dat (.lst []))),(24,(Qg 0)),(25,(Qg 0))],[(.box [(La q2),(Qm q3)]),Qx,Qx,(.mt 3 1 (cellsOf Qi v2)),(.mt 3 1 (cellsOf Qi v3)),(.box [Ea,(.ms 3 1 0 v2.length v2.length),(.ms 4 1 0 v3.length v3.length),Ea,(Qg (-1)),(Qg 0),Ea])]⟩) (prune_of2 [(.box [(La q2),(Qm q3)]),Qx,Qx,(.mt 3 1 (cellsOf Qi v2)),(.mt 3 1 (cellsOf Qi v3)),(.box [Ea,(.ms 3 1 0 v2.length v2.length),(.ms 4 1 0 v3.length v3.length),Ea,(Qg (-1)),(Qg 0),Ea])] (fun _=>(pg_cons (by kernel_rfl) (pg_cons (by kernel_rfl) (pg_cons (by kernel_rfl) (pg_cons (purge_mt Qi _ _ _ _ _) (pg_cons (purge_mt Qi _ _ _ _ _) (pg_cons (by kernel_rfl) pg_nil))))))) rfl) ?_
 refine Qd (R_G (Qa 1 (Qe (Qd ?_))))
 refine Xh (by kernel_rfl) ?_
 refine Zh (Qd (R_G (Qa 3 (Qe (Qo ?_)))))
 obtain rfl:=Qq hm
 exact ⟨trivial,QM (by kernel_rfl) (by kernel_rfl)⟩
def Qap (x:(QG × (List Int))):Option (Qn × Int) :=
 match x with
 | (p0,p1) =>
 X3 (⟨p0.values,p0.scalar⟩:QG)>>=fun ((v1,v2):((List Int) × Int)) =>
 if v2≠0 then
  Zv v2>>=fun ((v3,v4):(Qn × Int)) =>
  some (v3,v4)
 else
 (
 Qae (p1,v1,p0.values,p0.scalar)>>=fun (out:Int ⊕ ((List Int) × (List Int))) =>
 match out with
 | .inl v5 =>
  some ((⟨([]:(List Int)),([]:(List Int)),([]:(List Int)),([]:(List Int)),0,0,([]:(List Int))⟩:Qn),v5)
 | .inr ((v6,v7)) =>
  some ((⟨([]:(List Int)),v6,v7,([]:(List Int)),(-1),0,([]:(List Int))⟩:Qn),0)
 )
def QdW:(QG × (List Int))→(Qn × Int)→Prop:=fun x r=>match x,r with
 | (p0,p1),(r0,r1)=>∀ H,PC prog env 104 ([(QG.toD p0),(Lb p1)].map .dat) H (.tup [(.dat (Qn.toD r0)),(Qg r1)]) H
theorem QfZ:∀ x r,Qap x=some r→QdW x r:=by
 intro x r hm
 unfold Qap at hm
 unfold QdW
 obtain ⟨p0,p1⟩:=x
 obtain ⟨r0,r1⟩:=r
 intro H
 refine PC_sx (ds:=[(QG.toD p0),(Lb p1)]) (fn:=f104) rfl ?_
 refine Qd (R_G (Qa 3 (Qe (Qd (R_G (Qa 1 ?_))))))
 obtain ⟨⟨v1,v2⟩,hx,hm⟩:=Qh hm
 have hq:=Qfj _ _ hx []
 refine Qr hq ?_
 refine Qa 5 (Qe (Qd (Qd (R_G (Qa 2 (Qe ?_))))))
 refine Qy hm (ne_dec _ _) (fun hm=>?_) (fun hm=>?_)
 ·refine Qd (R_G (Qa 1 ?_))
  obtain ⟨⟨v3,v4⟩,hx,hm⟩:=Qh hm
  have hq:=ZV _ _ hx []
  refine Qr hq ?_
  refine Qa 4 (Qe (Qo ?_))
  obtain ⟨rfl,rfl⟩:=Zl hm
  exact ⟨trivial,Qk⟩
 refine Qs (Qd (R_G (Qa 2 ?_)))
 obtain ⟨out,hx,hm⟩:=Qh hm
 rcases out with v5|⟨v6,v7⟩
 ·have hq:=QcV _ _ hx
  dsimp only [J6] at hq
  refine Q0 hq ?_
  refine Qa 4 (Qe (Qo ?_))
  obtain ⟨rfl,rfl⟩:=Zl hm
  exact ⟨trivial,Qk⟩
 ·have hq:=QcV _ _ hx
  dsimp only [J6] at hq
  refine Q0 hq ?_
  refine Qa 4 (Qe (Qo ?_))
  obtain ⟨rfl,rfl⟩:=Zl hm
  exact ⟨trivial,Xi [(.agg [Ea,(.ms 3 1 0 v6.length v6.length),(.ms 4 1 0 v7.length v7.length),Ea,(Qg (-1)),(Qg 0),Ea]),(Qg 0)] (by kernel_rfl) (po_tup (ps_cons (p1_agg (pc_cons (by kernel_rfl) (pc_cons (pc_ms (e:=3) Qi v6 rfl (fun _=>rfl) (by kernel_rfl)) (pc_cons (pc_ms (e:=3) Qi v7 rfl (fun _=>rfl) (by kernel_rfl)) (pc_cons (by kernel_rfl) (pc_cons (by kernel_rfl) (pc_cons (by kernel_rfl) (pc_cons (by kernel_rfl) pc_nil)))))))) (ps_cons (by kernel_rfl) ps_nil)))⟩
def Z0 (x:(Int × Int × Int × ByteArray × (List Int) × (List Qf) × Int × (List Int) × Int × (List Int) × Int × Int × (List Int) × (List Qc) × (List (ByteArray × Int)) × (List Qb) × (List Qb) × (List Qj))):Option ((Int × (List Int) × Int × (List Int) × Int × Int × (List Int) × (List Qc) × Int)) :=
 match x with
 | (q0,q1,q2,q3,q4,q5,q6,q7,q8,q9,q10,q11,q12,q13,q14,q15,q16,q17) =>
 idx q5 0>>=fun v1 =>
 X4 (v1.kind,v1.fn,v1.axis,v1.name,v1.nums,v1.kids,q14,q15,q16)>>=fun ((v2,v3,v4):((List Int) × Bool × Int)) =>
 if v4≠0 then
  some (0,([]:List Int),0,([]:List Int),0,0,([]:List Int),([]:List Qc),v4)
 else
 if q1=1 then
  Qb8 ((⟨v2,v3⟩:QG),q7)>>=fun ((v5,v6):(Qn × Int)) =>
  JR (v5,(⟨q6,q7,q8,q9,q10,q11,q12,q13⟩:Qc))>>=fun (v7:Qc) =>
  some (v7.kind,v7.shape,v7.buffer,v7.starts,v7.axis,v7.amount,v7.perm,v7.kids,v6)
 else
 if q1=2 then
  Qbi ((⟨v2,v3⟩:QG),q7)>>=fun ((v8,v9):(Qn × Int)) =>
  JR (v8,(⟨q6,q7,q8,q9,q10,q11,q12,q13⟩:Qc))>>=fun (v10:Qc) =>
  some (v10.kind,v10.shape,v10.buffer,v10.starts,v10.axis,v10.amount,v10.perm,v10.kids,v9)
 else
 if q1=3 then
  Qa5 ((⟨v2,v3⟩:QG),q2,q7)>>=fun ((v11,v12):(Qn × Int)) =>
  JQ (4,v11,(⟨q6,q7,q8,q9,q10,q11,q12,q13⟩:Qc))>>=fun (v13:Qc) =>
  some (v13.kind,v13.shape,v13.buffer,v13.starts,v13.axis,v13.amount,v13.perm,v13.kids,v12)
 else
 if q1=4 then
  Ju ((⟨v2,v3⟩:QG),q7)>>=fun ((v14,v15):(Qn × Int)) =>
  Xj (v14,(⟨q6,q7,q8,q9,q10,q11,q12,q13⟩:Qc))>>=fun (v16:Qc) =>
  some (v16.kind,v16.shape,v16.buffer,v16.starts,v16.axis,v16.amount,v16.perm,v16.kids,v15)
 else
 Qap ((⟨v2,v3⟩:QG),q7)>>=fun ((v17,v18):(Qn × Int)) =>
 Xr ((⟨q6,q7,q8,q9,q10,q11,q12,q13⟩:Qc),v17.shape)>>=fun (v19:Qc) =>
 some (v19.kind,v19.shape,v19.buffer,v19.starts,v19.axis,v19.amount,v19.perm,v19.kids,v18)
def Xt:(Int × Int × Int × ByteArray × (List Int) × (List Qf) × Int × (List Int) × Int × (List Int) × Int × Int × (List Int) × (List Qc) × (List (ByteArray × Int)) × (List Qb) × (List Qb) × (List Qj))→(Int × (List Int) × Int × (List Int) × Int × Int × (List Int) × (List Qc) × Int)→Prop:=fun x r=>match x with
 | (q0,q1,q2,q3,q4,q5,q6,q7,q8,q9,q10,q11,q12,q13,q14,q15,q16,q17)=>PCX prog env 77 [(.ptr 7 0),(.dat (.agg [(Qi q0),(Qi q1),(Qi q2),(strD q3),(Lb q4),(.lst (Qf.toDs q5))])),(.dat (.agg [(Qi q6),(Lb q7),(Qi q8),(Lb q9),(Qi q10),(Qi q11),(Lb q12),(.lst (Qc.toDs q13))]))] [(.map (smE q14)),(.tok 59 q15.length),(.box [(.vec 1 ((List.map Qb.toD) q15)),(.mapv 0)]),(.tok 59 (([]:List Qb).length)),(.box [(.vec 1 ((List.map Qb.toD) q16)),(.mapv 0)]),XH,(.tok 48 q17.length),(.box [(.ptr 4 0),(.vec 6 ((List.map Qj.toD) q17))])] (match r with|(v5001,v5002,v5003,v5004,v5005,v5006,v5007,v5008,v5009)=>(.tup [(.dat (.agg [(Qi v5001),(Lb v5002),(Qi v5003),(Lb v5004),(Qi v5005),(Qi v5006),(Lb v5007),(.lst (Qc.toDs v5008))])),(Qg v5009)])) (match r with|(v5001,v5002,v5003,v5004,v5005,v5006,v5007,v5008,v5009)=>[(.map (smE q14)),(.tok 59 q15.length),(.box [(.vec 1 ((List.map Qb.toD) q15)),(.mapv 0)]),(.tok 59 (([]:List Qb).length)),(.box [(.vec 1 ((List.map Qb.toD) q16)),(.mapv 0)]),XH,(.tok 48 q17.length),(.box [(.ptr 4 0),(.vec 6 ((List.map Qj.toD) q17))])])
theorem Qcj:∀ x r,Z0 x=some r→Xt x r:=by
 intro x r hm
 unfold Z0 at hm
 unfold Xt
 obtain ⟨q0,q1,q2,q3,q4,q5,q6,q7,q8,q9,q10,q11,q12,q13,q14,q15,q16,q17⟩:=x
 refine PCX_sxB (fn:=f77) rfl ?_
 refine Qd (R_G (Qa 4 (Qe (Qd ?_))))
 refine QaB ?_
 refine Qa 6 ?_
 obtain ⟨v1,hx,hm⟩:=Qh hm
 refine QaP 6 Qf.toD q5 0 v1 (es:=Qf.toDs q5) (d:=(Qf.ex v1)) (Qf.toDs_eq _) hx (Qf.toD_eq v1) rfl ?_
 refine Qa 1 ?_
 obtain ⟨⟨v2,v3,v4⟩,hx,hm⟩:=Qh hm
 have hq:=Qfk _ _ hx
 dsimp only [Qbo] at hq
 refine Qg7 (n:=5) hq ?_ (hi:=und_hi 0)
 refine Qa 6 ?_
 refine Qe ⟨by kernel_rfl,?_⟩
 refine Qd (Qd (R_G (Qa 2 (Qe ?_))))
 refine Qy hm (ne_dec _ _) (fun hm=>?_) (fun hm=>?_)
 ·refine Qd (R_G (Qa 4 (Qe (Qo ?_))))
  obtain rfl:=Qq hm
  exact ⟨trivial,fin_bodyX 8 (by kernel_rfl) (by kernel_rfl)⟩
 refine Qs (Qd (R_G (Qa 1 (Qe (Qd (Qd (R_G (Qa 2 (Qe (Qu (Qd ?_)))))))))))
 refine R_G (Qa 2 (Qe ?_))
 refine Qy hm (ZN _ _) (fun hm=>?_) (fun hm=>?_)
 ·refine Qd (R_G (Qa 3 ?_))
  obtain ⟨⟨v5,v6⟩,hx,hm⟩:=Qh hm
  have hq:=QgO _ _ hx []
  refine Qr hq ?_
  refine Qa 5 (Qe (Qd (R_G (Qa 2 ?_))))
  obtain ⟨v7,hx,hm⟩:=Qh hm
  have hq:=QeO _ _ hx []
  refine Qr hq ?_
  refine Qa 3 (Qe (Qo ?_))
  obtain rfl:=Qq hm
  exact ⟨trivial,fin_bodyX 8 (by kernel_rfl) (by kernel_rfl)⟩
 refine Qd (R_G (Qa 2 (Qe ?_)))
 refine Qy hm (ZN _ _) (fun hm=>?_) (fun hm=>?_)
 ·refine Qd (R_G (Qa 3 ?_))
  obtain ⟨⟨v8,v9⟩,hx,hm⟩:=Qh hm
  have hq:=QgM _ _ hx []
  refine Qr hq ?_
  refine Qa 5 (Qe (Qd (R_G (Qa 2 ?_))))
  obtain ⟨v10,hx,hm⟩:=Qh hm
  have hq:=QeO _ _ hx []
  refine Qr hq ?_
  refine Qa 3 (Qe (Qo ?_))
  obtain rfl:=Qq hm
  exact ⟨trivial,fin_bodyX 8 (by kernel_rfl) (by kernel_rfl)⟩
 refine Qd (R_G (Qa 2 (Qe ?_)))
 refine Qy hm (ZN _ _) (fun hm=>?_) (fun hm=>?_)
 ·refine Qd (R_G (Qa 5 ?_))
  obtain ⟨⟨v11,v12⟩,hx,hm⟩:=Qh hm
  have hq:=Qgi _ _ hx []
  refine Qr hq ?_
  refine Qa 5 (Qe (Qd (R_G (Qa 2 ?_))))
  obtain ⟨v13,hx,hm⟩:=Qh hm
  have hq:=QeN _ _ hx []
  refine Qr hq ?_
  refine Qa 3 (Qe (Qo ?_))
  obtain rfl:=Qq hm
  exact ⟨trivial,fin_bodyX 8 (by kernel_rfl) (by kernel_rfl)⟩
 refine Qd (R_G (Qa 2 (Qe ?_)))
 refine Qy hm (ZN _ _) (fun hm=>?_) (fun hm=>?_)
 ·refine Qd (R_G (Qa 3 ?_))
  obtain ⟨⟨v14,v15⟩,hx,hm⟩:=Qh hm
  have hq:=Qfm _ _ hx []
  refine Qr hq ?_
  refine Qa 5 (Qe (Qd (R_G (Qa 2 ?_))))
  obtain ⟨v16,hx,hm⟩:=Qh hm
  have hq:=QcO _ _ hx []
  refine Qr hq ?_
  refine Qa 3 (Qe (Qo ?_))
  obtain rfl:=Qq hm
  exact ⟨trivial,fin_bodyX 8 (by kernel_rfl) (by kernel_rfl)⟩
 refine Qs (Qd (R_G (Qa 3 ?_)))
 obtain ⟨⟨v17,v18⟩,hx,hm⟩:=Qh hm
 have hq:=QfZ _ _ hx []
 refine Qr hq ?_
 refine Qa 5 (Qe (Qd (R_G (Qa 3 ?_))))
 obtain ⟨v19,hx,hm⟩:=Qh hm
 have hq:=Qcb _ _ hx []
 refine Qr hq ?_
 refine Qa 3 (Qe (Qo ?_))
 obtain rfl:=Qq hm
 exact ⟨trivial,fin_bodyX 8 (by kernel_rfl) (by kernel_rfl)⟩
mutual
def Zq (x:(Int × Int × Int × ByteArray × (List Int) × (List Qf) × Int × (List Int) × Int × (List Int) × Int × Int × (List Int) × (List Qc) × (List (ByteArray × Int)) × (List Qb) × (List Qb) × (List Qj))):Option (((List Qj) × Int × (List Int) × Int × (List Qc) × Int)) :=
 match x with
 | (q0,q1,q2,q3,q4,q5,q6,q7,q8,q9,q10,q11,q12,q13,q14,q15,q16,q17) =>
 idx q5 0>>=fun v1 =>
 QO (v1.kind,v1.fn,v1.axis,v1.name,v1.nums,v1.kids,q14,q15,q16,q17)>>=fun ((v2,v3,v4,v5,v6,v7,v8,v9,v10,v11):((List Qj) × Int × (List Int) × Int × (List Int) × Int × Int × (List Int) × (List Qc) × Int)) =>
 if v11≠0 then
  some (v2,0,([]:List Int),0,([]:List Qc),v11)
 else
 YY (q2,v4,q7)>>=fun ((v12,v13):(Qn × Int)) =>
 Qao ((⟨v3,v4,v5,v6,v7,v8,v9,v10⟩:Qc),v12.left)>>=fun (v14:Qc) =>
 Qao ((⟨q6,q7,q8,q9,q10,q11,q12,q13⟩:Qc),v12.right)>>=fun (v15:Qc) =>
 some (v2,7,v12.shape,v12.axis,([(⟨v14.kind,v14.shape,v14.buffer,v14.starts,v14.axis,v14.amount,v14.perm,v14.kids⟩:Qc),(⟨v15.kind,v15.shape,v15.buffer,v15.starts,v15.axis,v15.amount,v15.perm,v15.kids⟩:Qc)]:List Qc),v13)
 partial_fixpoint
def QO (x:(Int × Int × Int × ByteArray × (List Int) × (List Qf) × (List (ByteArray × Int)) × (List Qb) × (List Qb) × (List Qj))):Option (((List Qj) × Int × (List Int) × Int × (List Int) × Int × Int × (List Int) × (List Qc) × Int)) :=
 match x with
 | (q0,q1,q2,q3,q4,q5,q6,q7,q8,q9) =>
 if (q5.length:Int)=0 then
  YG (q0,q1,q2,q3,q4,q5,q6,q7,q8,q9)>>=fun ((v1,v2,v3,v4,v5):((List Qj) × Int × (List Int) × Int × Int)) =>
  some (v1,v2,v3,v4,([]:List Int),0,0,([]:List Int),([]:List Qc),v5)
 else
 idx q5 (W ((q5.length:Int) - 1))>>=fun v6 =>
 QO (v6.kind,v6.fn,v6.axis,v6.name,v6.nums,v6.kids,q6,q7,q8,q9)>>=fun ((v7,v8,v9,v10,v11,v12,v13,v14,v15,v16):((List Qj) × Int × (List Int) × Int × (List Int) × Int × Int × (List Int) × (List Qc) × Int)) =>
 if v16≠0 then
  some (v7,0,([]:List Int),0,([]:List Int),0,0,([]:List Int),([]:List Qc),v16)
 else
 if q0=3 then
  Qbs ((⟨q0,q1,q2,q3,q4,q5⟩:Qf),(⟨v8,v9,v10,v11,v12,v13,v14,v15⟩:Qc))>>=fun ((v17,v18):(Qc × Int)) =>
  some (v7,v17.kind,v17.shape,v17.buffer,v17.starts,v17.axis,v17.amount,v17.perm,v17.kids,v18)
 else
 XJ ()>>=fun (_:Unit) =>
 if q1=6 then
  Zq (q0,q1,q2,q3,q4,q5,v8,v9,v10,v11,v12,v13,v14,v15,q6,q7,q8,v7)>>=fun ((v19,v20,v21,v22,v23,v24):((List Qj) × Int × (List Int) × Int × (List Qc) × Int)) =>
  some (v19,v20,v21,0,([]:List Int),v22,0,([]:List Int),v23,v24)
 else
 Z0 (q0,q1,q2,q3,q4,q5,v8,v9,v10,v11,v12,v13,v14,v15,q6,q7,q8,v7)>>=fun ((v25,v26,v27,v28,v29,v30,v31,v32,v33):(Int × (List Int) × Int × (List Int) × Int × Int × (List Int) × (List Qc) × Int)) =>
 some (v7,v25,v26,v27,v28,v29,v30,v31,v32,v33)
 partial_fixpoint
end
def ZW:(Int × Int × Int × ByteArray × (List Int) × (List Qf) × Int × (List Int) × Int × (List Int) × Int × Int × (List Int) × (List Qc) × (List (ByteArray × Int)) × (List Qb) × (List Qb) × (List Qj))→((List Qj) × Int × (List Int) × Int × (List Qc) × Int)→Prop:=fun x r=>match x with
 | (q0,q1,q2,q3,q4,q5,q6,q7,q8,q9,q10,q11,q12,q13,q14,q15,q16,q17)=>PCX prog env 76 [(.ptr 7 0),(.dat (.agg [(Qi q0),(Qi q1),(Qi q2),(strD q3),(Lb q4),(.lst (Qf.toDs q5))])),(.dat (.agg [(Qi q6),(Lb q7),(Qi q8),(Lb q9),(Qi q10),(Qi q11),(Lb q12),(.lst (Qc.toDs q13))]))] [(.map (smE q14)),(.tok 59 q15.length),(.box [(.vec 1 ((List.map Qb.toD) q15)),(.mapv 0)]),(.tok 59 (([]:List Qb).length)),(.box [(.vec 1 ((List.map Qb.toD) q16)),(.mapv 0)]),XH,(.tok 48 q17.length),(.box [(.ptr 4 0),(.vec 6 ((List.map Qj.toD) q17))])] (match r with|(v5001,v5002,v5003,v5004,v5005,v5006)=>(.tup [(.dat (.agg [(Qi v5002),(Lb v5003),(Qi 0),Eb,(Qi v5004),(Qi 0),Eb,(.lst (Qc.toDs v5005))])),(Qg v5006)])) (match r with|(v5001,v5002,v5003,v5004,v5005,v5006)=>[(.map (smE q14)),(.tok 59 q15.length),(.box [(.vec 1 ((List.map Qb.toD) q15)),(.mapv 0)]),(.tok 59 (([]:List Qb).length)),(.box [(.vec 1 ((List.map Qb.toD) q16)),(.mapv 0)]),XH,(.tok 48 v5001.length),(.box [(.ptr 4 0),(.vec 6 ((List.map Qj.toD) v5001))])])
def ZC:(Int × Int × Int × ByteArray × (List Int) × (List Qf) × (List (ByteArray × Int)) × (List Qb) × (List Qb) × (List Qj))→((List Qj) × Int × (List Int) × Int × (List Int) × Int × Int × (List Int) × (List Qc) × Int)→Prop:=fun x r=>match x with
 | (q0,q1,q2,q3,q4,q5,q6,q7,q8,q9)=>PCX prog env 24 [(.ptr 7 0),(.dat (.agg [(Qi q0),(Qi q1),(Qi q2),(strD q3),(Lb q4),(.lst (Qf.toDs q5))]))] [(.map (smE q6)),(.tok 59 q7.length),(.box [(.vec 1 ((List.map Qb.toD) q7)),(.mapv 0)]),(.tok 59 (([]:List Qb).length)),(.box [(.vec 1 ((List.map Qb.toD) q8)),(.mapv 0)]),XH,(.tok 48 q9.length),(.box [(.ptr 4 0),(.vec 6 ((List.map Qj.toD) q9))])] (match r with|(v5001,v5002,v5003,v5004,v5005,v5006,v5007,v5008,v5009,v5010)=>(.tup [(.dat (.agg [(Qi v5002),(Lb v5003),(Qi v5004),(Lb v5005),(Qi v5006),(Qi v5007),(Lb v5008),(.lst (Qc.toDs v5009))])),(Qg v5010)])) (match r with|(v5001,v5002,v5003,v5004,v5005,v5006,v5007,v5008,v5009,v5010)=>[(.map (smE q6)),(.tok 59 q7.length),(.box [(.vec 1 ((List.map Qb.toD) q7)),(.mapv 0)]),(.tok 59 (([]:List Qb).length)),(.box [(.vec 1 ((List.map Qb.toD) q8)),(.mapv 0)]),XH,(.tok 48 v5001.length),(.box [(.ptr 4 0),(.vec 6 ((List.map Qj.toD) v5001))])])
theorem g_elab_maker_catenate_f318e:(∀ x r,Zq x=some r→ZW x r)∧(∀ x r,QO x=some r→ZC x r):=by
 refine Zq.mutual_partial_correctness ZW ZC ?_ ?_
 ·intro QO YL x r hm
  unfold ZW
  obtain ⟨q0,q1,q2,q3,q4,q5,q6,q7,q8,q9,q10,q11,q12,q13,q14,q15,q16,q17⟩:=x
  refine PCX_sxB (fn:=f76) rfl ?_
  refine Qd (R_G (Qa 4 (Qe (Qd (R_G (Qa 3 ?_))))))
  obtain ⟨v1,hx,hm⟩:=Qh hm
  refine QaP 6 Qf.toD q5 0 v1 (es:=Qf.toDs q5) (d:=(Qf.ex v1)) (Qf.toDs_eq _) hx (Qf.toD_eq v1) rfl ?_
  refine Qa 1 ?_
  obtain ⟨⟨v2,v3,v4,v5,v6,v7,v8,v9,v10,v11⟩,hx,hm⟩:=Qh hm
  have hq:=YL _ _ hx
  dsimp only [ZC] at hq
  refine QbJ (n:=8) hq ?_ (hi:=und_hi 0) (hq:=und_hq 0)
  refine Qa 6 (Qe (Qd (Qd (R_G (Qa 2 (Qe ?_))))))
  refine Qy hm (ne_dec _ _) (fun hm=>?_) (fun hm=>?_)
  ·refine Qd (R_G (Qa 4 (Qe (Qo ?_))))
   obtain rfl:=Qq hm
   exact ⟨trivial,fin_bodyX 8 (by kernel_rfl) (by kernel_rfl)⟩
  refine Qs (Qd (R_G (Qa 6 ?_)))
  obtain ⟨⟨v12,v13⟩,hx,hm⟩:=Qh hm
  have hq:=QfI _ _ hx []
  refine Qr hq ?_
  refine Qa 6 (Qe (Qd ?_))
  refine QaB ?_
  refine Qa 7 ?_
  obtain ⟨v14,hx,hm⟩:=Qh hm
  have hq:=Qea _ _ hx []
  refine Qr hq ?_
  refine Qa 3 ?_
  obtain ⟨v15,hx,hm⟩:=Qh hm
  have hq:=Qea _ _ hx []
  refine Qr hq ?_
  refine Qa 5 ?_
  refine Qe ⟨by kernel_rfl,?_⟩
  refine Qo ?_
  obtain rfl:=Qq hm
  exact ⟨trivial,fin_bodyX 8 (by kernel_rfl) (by kernel_rfl)⟩
 ·intro Zq QO Qag YL x r hm
  unfold ZC
  obtain ⟨q0,q1,q2,q3,q4,q5,q6,q7,q8,q9⟩:=x
  refine PCX_sxB (fn:=f24) rfl ?_
  refine Qd (R_G (Qa 3 (Qe (Qd (Qd (R_G (Qa 2 ?_)))))))
  refine QP Qf.toD q5 (es:=Qf.toDs q5) (Qf.toDs_eq _) ?_
  refine Qa 1 (Qe ?_)
  refine Qy hm (ZN _ _) (fun hm=>?_) (fun hm=>?_)
  ·refine Qd (R_G (Qa 2 ?_))
   obtain ⟨⟨v1,v2,v3,v4,v5⟩,hx,hm⟩:=Qh hm
   have hq:=Qdl _ _ hx
   dsimp only [Jn] at hq
   refine QbJ (n:=8) hq ?_ (hi:=und_hi 0) (hq:=und_hq 0)
   refine Qa 4 (Qe (Qo ?_))
   obtain rfl:=Qq hm
   exact ⟨trivial,fin_bodyX 8 (by kernel_rfl) (by kernel_rfl)⟩
  refine Qs (Qd (R_G (Qa 5 ?_)))
  refine QP Qf.toD q5 (es:=Qf.toDs q5) (Qf.toDs_eq _) ?_
  refine Qa 1 ?_
  obtain ⟨v6,hx,hm⟩:=Qh hm
  refine QaP 6 Qf.toD q5 (W ((q5.length:Int) - 1)) v6 (es:=Qf.toDs q5) (d:=(Qf.ex v6)) (Qf.toDs_eq _) hx (Qf.toD_eq v6) rfl ?_
  refine Qa 1 ?_
  obtain ⟨⟨v7,v8,v9,v10,v11,v12,v13,v14,v15,v16⟩,hx,hm⟩:=Qh hm
  have hq:=YL _ _ hx
  dsimp only [ZC] at hq
  refine QbJ (n:=8) hq ?_ (hi:=und_hi 0) (hq:=und_hq 0)
  refine Qa 6 (Qe (Qd (Qd (R_G (Qa 2 (Qe ?_))))))
  refine Qy hm (ne_dec _ _) (fun hm=>?_) (fun hm=>?_)
  ·refine Qd (R_G (Qa 4 (Qe (Qo ?_))))
   obtain rfl:=Qq hm
   exact ⟨trivial,fin_bodyX 8 (by kernel_rfl) (by kernel_rfl)⟩
  refine Qs (Qd (Qd (R_G (Qa 3 (Qe ?_)))))
  refine Qy hm (ZN _ _) (fun hm=>?_) (fun hm=>?_)
  ·refine Qd (R_G (Qa 2 ?_))
   obtain ⟨⟨v17,v18⟩,hx,hm⟩:=Qh hm
   have hq:=Qgp _ _ hx []
   refine Qr hq ?_
   refine Qa 4 (Qe (Qo ?_))
   obtain rfl:=Qq hm
   exact ⟨trivial,fin_bodyX 8 (by kernel_rfl) (by kernel_rfl)⟩
  refine Qs (Qd ?_)
  refine QaB ?_
  obtain ⟨_,hx,hm⟩:=Qh hm
  have hq:=Qe0 _ _ hx
  dsimp only [Qbc] at hq
  refine ZI (v:=.mapv 10) (fun H=>H++[(.map [(.bool true,(.dat (.raw (.func (.func 76) #[] #[])))),(.bool false,(.dat (.raw (.func (.func 77) #[] #[]))))])]) rfl (by kernel_rfl) ?_ ?_
  ·intro K hK
   refine Qg8 10 (f:=48) (first:=#[]) (cap:=#[]) (j:=(0,3)) (ow':=[]) rfl ?_ ?_ ?_ hq ?_ ?_ ?_
   ·kernel_rfl
   ·kernel_rfl
   ·kernel_rfl
   ·kernel_rfl
   ·exact hK
   ·kernel_rfl
  refine Qa 3 ?_
  refine Qw 45 hm (ZN _ _) (fun hm=>?_) (fun hm=>?_)
  ·refine Qa 1 (Qa 3 ?_)
   obtain ⟨⟨v19,v20,v21,v22,v23,v24⟩,hx,hm⟩:=Qh hm
   have hq:=Qag _ _ hx
   dsimp only [ZW] at hq
   refine QbJ (n:=8) hq ?_ (hi:=und_hi 0) (hq:=und_hq 0)
   refine Qa 4 ?_
   refine Qe ⟨by kernel_rfl,?_⟩
   refine Qo ?_
   obtain rfl:=Qq hm
   exact ⟨trivial,fin_bodyX 8 (by kernel_rfl) (by kernel_rfl)⟩
  refine Qa 1 (Qa 3 ?_)
  obtain ⟨⟨v25,v26,v27,v28,v29,v30,v31,v32,v33⟩,hx,hm⟩:=Qh hm
  have hq:=Qcj _ _ hx
  dsimp only [Xt] at hq
  refine QbJ (n:=8) hq ?_ (hi:=und_hi 0) (hq:=und_hq 0)
  refine Qa 4 ?_
  refine Qe ⟨by kernel_rfl,?_⟩
  refine Qo ?_
  obtain rfl:=Qq hm
  exact ⟨trivial,fin_bodyX 8 (by kernel_rfl) (by kernel_rfl)⟩
theorem Qag:∀ x r,Zq x=some r→ZW x r:=g_elab_maker_catenate_f318e.1
theorem YL:∀ x r,QO x=some r→ZC x r:=g_elab_maker_catenate_f318e.2
def J9 (x:(Int × Int × Int × ByteArray × (List Int) × (List Qf) × (List (ByteArray × Int)) × (List Qb) × (List Qb))):Option ((Int × (List Int) × Int × (List Int) × Int × Int × (List Int) × (List Qc) × (List Qj) × (List Qj) × Int × (List Int) × Int × (List Int) × Int × Int × (List Int) × (List Qc) × Int × (List Int) × Int × (List Int) × Int × Int × (List Int) × (List Qc) × (List Qj) × Int)) :=
 match x with
 | (q0,q1,q2,q3,q4,q5,q6,q7,q8) =>
 QO (q0,q1,q2,q3,q4,q5,q6,q7,q8,([]:List Qj))>>=fun ((v1,v2,v3,v4,v5,v6,v7,v8,v9,v10):((List Qj) × Int × (List Int) × Int × (List Int) × Int × Int × (List Int) × (List Qc) × Int)) =>
 if v10≠0 then
  some (0,([]:List Int),0,([]:List Int),0,0,([]:List Int),([]:List Qc),([]:List Qj),v1,v2,v3,v4,v5,v6,v7,v8,v9,0,([]:List Int),0,([]:List Int),0,0,([]:List Int),([]:List Qc),([]:List Qj),v10)
 else
 some (v2,v3,v4,v5,v6,v7,v8,v9,v1,v1,v2,v3,v4,v5,v6,v7,v8,v9,v2,v3,v4,v5,v6,v7,v8,v9,v1,0)
def Qbl:(Int × Int × Int × ByteArray × (List Int) × (List Qf) × (List (ByteArray × Int)) × (List Qb) × (List Qb))→(Int × (List Int) × Int × (List Int) × Int × Int × (List Int) × (List Qc) × (List Qj) × (List Qj) × Int × (List Int) × Int × (List Int) × Int × Int × (List Int) × (List Qc) × Int × (List Int) × Int × (List Int) × Int × Int × (List Int) × (List Qc) × (List Qj) × Int)→Prop:=fun x r=>match x with
 | (q0,q1,q2,q3,q4,q5,q6,q7,q8)=>PC prog env 9 [(.ptr 4 0),(.dat (.agg [(Qi q0),(Qi q1),(Qi q2),(strD q3),(Lb q4),(.lst (Qf.toDs q5))]))] [(.map (smE q6)),(.tok 59 q7.length),(.box [(.vec 1 ((List.map Qb.toD) q7)),(.mapv 0)]),(.tok 59 (([]:List Qb).length)),(.box [(.vec 1 ((List.map Qb.toD) q8)),(.mapv 0)])] (match r with|(v5001,v5002,v5003,v5004,v5005,v5006,v5007,v5008,v5009,v5010,v5011,v5012,v5013,v5014,v5015,v5016,v5017,v5018,v5019,v5020,v5021,v5022,v5023,v5024,v5025,v5026,v5027,v5028)=>(.tup [(.dat (.agg [(Qi v5019),(Lb v5020),(Qi v5021),(Lb v5022),(Qi v5023),(Qi v5024),(Lb v5025),(.lst (Qc.toDs v5026)),(.lst ((List.map Qj.toD) v5027))])),(Qg v5028)])) (match r with|(v5001,v5002,v5003,v5004,v5005,v5006,v5007,v5008,v5009,v5010,v5011,v5012,v5013,v5014,v5015,v5016,v5017,v5018,v5019,v5020,v5021,v5022,v5023,v5024,v5025,v5026,v5027,v5028)=>[(.map (smE q6)),(.tok 59 q7.length),(.box [(.vec 1 ((List.map Qb.toD) q7)),(.mapv 0)]),(.tok 59 (([]:List Qb).length)),(.box [(.vec 1 ((List.map Qb.toD) q8)),(.mapv 0)]),(.box [(Qg v5001),(La v5002),(Qg v5003),(La v5004),(Qg v5005),(Qg v5006),(La v5007),(.dat (.lst (Qc.toDs v5008))),(.dat (.lst ((List.map Qj.toD) v5009)))]),(.tok 48 v5010.length),(.box [(.ptr 4 0),(.vec 6 ((List.map Qj.toD) v5010))]),(.box [(Qg v5011),(La v5012),(Qg v5013),(La v5014),(Qg v5015),(Qg v5016),(La v5017),(.dat (.lst (Qc.toDs v5018)))])])
theorem Qfg:∀ x r,J9 x=some r→Qbl x r:=by
 intro x r hm
 unfold J9 at hm
 unfold Qbl
 obtain ⟨q0,q1,q2,q3,q4,q5,q6,q7,q8⟩:=x
 refine PC_sxB (fn:=f9) rfl ?_
 refine Qd (R_G (Qa 3 (Qe (Qd (R_G (Qa 4 (Qe (Qd (R_G (Qa 2 ?_))))))))))
 obtain ⟨⟨v1,v2,v3,v4,v5,v6,v7,v8,v9,v10⟩,hx,hm⟩:=Qh hm
 have hq:=YL _ _ hx
 dsimp only [ZC] at hq
 refine QbJ (n:=8) hq ?_ (hi:=und_hi 0) (hq:=und_hq 0)
 refine Qa 6 (Qe (Qd (Qd (R_G (Qa 2 (Qe ?_))))))
 refine Qy hm (ne_dec _ _) (fun hm=>?_) (fun hm=>?_)
 ·refine Qd (R_G (Qa 4 (Qe (Qo ?_))))
  obtain rfl:=Qq hm
  exact ⟨trivial,QM (by kernel_rfl) (by kernel_rfl)⟩
 refine Qs (Qd ?_)
 refine QaB ?_
 refine Qa 8 ?_
 refine Qe ⟨by kernel_rfl,?_⟩
 refine Qo ?_
 obtain rfl:=Qq hm
 exact ⟨trivial,QM (by kernel_rfl) (by kernel_rfl)⟩
end Go.Proofs.Tryz
