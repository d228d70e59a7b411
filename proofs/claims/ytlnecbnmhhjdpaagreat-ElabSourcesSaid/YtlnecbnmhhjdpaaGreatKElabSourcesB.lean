/-
 Models of functions, their walks, and plain laws.
-/
import Derived.Test.YtlnecbnmhhjdpaaGreatKElabSourcesA
namespace Go.Proofs.Tryz
open Go Go.Pm
set_option linter.unusedVariables false
set_option maxHeartbeats 2000000
set_option maxRecDepth 2000
def ZY (x:(Int × (List Int) × Int × (List Int) × Nat × (List Int) × Nat)):Option ((Nat × (List Int) × Nat)) :=
 match x with
 | (v604,p1,v204,p0,v805,v806,v807) =>
 if (v807:Int)≤v604 then
  YI (v806.length=v807)>>=fun (_:Unit) =>
  app 8 v806 ([65536]:List Int)>>=fun v1209 =>
  ZY (v604,p1,v204,p0,(gb v805 ([65536]:List Int).isEmpty),v1209,v1209.length)
 else
 some (v805,v806,v807)
 partial_fixpoint
def QbJ:(Int × (List Int) × Int × (List Int) × Nat × (List Int) × Nat)→(Nat × (List Int) × Nat)→Prop:=fun x r=>match x with
 | (v604,p1,v204,p0,v805,v806,v807)=>∀ st,prune 3 ((QB (QJ [1,1,0,1,0,0,1,1,0,0,1,0,0,0] (QO f116))).bind (env.hint 116).keepAt) st=⟨kp 43 [(1,(La p1)),(2,(.ptr 0 0)),(4,(.ptr 1 0)),(6,(.ms 2 v805 0 v807 v807)),(7,(Qe v204)),(8,(Qe v604)),(9,(La p0)),(10,(Qe (p0.length:Int))),(11,(Qe v204))],[(.box [(La p0)]),Qv,(.mt 3 v805 (cellsOf Qj v806))]⟩ →
  RL prog env (env.hint 116) true (QJ [1,1,0,1,0,0,1,1,0,0,1,0,0,0] (QO f116)) 3 st (fun e s=>match r with|(v1205,v1206,v1207)=>e=.exit 2∧∃ d,s=⟨sl d 43 [(1,(La p1)),(2,(.ptr 0 0)),(4,(.ptr 1 0)),(6,(.ms 2 v1205 0 v1207 v1207)),(7,(Qe v204)),(8,(Qe v604)),(9,(La p0)),(10,(Qe (p0.length:Int))),(11,(Qe v204))],[(.box [(La p0)]),Qv,(.mt 3 v1205 (cellsOf Qj v1206))]⟩)
theorem QaC:∀ x r,ZY x=some r→QbJ x r:=by
 refine ZY.partial_correctness _ (fun ZY QaC x r hm=>?_)
 unfold QbJ
 obtain ⟨v604,p1,v204,p0,v805,v806,v807⟩:=x
 intro st hst
 refine RL_at hst ?_
 clear hst
 refine Qd (Qd (R_G (Qb 1 (Qb 1 (Qb 2 (Qf ?_))))))
 refine Qx hm (rfl) (fun hm=>?_) (fun hm=>?_)
 ·refine Qp (Qu (R_G (Qb 2 ?_)))
  obtain ⟨_,hl1208,hm⟩:=Qi hm
  replace hl1208:=YP hl1208
  obtain ⟨v1209,hx,hm⟩:=Qi hm
  refine ZB (v:=.ms 2 (gb v805 ([65536]:List Int).isEmpty) 0 v1209.length v1209.length) (fun H=>H.set 2 (.mt 3 (gb v805 ([65536]:List Int).isEmpty) (cellsOf Qj v1209))) rfl (by kernel_rfl) (fun _ hk=>Qfx Qj (l:=v806) (es:=([65536]:List Int)) (bytes:=8) (e:=3) (tt:=2) (g:=v805) (m:=v807) hx (fun _=>rfl) (by kernel_rfl) (by kernel_rfl) (by kernel_rfl) (by kernel_rfl) rfl rfl (by kernel_rfl) hl1208 (by kernel_rfl) (by kernel_rfl) hk) ?_
  refine Qb 1 (Qf ?_)
  exact QaC _ _ hm _ (prune_of2 [(.box [(La p0)]),Qv,(.mt 3 (gb v805 ([65536]:List Int).isEmpty) (cellsOf Qj v1209))] (fun _=>(pg_cons (by kernel_rfl) (pg_cons (by kernel_rfl) (pg_cons (purge_mt Qj _ _ _ _ _) pg_nil)))) rfl)
 refine Q7 ?_
 obtain rfl:=Qs hm
 exact ⟨rfl,Qr⟩
def ZA (x:((List Int) × (List Int) × Nat × (List Int) × Nat × Int)):Option ((Nat × (List Int) × Nat)) :=
 match x with
 | (p0,p1,v201,v202,v203,v204) =>
 if v204 < (p0.length:Int) then
  idx p0 v204>>=fun v604 =>
  ZY (v604,p1,v204,p0,v201,v202,v203)>>=fun ((v1205,v1206,v1207):(Nat × (List Int) × Nat)) =>
  YI (v1206.length=v1207)>>=fun (_:Unit) =>
  idx v1206 v604>>=fun v1210 =>
  idx v1206 v604>>=fun v1212 =>
  idx p1 v204>>=fun v1213 =>
  YI (v1206.length=v1207)>>=fun (_:Unit) =>
  idx v1206 v604>>=fun v1214 =>
  setM v1206 v604 (if v1213 < v1212 then v1213 else v1212)>>=fun v1216 =>
  ZA (p0,p1,v1205,v1216,v1207,(W (v204+1)))
 else
 some (v201,v202,v203)
 partial_fixpoint
def QbI:((List Int) × (List Int) × Nat × (List Int) × Nat × Int)→(Nat × (List Int) × Nat)→Prop:=fun x r=>match x with
 | (p0,p1,v201,v202,v203,v204)=>∀ st,prune 3 ((QB (QJ [1,1,0,1,0,0] (QO f116))).bind (env.hint 116).keepAt) st=⟨kp 43 [(1,(La p1)),(2,(.ptr 0 0)),(4,(.ptr 1 0)),(6,(.ms 2 v201 0 v203 v203)),(9,(La p0)),(10,(Qe (p0.length:Int))),(11,(Qe v204))],[(.box [(La p0)]),Qv,(.mt 3 v201 (cellsOf Qj v202))]⟩ →
  RL prog env (env.hint 116) true (QJ [1,1,0,1,0,0] (QO f116)) 3 st (fun e s=>match r with|(v601,v602,v603)=>e=.exit 0∧∃ d,s=⟨sl d 43 [(1,(La p1)),(2,(.ptr 0 0)),(4,(.ptr 1 0)),(6,(.ms 2 v601 0 v603 v603))],[(.box [(La p0)]),Qv,(.mt 3 v601 (cellsOf Qj v602))]⟩)
theorem QaB:∀ x r,ZA x=some r→QbI x r:=by
 refine ZA.partial_correctness _ (fun ZA QaB x r hm=>?_)
 unfold QbI
 obtain ⟨p0,p1,v201,v202,v203,v204⟩:=x
 intro st hst
 refine RL_at hst ?_
 clear hst
 refine Qd (R_G (Qb 1 (Qf (Qd ?_))))
 refine Qx hm (rfl) (fun hm=>?_) (fun hm=>?_)
 ·refine Qp (Qd (Qu (Qd (R_G (Qb 1 ?_)))))
  refine Zt 1 Qj hm rfl (fun _=>rfl) (fun v604 hm=>?_)
  refine Qb 3 (Qf (Qd (Qu ?_)))
  obtain ⟨⟨v1205,v1206,v1207⟩,hs,hm⟩:=Qi hm
  refine Za ?_
  refine RL_use (QaC _ _ hs) (prune_of2 [(.box [(La p0)]),Qv,(.mt 3 v201 (cellsOf Qj v202))] (fun _=>(pg_cons (by kernel_rfl) (pg_cons (by kernel_rfl) (pg_cons (purge_mt Qj _ _ _ _ _) pg_nil)))) rfl) ?_
  clear hs
  intro e s hp
  obtain ⟨rfl,d,rfl⟩:=hp
  refine Qbt ?_
  refine Qb 4 ?_
  obtain ⟨_,hl1211,hm⟩:=Qi hm
  replace hl1211:=YP hl1211
  obtain ⟨v1210,hx,hm⟩:=Qi hm
  refine Zq rfl (fun _=>Qeg (e:=3) (n:=v604) (j:=(v604).toNat) (tt:=2) (g:=v1205) (lo:=0) (len:=v1207) (cap:=v1207) (k:=.i64) (by kernel_rfl) (by kernel_rfl) rfl (by kernel_rfl) (by kernel_rfl) (idx_nat hx) (Nat.lt_of_lt_of_eq (idx_lt hx) hl1211)) ?_
  obtain ⟨v1212,hx,hm⟩:=Qi hm
  refine Zq rfl (fun _=>QfX (tt:=2) (g:=v1205) (j:=(0+(v604).toNat)) (e:=3) (cs:=cellsOf Qj v1206) (v:=.dat (Qj v1212)) (by kernel_rfl) (by kernel_rfl) rfl (by kernel_rfl) (ZD (by kernel_rfl)) (cells_idx Qj hx)) ?_
  refine Qb 2 ?_
  refine Zt 1 Qj hm rfl (fun _=>rfl) (fun v1213 hm=>?_)
  refine Qb 1 ?_
  refine Zq rfl (fun _=>Qgh (k:=.i64) (m:=v1212) (n:=v1213) rfl (by kernel_rfl) (by kernel_rfl)) ?_
  obtain ⟨_,hl1215,hm⟩:=Qi hm
  replace hl1215:=YP hl1215
  obtain ⟨v1214,hx,hm⟩:=Qi hm
  refine Zq rfl (fun _=>Qeg (e:=3) (n:=v604) (j:=(v604).toNat) (tt:=2) (g:=v1205) (lo:=0) (len:=v1207) (cap:=v1207) (k:=.i64) (by kernel_rfl) (by kernel_rfl) rfl (by kernel_rfl) (by kernel_rfl) (idx_nat hx) (Nat.lt_of_lt_of_eq (idx_lt hx) hl1215)) ?_
  obtain ⟨v1216,hx,hm⟩:=Qi hm
  refine ZB (fun H=>H.set 2 (.mt 3 v1205 (cellsOf Qj v1216))) rfl (by kernel_rfl) (fun _=>Qf1 Qj (l:=v1206) (n:=v604) (y:=(if v1213 < v1212 then v1213 else v1212)) hx (fun _=>rfl) (by kernel_rfl) rfl (by kernel_rfl) (by kernel_rfl) (by kernel_rfl) (by kernel_rfl)) ?_
  refine Qf ⟨by kernel_rfl,?_⟩
  refine R_G (Qb 2 (Qf ?_))
  exact QaB _ _ hm _ (prune_of2 [(.box [(La p0)]),Qv,(.mt 3 v1205 (cellsOf Qj v1216))] (fun _=>(pg_cons (by kernel_rfl) (pg_cons (by kernel_rfl) (pg_cons (purge_mt Qj _ _ _ _ _) pg_nil)))) rfl)
 refine Q7 ?_
 obtain rfl:=Qs hm
 exact ⟨rfl,Qr⟩
def XA (x:((List Int) × (List Int))):Option (Qm × Int) :=
 match x with
 | (p0,p1) =>
 ZA (p0,p1,0,([]:List Int),([]:List Int).length,0)>>=fun ((v601,v602,v603):(Nat × (List Int) × Nat)) =>
 (
 JF (p1,v601,v602,v603,p0)>>=fun (out:Int ⊕ ((List Int) × (List Int))) =>
 match out with
 | .inl v1217 =>
  some ((⟨([]:(List Int)),([]:(List Int)),([]:(List Int)),([]:(List Int)),0,0,([]:(List Int))⟩:Qm),v1217)
 | .inr ((v1218,v1219)) =>
  some ((⟨([]:(List Int)),v1218,v1219,([]:(List Int)),(-1),0,p0⟩:Qm),0)
 )
def QcN:((List Int) × (List Int))→(Qm × Int)→Prop:=fun x r=>match x,r with
 | (p0,p1),(r0,r1)=>∀ H,PC prog env 116 ([(Lb p0),(Lb p1)].map .dat) H (.tup [(.dat (Qm.toD r0)),(Qe r1)]) H
theorem QcR:∀ x r,XA x=some r→QcN x r:=by
 intro x r hm
 unfold XA at hm
 unfold QcN
 obtain ⟨p0,p1⟩:=x
 obtain ⟨r0,r1⟩:=r
 intro H
 refine PC_sx (ds:=[(Lb p0),(Lb p1)]) (fn:=f116) rfl ?_
 refine Qd (R_G (Qb 3 (Qf (Qd (R_G (Qb 1 (Qf (Qd (Qd (R_G (Qb 1 ?_)))))))))))
 refine QV Qj p0 (es:=(List.map Qj) p0) rfl ?_
 refine Qb 1 (Qf (Qu ?_))
 obtain ⟨⟨v601,v602,v603⟩,hs,hm⟩:=Qi hm
 refine Za ?_
 refine RL_use (QaB _ _ hs) (prune_of2 [(.box [(La p0)]),Qv,(.mt 3 0 (cellsOf Qj ([]:List Int)))] (fun _=>(pg_cons (by kernel_rfl) (pg_cons (by kernel_rfl) (pg_cons (purge_mt Qj _ _ _ _ _) pg_nil)))) rfl) ?_
 clear hs
 intro e s hp
 obtain ⟨rfl,d,rfl⟩:=hp
 refine Qd (R_G (Qb 4 ?_))
 obtain ⟨out,hx,hm⟩:=Qi hm
 rcases out with v1217|⟨v1218,v1219⟩
 ·have hq:=Qb5 _ _ hx
  dsimp only [Jw] at hq
  refine QX hq ?_
  refine Qb 4 (Qf (Qo ?_))
  obtain ⟨rfl,rfl⟩:=Q8 hm
  exact ⟨trivial,Qk⟩
 ·have hq:=Qb5 _ _ hx
  dsimp only [Jw] at hq
  refine QX hq ?_
  refine Qb 4 (Qf (Qo ?_))
  obtain ⟨rfl,rfl⟩:=Q8 hm
  exact ⟨trivial,YO [(.agg [Ea,(.ms 5 1 0 v1218.length v1218.length),(.ms 6 1 0 v1219.length v1219.length),Ea,(Qe (-1)),(Qe 0),(La p0)]),(Qe 0)] (by kernel_rfl) (po_tup (ps_cons (p1_agg (pc_cons (by kernel_rfl) (pc_cons (pc_ms (e:=3) Qj v1218 rfl (fun _=>rfl) (by kernel_rfl)) (pc_cons (pc_ms (e:=3) Qj v1219 rfl (fun _=>rfl) (by kernel_rfl)) (pc_cons (by kernel_rfl) (pc_cons (by kernel_rfl) (pc_cons (by kernel_rfl) (pc_cons (by kernel_rfl) pc_nil)))))))) (ps_cons (by kernel_rfl) ps_nil)))⟩
def YK (x:((List Int) × (List Int) × Int)):Option ((List Int)) :=
 match x with
 | (p0,v201,v202) =>
 if v202 < (p0.length:Int) then
  app 8 v201 ([(W ((W ((p0.length:Int) - 1)) - v202))]:List Int)>>=fun v602 =>
  YK (p0,v602,(W (v202+1)))
 else
 some v201
 partial_fixpoint
def Qc3:((List Int) × (List Int) × Int)→(List Int)→Prop:=fun x r=>match x with
 | (p0,v201,v202)=>∀ st,prune 2 ((QB (QJ [1,1,0,1,0,0] (QO f81))).bind (env.hint 81).keepAt) st=⟨kp 25 [(0,(La p0)),(2,(.ptr 0 0)),(4,(.vec 1 ((List.map Qj) v201))),(7,(Qe (p0.length:Int))),(8,(Qe v202))],[Qv,(.tok 3 v201.length)]⟩ →
  RL prog env (env.hint 81) true (QJ [1,1,0,1,0,0] (QO f81)) 2 st (fun e s=>match r with|v601=>e=.exit 0∧∃ d,s=⟨sl d 25 [(0,(La p0)),(2,(.ptr 0 0)),(4,(.vec 1 ((List.map Qj) v601)))],[Qv,(.tok 3 v601.length)]⟩)
theorem QbS:∀ x r,YK x=some r→Qc3 x r:=by
 refine YK.partial_correctness _ (fun YK QbS x r hm=>?_)
 unfold Qc3
 obtain ⟨p0,v201,v202⟩:=x
 intro st hst
 refine RL_at hst ?_
 clear hst
 refine Qd (R_G (Qb 1 (Qf (Qd ?_))))
 refine Qx hm (rfl) (fun hm=>?_) (fun hm=>?_)
 ·refine Qp (Qd (Qu (Qd (R_G (Qb 2 (Qf (R_G (Qb 2 ?_))))))))
  refine QV Qj p0 (es:=(List.map Qj) p0) rfl ?_
  refine Qb 4 ?_
  obtain ⟨v602,hx,hm⟩:=Qi hm
  refine QcJ 3 1 8 1 Qj v201 ([(W ((W ((p0.length:Int) - 1)) - v202))]:List Int) v602 (xs:=(List.map Qj) v201) (es:=(List.map Qj) ([(W ((W ((p0.length:Int) - 1)) - v202))]:List Int)) (L:=(List.map Qj)) (fun _=>rfl) rfl rfl (fun _=>rfl) hx ?_
  refine Qb 1 (Qf (R_G (Qb 2 (Qf ?_))))
  exact QbS _ _ hm _ (by kernel_rfl)
 refine Q7 ?_
 obtain rfl:=Qs hm
 exact ⟨rfl,Qr⟩
def Qbp (x:(List Int)):Option (Qm × Int) :=
 match x with
 | p0 =>
 YK (p0,([]:List Int),0)>>=fun (v601:(List Int)) =>
 XA (v601,p0)>>=fun ((v603,v604):(Qm × Int)) =>
 some (v603,v604)
def Qeu:(List Int)→(Qm × Int)→Prop:=fun x r=>match x,r with
 | p0,(r0,r1)=>∀ H,PC prog env 81 ([(Lb p0)].map .dat) H (.tup [(.dat (Qm.toD r0)),(Qe r1)]) H
theorem Qfu:∀ x r,Qbp x=some r→Qeu x r:=by
 intro p0 r hm
 unfold Qbp at hm
 unfold Qeu
 obtain ⟨r0,r1⟩:=r
 intro H
 refine PC_sx (ds:=[(Lb p0)]) (fn:=f81) rfl ?_
 refine Qd (R_G (Qb 2 (Qf (Qd (R_G (Qb 1 (Qf (Qd (Qd (R_G (Qb 1 ?_)))))))))))
 refine QV Qj p0 (es:=(List.map Qj) p0) rfl ?_
 refine Qb 1 (Qf (Qu ?_))
 obtain ⟨v601,hs,hm⟩:=Qi hm
 refine Za ?_
 refine RL_use (QbS _ _ hs) (by kernel_rfl) ?_
 clear hs
 intro e s hp
 obtain ⟨rfl,d,rfl⟩:=hp
 refine Qd (R_G (Qb 2 ?_))
 obtain ⟨⟨v603,v604⟩,hx,hm⟩:=Qi hm
 have hq:=QcR _ _ hx []
 refine Qq hq ?_
 refine Qb 4 (Qf (Qo ?_))
 obtain ⟨rfl,rfl⟩:=Q8 hm
 exact ⟨trivial,Qk⟩
def YQ (x:(Qm × Qh)):Option Qh :=
 match x with
 | (p0,p1) =>
 some (⟨5,p0.shape,0,([]:(List Int)),0,0,p0.perm,([(⟨p1.kind,p1.shape,p1.buffer,p1.starts,p1.axis,p1.amount,p1.perm,p1.kids⟩:Qh)]:(List Qh))⟩:Qh)
def QbY:(Qm × Qh)→Qh→Prop:=fun x r=>match x,r with
 | (p0,p1),r0=>∀ H,PC prog env 82 ([(Qm.toD p0),(Qh.ex p1)].map .dat) H (.dat (Qh.ex r0)) H
theorem Qb3:∀ x r,YQ x=some r→QbY x r:=by
 intro x r0 hm
 unfold YQ at hm
 unfold QbY
 obtain ⟨p0,p1⟩:=x
 intro H
 refine PC_sx (ds:=[(Qm.toD p0),(Qh.ex p1)]) (fn:=f82) rfl ?_
 refine Qd (R_G (Qb 3 (Qf (Qd (R_G (Qb 8 (Qf (Qo ?_))))))))
 obtain rfl:=Qs hm
 exact ⟨trivial,Qk⟩
def JG (x:((List Int) × (List Int))):Option (Int ⊕ ((List Int) × (List Int))) :=
 match x with
 | (q0,q1) =>
 Zg q1>>=fun (v1:Int) =>
 if v1≠0 then
  some (Sum.inl v1)
 else
 Qy q0>>=fun v2 =>
 Qy q1>>=fun v3 =>
 some (Sum.inr (v2,v3))
def Jx:((List Int) × (List Int))→(Int ⊕ ((List Int) × (List Int)))→Prop:=fun x r=>match x with
 | (q0,q1)=>PC prog env 114 [(La q0),(La q1),(.dat (.lst []))] [Qv] (match r with|.inl v5001=>(.tup [(.dat (.agg [Eb,Eb,Eb,Eb,(Qj 0),(Qj 0),Eb])),(Qe v5001)])|.inr ((v5002,v5003))=>(.tup [(.agg [Ea,(.ms 2 1 0 v5002.length v5002.length),(.ms 3 1 0 v5003.length v5003.length),Ea,(Qe (-1)),(Qe 0),Ea]),(Qe 0)])) (match r with|.inl v5001=>[Qv,Qv]|.inr ((v5002,v5003))=>[Qv,(.box [Ea,(.ms 2 1 0 v5002.length v5002.length),(.ms 3 1 0 v5003.length v5003.length),Ea,(Qe (-1)),(Qe 0),Ea]),(.mt 3 1 (cellsOf Qj v5002)),(.mt 3 1 (cellsOf Qj v5003)),(.box [Ea,(.ms 2 1 0 v5002.length v5002.length),(.ms 3 1 0 v5003.length v5003.length),Ea,(Qe (-1)),(Qe 0),Ea])])
theorem Qb6:∀ x r,JG x=some r→Jx x r:=by
 intro x r hm
 unfold JG at hm
 unfold Jx
 obtain ⟨q0,q1⟩:=x
 refine PC_sxB (fn:=f114) rfl ?_
 refine Qd (R_G (Qb 2 (Qf (Qd (Qd (R_G (Qb 1 ?_)))))))
 obtain ⟨v1,hx,hm⟩:=Qi hm
 have hq:=ZJ _ _ hx []
 refine Qq hq ?_
 refine Qb 1 (Qf (Qd (R_G (Qb 2 (Qf ?_)))))
 refine Qx hm (ne_dec _ _) (fun hm=>?_) (fun hm=>?_)
 ·refine Qd (R_G (Qb 4 (Qf (Qo ?_))))
  obtain rfl:=Qs hm
  exact ⟨trivial,QK (by kernel_rfl) (by kernel_rfl)⟩
 refine Qp (Qd (R_G (Qb 1 ?_)))
 obtain ⟨v2,hx,hm⟩:=Qi hm
 have hq:=QF _ _ hx
 dsimp only [QA] at hq
 have hl9:mtOf [Blk.mt 3 (cgm_slices_Clone_int_int v2) (cellsOf Qj v2)] 0=some (3,cgm_slices_Clone_int_int v2,cellsOf Qj v2):=ZD (by kernel_rfl)
 refine ZB (v:=.ms 2 1 0 v2.length v2.length) (fun H=>H++[.mt 3 1 (cellsOf Qj v2)]) rfl (by kernel_rfl) ?_ ?_
 ·intro K hk
  refine Zp 2 (first:=#[]) (cap:=#[]) (j:=(0,3)) (ow':=[]) (f0:=Qj) (l:=v2) rfl ?_ ?_ ?_ (ds:=[.lst ((List.map Qj) q0)]) ?_ hq hl9 ?_ ?_ ?_
  ·kernel_rfl
  ·kernel_rfl
  ·kernel_rfl
  ·kernel_rfl
  ·exact hk
  ·kernel_rfl
  ·decide
 refine Qb 1 ?_
 obtain ⟨v3,hx,hm⟩:=Qi hm
 have hq:=QF _ _ hx
 dsimp only [QA] at hq
 have hl9:mtOf [Blk.mt 3 (cgm_slices_Clone_int_int v3) (cellsOf Qj v3)] 0=some (3,cgm_slices_Clone_int_int v3,cellsOf Qj v3):=ZD (by kernel_rfl)
 refine ZB (v:=.ms 3 1 0 v3.length v3.length) (fun H=>H++[.mt 3 1 (cellsOf Qj v3)]) rfl (by kernel_rfl) ?_ ?_
 ·intro K hk
  refine Zp 3 (first:=#[]) (cap:=#[]) (j:=(0,3)) (ow':=[]) (f0:=Qj) (l:=v3) rfl ?_ ?_ ?_ (ds:=[.lst ((List.map Qj) q1)]) ?_ hq hl9 ?_ ?_ ?_
  ·kernel_rfl
  ·kernel_rfl
  ·kernel_rfl
  ·kernel_rfl
  ·exact hk
  ·kernel_rfl
  ·decide
 refine Qb 3 (Qf (Qd (Qd (R_G (Qb 1 (Qb 1 (Qb 1 (Qf (Qu ?_)))))))))
 refine Za ?_
 refine RL_at (st':=⟨kp 33 [(6,(.ptr 1 0)),(9,(.ptr 4 0)),(23,(.dat (.lst []))),(24,(Qe 0)),(25,(Qe 0))],[Qv,Qv,(.mt 3 1 (cellsOf Qj v2)),(.mt 3 1 (cellsOf Qj v3)),(.box [Ea,(.ms 2 1 0 v2.length v2.length),(.ms 3 1 0 v3.length v3.length),Ea,(Qe (-1)),(Qe 0),Ea])]⟩) (prune_of2 [Qv,Qv,(.mt 3 1 (cellsOf Qj v2)),(.mt 3 1 (cellsOf Qj v3)),(.box [Ea,(.ms 2 1 0 v2.length v2.length),(.ms 3 1 0 v3.length v3.length),Ea,(Qe (-1)),(Qe 0),Ea])] (fun _=>(pg_cons (by kernel_rfl) (pg_cons (by kernel_rfl) (pg_cons (purge_mt Qj _ _ _ _ _) (pg_cons (purge_mt Qj _ _ _ _ _) (pg_cons (by kernel_rfl) pg_nil)))))) rfl) ?_
 refine Qd (R_G (Qb 1 (Qf (Qd ?_))))
 refine YN (by kernel_rfl) ?_
 refine Q7 (Qd (R_G (Qb 3 (Qf (Qo ?_)))))
 obtain rfl:=Qs hm
 exact ⟨trivial,QK (by kernel_rfl) (by kernel_rfl)⟩
def QaV (x:(List Int)):Option (Qm × Int) :=
 match x with
 | p0 =>
 Jq p0>>=fun (v1:Int) =>
 (
 JG (p0,([v1]:List Int))>>=fun (out:Int ⊕ ((List Int) × (List Int))) =>
 match out with
 | .inl v2 =>
  some ((⟨([]:(List Int)),([]:(List Int)),([]:(List Int)),([]:(List Int)),0,0,([]:(List Int))⟩:Qm),v2)
 | .inr ((v3,v4)) =>
  some ((⟨([]:(List Int)),v3,v4,([]:(List Int)),(-1),0,([]:(List Int))⟩:Qm),0)
 )
def Qd6:(List Int)→(Qm × Int)→Prop:=fun x r=>match x,r with
 | p0,(r0,r1)=>∀ H,PC prog env 83 ([(Lb p0)].map .dat) H (.tup [(.dat (Qm.toD r0)),(Qe r1)]) H
theorem Qfb:∀ x r,QaV x=some r→Qd6 x r:=by
 intro p0 r hm
 unfold QaV at hm
 unfold Qd6
 obtain ⟨r0,r1⟩:=r
 intro H
 refine PC_sx (ds:=[(Lb p0)]) (fn:=f83) rfl ?_
 refine Qd (R_G (Qb 2 (Qf (Qd (R_G (Qb 2 ?_))))))
 obtain ⟨v1,hx,hm⟩:=Qi hm
 have hq:=QdT _ _ hx []
 refine Qq hq ?_
 refine Qb 1 ?_
 obtain ⟨out,hx,hm⟩:=Qi hm
 rcases out with v2|⟨v3,v4⟩
 ·have hq:=Qb6 _ _ hx
  dsimp only [Jx] at hq
  refine QX hq ?_
  refine Qb 4 (Qf (Qo ?_))
  obtain ⟨rfl,rfl⟩:=Q8 hm
  exact ⟨trivial,Qk⟩
 ·have hq:=Qb6 _ _ hx
  dsimp only [Jx] at hq
  refine QX hq ?_
  refine Qb 4 (Qf (Qo ?_))
  obtain ⟨rfl,rfl⟩:=Q8 hm
  exact ⟨trivial,YO [(.agg [Ea,(.ms 2 1 0 v3.length v3.length),(.ms 3 1 0 v4.length v4.length),Ea,(Qe (-1)),(Qe 0),Ea]),(Qe 0)] (by kernel_rfl) (po_tup (ps_cons (p1_agg (pc_cons (by kernel_rfl) (pc_cons (pc_ms (e:=3) Qj v3 rfl (fun _=>rfl) (by kernel_rfl)) (pc_cons (pc_ms (e:=3) Qj v4 rfl (fun _=>rfl) (by kernel_rfl)) (pc_cons (by kernel_rfl) (pc_cons (by kernel_rfl) (pc_cons (by kernel_rfl) (pc_cons (by kernel_rfl) pc_nil)))))))) (ps_cons (by kernel_rfl) ps_nil)))⟩
def YY (x:(Qh × (List Int))):Option Qh :=
 match x with
 | (p0,p1) =>
 some (⟨6,p1,0,([]:(List Int)),0,0,([]:(List Int)),([(⟨p0.kind,p0.shape,p0.buffer,p0.starts,p0.axis,p0.amount,p0.perm,p0.kids⟩:Qh)]:(List Qh))⟩:Qh)
def QcK:(Qh × (List Int))→Qh→Prop:=fun x r=>match x,r with
 | (p0,p1),r0=>∀ H,PC prog env 84 ([(Qh.ex p0),(Lb p1)].map .dat) H (.dat (Qh.ex r0)) H
theorem Qbu:∀ x r,YY x=some r→QcK x r:=by
 intro x r0 hm
 unfold YY at hm
 unfold QcK
 obtain ⟨p0,p1⟩:=x
 intro H
 refine PC_sx (ds:=[(Qh.ex p0),(Lb p1)]) (fn:=f84) rfl ?_
 refine Qd (R_G (Qb 2 (Qf (Qd (R_G (Qb 5 (Qf (Qo ?_))))))))
 obtain rfl:=Qs hm
 exact ⟨trivial,Qk⟩
def QaS (x:(Qc × Qh)):Option (Qh × Int) :=
 match x with
 | (p0,p1) =>
 if p0.fn=3 then
  JV (p0.axis,p1.shape)>>=fun ((v1,v2):(Qm × Int)) =>
  Jm (3,v1,p1)>>=fun (v3:Qh) =>
  some (v3,v2)
 else
 if p0.fn=4 then
  Qbp p1.shape>>=fun ((v4,v5):(Qm × Int)) =>
  YQ (v4,p1)>>=fun (v6:Qh) =>
  some (v6,v5)
 else
 QaV p1.shape>>=fun ((v7,v8):(Qm × Int)) =>
 YY ((⟨p1.kind,p1.shape,p1.buffer,p1.starts,p1.axis,p1.amount,p1.perm,p1.kids⟩:Qh),v7.shape)>>=fun (v9:Qh) =>
 some (v9,v8)
def Qd1:(Qc × Qh)→(Qh × Int)→Prop:=fun x r=>match x,r with
 | (p0,p1),(r0,r1)=>∀ H,PC prog env 52 ([(Qc.ex p0),(Qh.ex p1)].map .dat) H (.tup [(.dat (Qh.ex r0)),(Qe r1)]) H
theorem Qe8:∀ x r,QaS x=some r→Qd1 x r:=by
 intro x r hm
 unfold QaS at hm
 unfold Qd1
 obtain ⟨p0,p1⟩:=x
 obtain ⟨r0,r1⟩:=r
 intro H
 refine PC_sx (ds:=[(Qc.ex p0),(Qh.ex p1)]) (fn:=f52) rfl ?_
 refine Qd (R_G (Qb 4 (Qf (Qd (Qd (R_G (Qb 2 (Qf (Qu (Qd (R_G ?_)))))))))))
 refine Qb 2 (Qf ?_)
 refine Qx hm (ZW _ _) (fun hm=>?_) (fun hm=>?_)
 ·refine Qd (R_G (Qb 4 ?_))
  obtain ⟨⟨v1,v2⟩,hx,hm⟩:=Qi hm
  have hq:=QeQ _ _ hx []
  refine Qq hq ?_
  refine Qb 6 (Qf (Qd (R_G (Qb 2 ?_))))
  obtain ⟨v3,hx,hm⟩:=Qi hm
  have hq:=QdN _ _ hx []
  refine Qq hq ?_
  refine Qb 3 (Qf (Qo ?_))
  obtain ⟨rfl,rfl⟩:=Q8 hm
  exact ⟨trivial,Qk⟩
 refine Qd (R_G (Qb 2 (Qf ?_)))
 refine Qx hm (ZW _ _) (fun hm=>?_) (fun hm=>?_)
 ·refine Qd (R_G (Qb 2 ?_))
  obtain ⟨⟨v4,v5⟩,hx,hm⟩:=Qi hm
  have hq:=Qfu _ _ hx []
  refine Qq hq ?_
  refine Qb 6 (Qf (Qd (R_G (Qb 2 ?_))))
  obtain ⟨v6,hx,hm⟩:=Qi hm
  have hq:=Qb3 _ _ hx []
  refine Qq hq ?_
  refine Qb 3 (Qf (Qo ?_))
  obtain ⟨rfl,rfl⟩:=Q8 hm
  exact ⟨trivial,Qk⟩
 refine Qp (Qd (R_G (Qb 2 ?_)))
 obtain ⟨⟨v7,v8⟩,hx,hm⟩:=Qi hm
 have hq:=Qfb _ _ hx []
 refine Qq hq ?_
 refine Qb 6 (Qf (Qd (R_G (Qb 3 ?_))))
 obtain ⟨v9,hx,hm⟩:=Qi hm
 have hq:=Qbu _ _ hx []
 refine Qq hq ?_
 refine Qb 3 (Qf (Qo ?_))
 obtain ⟨rfl,rfl⟩:=Q8 hm
 exact ⟨trivial,Qk⟩
def Xp (x:Unit):Option (Unit) :=
 match x with
 | _ =>
 some ()
def Qaz:Unit→Unit→Prop:=fun x r=>match x with
 | _=>PC prog env 53 [] [] (match r with|_=>(.mapv 0)) (match r with|_=>[(.map [(.bool true,(.dat (.raw (.func (.func 85) #[] #[])))),(.bool false,(.dat (.raw (.func (.func 86) #[] #[]))))])])
theorem QdY:∀ x r,Xp x=some r→Qaz x r:=by
 intro x r hm
 unfold Xp at hm
 unfold Qaz
 refine PC_sxB (fn:=f53) rfl ?_
 refine Qd (R_G (Qb 1 (Qf (Qd (R_G (Qb 1 (Qb 1 (Qb 1 (Qb 2 (Qf (Qo ?_)))))))))))
 obtain rfl:=Qs hm
 exact ⟨trivial,QK (by kernel_rfl) (by kernel_rfl)⟩
def QaG (x:Int):Option Int :=
 match x with
 | p0 =>
 some p0
def Qey:Int→Int→Prop:=fun x r=>match x,r with
 | p0,v5001=>∀ H,PC prog env 175 ([(Qj p0)].map .dat) H (.fn 182 [(.iptr [(Qj v5001)])]) H
theorem QeA:∀ x r,QaG x=some r→Qey x r:=by
 intro p0 v5001 hm
 unfold QaG at hm
 unfold Qey
 intro H
 refine PC_sx (ds:=[(Qj p0)]) (fn:=f175) rfl ?_
 refine Qd (R_G (Qb 2 (Qf (Qd (R_G (Qb 2 (Qf (Qo ?_))))))))
 obtain rfl:=Qs hm
 exact ⟨trivial,Qk⟩
def Yy (x:Int):Option (Unit) :=
 match x with
 | q0 =>
 some ()
def XQ:Int→Unit→Prop:=fun x r=>match x with
 | q0=>PC prog env 182 [(.iptr [(Qj q0)])] [] (match r with|_=>(La ([q0]:List Int))) (match r with|_=>[])
theorem Qbz:∀ x r,Yy x=some r→XQ x r:=by
 intro q0 r hm
 unfold Yy at hm
 unfold XQ
 refine PC_sxB (fn:=f182) rfl ?_
 refine Qd (R_G (Qb 1 (Qf (Qd (R_G (Qb 3 (Qf (Qo ?_))))))))
 obtain rfl:=Qs hm
 exact ⟨trivial,QK (by kernel_rfl) (by kernel_rfl)⟩
def YG (x:((List Int) × Int × Int)):Option (((List Int) × Int)) :=
 match x with
 | (q0,q1,q2) =>
 ((if q1 < 0 then
  some true
 else
 some (decide (q1 > (q0.length:Int)))
 )>>=fun (v2:Bool) =>
 if v2=true then
  some true
 else
 some (decide (q1 > q1))
 )>>=fun (v1:Bool) =>
 if v1=true then
  some (([]:List Int),4)
 else
 sub q0 0 q1>>=fun v3 =>
 Yy q2>>=fun (_:Unit) =>
 sub q0 q1 (q0.length:Int)>>=fun v4 =>
 ZV ([v3,([q2]:List Int),v4]:List (List Int))>>=fun (v5:(List Int)) =>
 some (v5,0)
def XL:((List Int) × Int × Int)→((List Int) × Int)→Prop:=fun x r=>match x with
 | (q0,q1,q2)=>PC prog env 174 [(La q0),(Qe q1),(Qe q1),(.fn 182 [(.iptr [(Qj q2)])])] [] (match r with|(v5001,v5002)=>(.tup [(La v5001),(Qe v5002)])) (match r with|(v5001,v5002)=>[])
theorem Qcf:∀ x r,YG x=some r→XL x r:=by
 intro x r hm
 unfold YG at hm
 unfold XL
 obtain ⟨q0,q1,q2⟩:=x
 refine PC_sxB (fn:=f174) rfl ?_
 refine Qd (R_G (Qb 2 (Qf (Qd (Qd ?_)))))
 obtain ⟨v1,hs,hm⟩:=Qi hm
 refine Xc (fun d=>⟨sl d 33 [(0,(La q0)),(1,(Qe q1)),(2,(Qe q1)),(3,(.fn 182 [(.iptr [(Qj q2)])])),(22,(Qn v1))],[]⟩) ?_ (fun d=>?_)
 ·replace hm:=hs
  clear hs
  refine Qcx ?_
  refine Qb 3 ?_
  obtain ⟨v2,hs,hm⟩:=Qi hm
  refine Y1 (j:=8) (fun d=>⟨sl d 33 [(0,(La q0)),(1,(Qe q1)),(2,(Qe q1)),(3,(.fn 182 [(.iptr [(Qj q2)])])),(17,(Qn v2))],[]⟩) (fun d=>?_) (fun hJ=>?_)
  ·clear hs
   refine Qb 1 ?_
   refine Qz 18 hm (QG _) (fun hm=>?_) (fun hm=>?_)
   ·refine Qb 4 ?_
    refine Qf ⟨by kernel_rfl,?_⟩
    obtain rfl:=Qs hm
    exact Qr
   refine Qb 4 ?_
   refine Qf ⟨by kernel_rfl,?_⟩
   obtain rfl:=Qs hm
   exact Qr
  clear hm
  refine Qz 12 hs (rfl) (fun hm=>?_) (fun hm=>?_)
  ·refine Qb 5 ?_
   obtain rfl:=Qs hm
   exact hJ _ _
  refine Qb 2 ?_
  refine QV Qj q0 (es:=(List.map Qj) q0) rfl ?_
  refine Qb 2 ?_
  obtain rfl:=Qs hm
  exact hJ _ _
 clear hs
 refine Qx hm (QG _) (fun hm=>?_) (fun hm=>?_)
 ·refine Qd (R_G (Qb 2 (Qf (Qo ?_))))
  obtain rfl:=Qs hm
  exact ⟨trivial,QK (by kernel_rfl) (by kernel_rfl)⟩
 refine Qp (Qd ?_)
 refine Qbt ?_
 refine Qb 2 ?_
 obtain ⟨v3,hx,hm⟩:=Qi hm
 refine Qe7 1 Qj q0 v3 0 q1 (es:=(List.map Qj) q0) (L:=(List.map Qj)) (a:=natI 0) (b:=natI q1) (fun _=>rfl) rfl (fun _=>by first|rfl|exact num_of_fit ((fun _=>rfl) _)) hx rfl (Or.inl rfl) ?_
 refine Qb 1 ?_
 obtain ⟨_,hx,hm⟩:=Qi hm
 have hq:=Qbz _ _ hx
 dsimp only [XQ] at hq
 refine QX hq ?_
 refine Qb 2 ?_
 obtain ⟨v4,hx,hm⟩:=Qi hm
 refine Qe7 1 Qj q0 v4 q1 (q0.length:Int) (es:=(List.map Qj) q0) (L:=(List.map Qj)) (a:=natI q1) (b:=some ((List.map Qj) q0).length) (fun _=>rfl) rfl (fun _=>by first|rfl|exact num_of_fit ((fun _=>rfl) _)) hx rfl (Or.inr ⟨rfl,rfl⟩) ?_
 refine Qb 1 ?_
 obtain ⟨v5,hx,hm⟩:=Qi hm
 have hq:=X5 _ _ hx []
 refine Qq hq ?_
 refine Qb 2 ?_
 refine Qf ⟨by kernel_rfl,?_⟩
 refine Qo ?_
 obtain rfl:=Qs hm
 exact ⟨trivial,QK (by kernel_rfl) (by kernel_rfl)⟩
def J0 (x:((List Int) × Int × Int)):Option ((List Int) × Int) :=
 match x with
 | (p0,p1,p2) =>
 QaG p2>>=fun (v1:Int) =>
 YG (p0,p1,v1)>>=fun ((v2,v3):((List Int) × Int)) =>
 some (v2,v3)
def Qc9:((List Int) × Int × Int)→((List Int) × Int)→Prop:=fun x r=>match x,r with
 | (p0,p1,p2),(r0,r1)=>∀ H,PC prog env 156 ([(Lb p0),(Qj p1),(Qj p2)].map .dat) H (.tup [(La r0),(Qe r1)]) H
theorem QeS:∀ x r,J0 x=some r→Qc9 x r:=by
 intro x r hm
 unfold J0 at hm
 unfold Qc9
 obtain ⟨p0,p1,p2⟩:=x
 obtain ⟨r0,r1⟩:=r
 intro H
 refine PC_sx (ds:=[(Lb p0),(Qj p1),(Qj p2)]) (fn:=f156) rfl ?_
 refine Qd (R_G (Qb 2 (Qf (Qd (R_G (Qb 4 ?_))))))
 obtain ⟨v1,hx,hm⟩:=Qi hm
 have hq:=QeA _ _ hx []
 refine Qq hq ?_
 obtain ⟨⟨v2,v3⟩,hx,hm⟩:=Qi hm
 have hq:=Qcf _ _ hx
 dsimp only [XL] at hq
 refine QX hq ?_
 refine Qb 4 (Qf (Qo ?_))
 obtain ⟨rfl,rfl⟩:=Q8 hm
 exact ⟨trivial,Qk⟩
def YH (x:((List Int) × Int × Int × Int)):Option (((List Int) × Int)) :=
 match x with
 | (q0,q1,q2,q3) =>
 ((if q1 < 0 then
  some true
 else
 some (decide (q2 > (q0.length:Int)))
 )>>=fun (v2:Bool) =>
 if v2=true then
  some true
 else
 some (decide (q1 > q2))
 )>>=fun (v1:Bool) =>
 if v1=true then
  some (([]:List Int),4)
 else
 sub q0 0 q1>>=fun v3 =>
 Yy q3>>=fun (_:Unit) =>
 sub q0 q2 (q0.length:Int)>>=fun v4 =>
 ZV ([v3,([q3]:List Int),v4]:List (List Int))>>=fun (v5:(List Int)) =>
 some (v5,0)
def XM:((List Int) × Int × Int × Int)→((List Int) × Int)→Prop:=fun x r=>match x with
 | (q0,q1,q2,q3)=>PC prog env 174 [(La q0),(Qe q1),(Qe q2),(.fn 182 [(.iptr [(Qj q3)])])] [] (match r with|(v5001,v5002)=>(.tup [(La v5001),(Qe v5002)])) (match r with|(v5001,v5002)=>[])
theorem Qcg:∀ x r,YH x=some r→XM x r:=by
 intro x r hm
 unfold YH at hm
 unfold XM
 obtain ⟨q0,q1,q2,q3⟩:=x
 refine PC_sxB (fn:=f174) rfl ?_
 refine Qd (R_G (Qb 2 (Qf (Qd (Qd ?_)))))
 obtain ⟨v1,hs,hm⟩:=Qi hm
 refine Xc (fun d=>⟨sl d 33 [(0,(La q0)),(1,(Qe q1)),(2,(Qe q2)),(3,(.fn 182 [(.iptr [(Qj q3)])])),(22,(Qn v1))],[]⟩) ?_ (fun d=>?_)
 ·replace hm:=hs
  clear hs
  refine Qcx ?_
  refine Qb 3 ?_
  obtain ⟨v2,hs,hm⟩:=Qi hm
  refine Y1 (j:=8) (fun d=>⟨sl d 33 [(0,(La q0)),(1,(Qe q1)),(2,(Qe q2)),(3,(.fn 182 [(.iptr [(Qj q3)])])),(17,(Qn v2))],[]⟩) (fun d=>?_) (fun hJ=>?_)
  ·clear hs
   refine Qb 1 ?_
   refine Qz 18 hm (QG _) (fun hm=>?_) (fun hm=>?_)
   ·refine Qb 4 ?_
    refine Qf ⟨by kernel_rfl,?_⟩
    obtain rfl:=Qs hm
    exact Qr
   refine Qb 4 ?_
   refine Qf ⟨by kernel_rfl,?_⟩
   obtain rfl:=Qs hm
   exact Qr
  clear hm
  refine Qz 12 hs (rfl) (fun hm=>?_) (fun hm=>?_)
  ·refine Qb 5 ?_
   obtain rfl:=Qs hm
   exact hJ _ _
  refine Qb 2 ?_
  refine QV Qj q0 (es:=(List.map Qj) q0) rfl ?_
  refine Qb 2 ?_
  obtain rfl:=Qs hm
  exact hJ _ _
 clear hs
 refine Qx hm (QG _) (fun hm=>?_) (fun hm=>?_)
 ·refine Qd (R_G (Qb 2 (Qf (Qo ?_))))
  obtain rfl:=Qs hm
  exact ⟨trivial,QK (by kernel_rfl) (by kernel_rfl)⟩
 refine Qp (Qd ?_)
 refine Qbt ?_
 refine Qb 2 ?_
 obtain ⟨v3,hx,hm⟩:=Qi hm
 refine Qe7 1 Qj q0 v3 0 q1 (es:=(List.map Qj) q0) (L:=(List.map Qj)) (a:=natI 0) (b:=natI q1) (fun _=>rfl) rfl (fun _=>by first|rfl|exact num_of_fit ((fun _=>rfl) _)) hx rfl (Or.inl rfl) ?_
 refine Qb 1 ?_
 obtain ⟨_,hx,hm⟩:=Qi hm
 have hq:=Qbz _ _ hx
 dsimp only [XQ] at hq
 refine QX hq ?_
 refine Qb 2 ?_
 obtain ⟨v4,hx,hm⟩:=Qi hm
 refine Qe7 1 Qj q0 v4 q2 (q0.length:Int) (es:=(List.map Qj) q0) (L:=(List.map Qj)) (a:=natI q2) (b:=some ((List.map Qj) q0).length) (fun _=>rfl) rfl (fun _=>by first|rfl|exact num_of_fit ((fun _=>rfl) _)) hx rfl (Or.inr ⟨rfl,rfl⟩) ?_
 refine Qb 1 ?_
 obtain ⟨v5,hx,hm⟩:=Qi hm
 have hq:=X5 _ _ hx []
 refine Qq hq ?_
 refine Qb 2 ?_
 refine Qf ⟨by kernel_rfl,?_⟩
 refine Qo ?_
 obtain rfl:=Qs hm
 exact ⟨trivial,QK (by kernel_rfl) (by kernel_rfl)⟩
def Y0 (x:((List Int) × Int × Int)):Option ((List Int) × Int) :=
 match x with
 | (p0,p1,p2) =>
 if p1≥(p0.length:Int) then
  some (([]:(List Int)),4)
 else
 QaG p2>>=fun (v1:Int) =>
 YH (p0,p1,(W (p1+1)),v1)>>=fun ((v2,v3):((List Int) × Int)) =>
 some (v2,v3)
def QcO:((List Int) × Int × Int)→((List Int) × Int)→Prop:=fun x r=>match x,r with
 | (p0,p1,p2),(r0,r1)=>∀ H,PC prog env 157 ([(Lb p0),(Qj p1),(Qj p2)].map .dat) H (.tup [(La r0),(Qe r1)]) H
theorem QcS:∀ x r,Y0 x=some r→QcO x r:=by
 intro x r hm
 unfold Y0 at hm
 unfold QcO
 obtain ⟨p0,p1,p2⟩:=x
 obtain ⟨r0,r1⟩:=r
 intro H
 refine PC_sx (ds:=[(Lb p0),(Qj p1),(Qj p2)]) (fn:=f157) rfl ?_
 refine Qd (R_G (Qb 2 (Qf (Qd (Qd (R_G (Qb 2 ?_)))))))
 refine QV Qj p0 (es:=(List.map Qj) p0) rfl ?_
 refine Qb 1 (Qf ?_)
 refine Qx hm (rfl) (fun hm=>?_) (fun hm=>?_)
 ·refine Qd (R_G (Qb 2 (Qf (Qo ?_))))
  obtain ⟨rfl,rfl⟩:=Q8 hm
  exact ⟨trivial,Qk⟩
 refine Qp (Qd (R_G (Qb 5 ?_)))
 obtain ⟨v1,hx,hm⟩:=Qi hm
 have hq:=QeA _ _ hx []
 refine Qq hq ?_
 obtain ⟨⟨v2,v3⟩,hx,hm⟩:=Qi hm
 have hq:=Qcg _ _ hx
 dsimp only [XM] at hq
 refine QX hq ?_
 refine Qb 4 (Qf (Qo ?_))
 obtain ⟨rfl,rfl⟩:=Q8 hm
 exact ⟨trivial,Qk⟩
def ZZ (x:((List Int) × (List Int) × Int × Int)):Option ((List Int) × Int) :=
 match x with
 | (p0,p1,p2,p3) =>
 if (p0.length:Int)=p2 then
  Qy p0>>=fun v1 =>
  some (v1,0)
 else
 if (p0.length:Int)=(W (p2 - 1)) then
  J0 (p0,p3,1)>>=fun ((v2,v3):((List Int) × Int)) =>
  some (v2,v3)
 else
 if (p0.length:Int)=0 then
  Y0 (p1,p3,1)>>=fun ((v4,v5):((List Int) × Int)) =>
  some (v4,v5)
 else
 some (([]:(List Int)),4)
def Qc8:((List Int) × (List Int) × Int × Int)→((List Int) × Int)→Prop:=fun x r=>match x,r with
 | (p0,p1,p2,p3),(r0,r1)=>∀ H,PC prog env 138 ([(Lb p0),(Lb p1),(Qj p2),(Qj p3)].map .dat) H (.tup [(La r0),(Qe r1)]) H
theorem Qdl:∀ x r,ZZ x=some r→Qc8 x r:=by
 intro x r hm
 unfold ZZ at hm
 unfold Qc8
 obtain ⟨p0,p1,p2,p3⟩:=x
 obtain ⟨r0,r1⟩:=r
 intro H
 refine PC_sx (ds:=[(Lb p0),(Lb p1),(Qj p2),(Qj p3)]) (fn:=f138) rfl ?_
 refine Qd (R_G (Qb 2 (Qf (Qd (Qd (R_G (Qb 1 ?_)))))))
 refine QV Qj p0 (es:=(List.map Qj) p0) rfl ?_
 refine Qf (Qu (Qd (R_G (Qb 3 (Qf ?_)))))
 refine Qx hm (ZW _ _) (fun hm=>?_) (fun hm=>?_)
 ·refine Qd (R_G (Qb 1 ?_))
  obtain ⟨v1,hx,hm⟩:=Qi hm
  have hq:=QF _ _ hx
  dsimp only [QA] at hq
  have hl9:mtOf [Blk.mt 3 (cgm_slices_Clone_int_int v1) (cellsOf Qj v1)] 0=some (3,cgm_slices_Clone_int_int v1,cellsOf Qj v1):=ZD (by kernel_rfl)
  refine ZB (v:=.ms 0 1 0 v1.length v1.length) (fun H=>H++[.mt 3 1 (cellsOf Qj v1)]) rfl (by kernel_rfl) ?_ ?_
  ·intro K hk
   refine Zp 0 (first:=#[]) (cap:=#[]) (j:=(0,3)) (ow':=[]) (f0:=Qj) (l:=v1) rfl ?_ ?_ ?_ (ds:=[.lst ((List.map Qj) p0)]) ?_ hq hl9 ?_ ?_ ?_
   ·kernel_rfl
   ·kernel_rfl
   ·kernel_rfl
   ·kernel_rfl
   ·exact hk
   ·kernel_rfl
   ·decide
  refine Qb 2 (Qf (Qo ?_))
  obtain ⟨rfl,rfl⟩:=Q8 hm
  exact ⟨trivial,YO [(.ms 0 1 0 v1.length v1.length),(Qe 0)] (by kernel_rfl) (po_tup (ps_cons (p1_ms (pc_ms (e:=3) Qj v1 rfl (fun _=>rfl) (by kernel_rfl))) (ps_cons (by kernel_rfl) ps_nil)))⟩
 refine Qd (R_G (Qb 4 (Qf ?_)))
 refine Qx hm (ZW _ _) (fun hm=>?_) (fun hm=>?_)
 ·refine Qd (R_G (Qb 2 ?_))
  obtain ⟨⟨v2,v3⟩,hx,hm⟩:=Qi hm
  have hq:=QeS _ _ hx []
  refine Qq hq ?_
  refine Qb 4 (Qf (Qo ?_))
  obtain ⟨rfl,rfl⟩:=Q8 hm
  exact ⟨trivial,Qk⟩
 refine Qd (R_G (Qb 2 (Qf ?_)))
 refine Qx hm (ZW _ _) (fun hm=>?_) (fun hm=>?_)
 ·refine Qd (R_G (Qb 2 ?_))
  obtain ⟨⟨v4,v5⟩,hx,hm⟩:=Qi hm
  have hq:=QcS _ _ hx []
  refine Qq hq ?_
  refine Qb 4 (Qf (Qo ?_))
  obtain ⟨rfl,rfl⟩:=Q8 hm
  exact ⟨trivial,Qk⟩
 refine Qp (Qd (R_G (Qb 2 (Qf (Qo ?_)))))
 obtain ⟨rfl,rfl⟩:=Q8 hm
 exact ⟨trivial,Qk⟩
def J8 (x:Unit):Option (List Int) :=
 match x with
 | _ =>
 some ([]:(List Int))
def Qcn:Unit→(List Int)→Prop:=fun x r=>match x,r with
 | _,r0=>∀ H,PC prog env 176 ([].map .dat) H (La r0) H
theorem Qei:∀ x r,J8 x=some r→Qcn x r:=by
 intro x r0 hm
 unfold J8 at hm
 unfold Qcn
 intro H
 refine PC_sx (ds:=[]) (fn:=f176) rfl ?_
 refine Qd (R_G (Qb 1 (Qf (Qd (R_G (Qb 1 (Qf (Qo ?_))))))))
 obtain rfl:=Qs hm
 exact ⟨trivial,Qk⟩
def YF (x:((List Int) × Int × Int)):Option (((List Int) × Int)) :=
 match x with
 | (q0,q1,q2) =>
 ((if q1 < 0 then
  some true
 else
 some (decide (q2 > (q0.length:Int)))
 )>>=fun (v2:Bool) =>
 if v2=true then
  some true
 else
 some (decide (q1 > q2))
 )>>=fun (v1:Bool) =>
 if v1=true then
  some (([]:List Int),4)
 else
 sub q0 0 q1>>=fun v3 =>
 J8 ()>>=fun (v4:(List Int)) =>
 sub q0 q2 (q0.length:Int)>>=fun v5 =>
 ZV ([v3,v4,v5]:List (List Int))>>=fun (v6:(List Int)) =>
 some (v6,0)
def XK:((List Int) × Int × Int)→((List Int) × Int)→Prop:=fun x r=>match x with
 | (q0,q1,q2)=>PC prog env 174 [(La q0),(Qe q1),(Qe q2),(.dat (.raw (.func (.func 176) #[] #[])))] [] (match r with|(v5001,v5002)=>(.tup [(La v5001),(Qe v5002)])) (match r with|(v5001,v5002)=>[])
theorem Qce:∀ x r,YF x=some r→XK x r:=by
 intro x r hm
 unfold YF at hm
 unfold XK
 obtain ⟨q0,q1,q2⟩:=x
 refine PC_sxB (fn:=f174) rfl ?_
 refine Qd (R_G (Qb 2 (Qf (Qd (Qd ?_)))))
 obtain ⟨v1,hs,hm⟩:=Qi hm
 refine Xc (fun d=>⟨sl d 33 [(0,(La q0)),(1,(Qe q1)),(2,(Qe q2)),(3,(.dat (.raw (.func (.func 176) #[] #[])))),(22,(Qn v1))],[]⟩) ?_ (fun d=>?_)
 ·replace hm:=hs
  clear hs
  refine Qcx ?_
  refine Qb 3 ?_
  obtain ⟨v2,hs,hm⟩:=Qi hm
  refine Y1 (j:=8) (fun d=>⟨sl d 33 [(0,(La q0)),(1,(Qe q1)),(2,(Qe q2)),(3,(.dat (.raw (.func (.func 176) #[] #[])))),(17,(Qn v2))],[]⟩) (fun d=>?_) (fun hJ=>?_)
  ·clear hs
   refine Qb 1 ?_
   refine Qz 18 hm (QG _) (fun hm=>?_) (fun hm=>?_)
   ·refine Qb 4 ?_
    refine Qf ⟨by kernel_rfl,?_⟩
    obtain rfl:=Qs hm
    exact Qr
   refine Qb 4 ?_
   refine Qf ⟨by kernel_rfl,?_⟩
   obtain rfl:=Qs hm
   exact Qr
  clear hm
  refine Qz 12 hs (rfl) (fun hm=>?_) (fun hm=>?_)
  ·refine Qb 5 ?_
   obtain rfl:=Qs hm
   exact hJ _ _
  refine Qb 2 ?_
  refine QV Qj q0 (es:=(List.map Qj) q0) rfl ?_
  refine Qb 2 ?_
  obtain rfl:=Qs hm
  exact hJ _ _
 clear hs
 refine Qx hm (QG _) (fun hm=>?_) (fun hm=>?_)
 ·refine Qd (R_G (Qb 2 (Qf (Qo ?_))))
  obtain rfl:=Qs hm
  exact ⟨trivial,QK (by kernel_rfl) (by kernel_rfl)⟩
 refine Qp (Qd ?_)
 refine Qbt ?_
 refine Qb 2 ?_
 obtain ⟨v3,hx,hm⟩:=Qi hm
 refine Qe7 1 Qj q0 v3 0 q1 (es:=(List.map Qj) q0) (L:=(List.map Qj)) (a:=natI 0) (b:=natI q1) (fun _=>rfl) rfl (fun _=>by first|rfl|exact num_of_fit ((fun _=>rfl) _)) hx rfl (Or.inl rfl) ?_
 refine Qb 1 ?_
 obtain ⟨v4,hx,hm⟩:=Qi hm
 have hq:=Qei _ _ hx []
 refine Qq hq ?_
 refine Qb 2 ?_
 obtain ⟨v5,hx,hm⟩:=Qi hm
 refine Qe7 1 Qj q0 v5 q2 (q0.length:Int) (es:=(List.map Qj) q0) (L:=(List.map Qj)) (a:=natI q2) (b:=some ((List.map Qj) q0).length) (fun _=>rfl) rfl (fun _=>by first|rfl|exact num_of_fit ((fun _=>rfl) _)) hx rfl (Or.inr ⟨rfl,rfl⟩) ?_
 refine Qb 1 ?_
 obtain ⟨v6,hx,hm⟩:=Qi hm
 have hq:=X5 _ _ hx []
 refine Qq hq ?_
 refine Qb 2 ?_
 refine Qf ⟨by kernel_rfl,?_⟩
 refine Qo ?_
 obtain rfl:=Qs hm
 exact ⟨trivial,QK (by kernel_rfl) (by kernel_rfl)⟩
def YL (x:((List Int) × Int)):Option ((List Int) × Int) :=
 match x with
 | (p0,p1) =>
 if p1≥(p0.length:Int) then
  some (([]:(List Int)),4)
 else
 YF (p0,p1,(W (p1+1)))>>=fun ((v1,v2):((List Int) × Int)) =>
 some (v1,v2)
def Qda:((List Int) × Int)→((List Int) × Int)→Prop:=fun x r=>match x,r with
 | (p0,p1),(r0,r1)=>∀ H,PC prog env 158 ([(Lb p0),(Qj p1)].map .dat) H (.tup [(La r0),(Qe r1)]) H
theorem Qdm:∀ x r,YL x=some r→Qda x r:=by
 intro x r hm
 unfold YL at hm
 unfold Qda
 obtain ⟨p0,p1⟩:=x
 obtain ⟨r0,r1⟩:=r
 intro H
 refine PC_sx (ds:=[(Lb p0),(Qj p1)]) (fn:=f158) rfl ?_
 refine Qd (R_G (Qb 2 (Qf (Qd (Qd (R_G (Qb 2 ?_)))))))
 refine QV Qj p0 (es:=(List.map Qj) p0) rfl ?_
 refine Qb 1 (Qf ?_)
 refine Qx hm (rfl) (fun hm=>?_) (fun hm=>?_)
 ·refine Qd (R_G (Qb 2 (Qf (Qo ?_))))
  obtain ⟨rfl,rfl⟩:=Q8 hm
  exact ⟨trivial,Qk⟩
 refine Qp (Qd (R_G (Qb 4 ?_)))
 obtain ⟨⟨v1,v2⟩,hx,hm⟩:=Qi hm
 have hq:=Qce _ _ hx
 dsimp only [XK] at hq
 refine QX hq ?_
 refine Qb 4 (Qf (Qo ?_))
 obtain ⟨rfl,rfl⟩:=Q8 hm
 exact ⟨trivial,Qk⟩
def Q3 (x:((List Int) × (List Int) × Int)):Option (Unit ⊕ Unit) :=
 match x with
 | (p0,p1,v201) =>
 if v201 < (p0.length:Int) then
  idx p0 v201>>=fun v601 =>
  idx p1 v201>>=fun v602 =>
  if v601≠v602 then
   some (Sum.inl ())
  else
  Q3 (p0,p1,(W (v201+1)))
 else
 some (Sum.inr ())
 partial_fixpoint
def Qai:((List Int) × (List Int) × Int)→(Unit ⊕ Unit)→Prop:=fun x r=>match x with
 | (p0,p1,v201)=>∀ st,prune 0 ((QB (QJ [1,1,0,1,0,0] (QO f61))).bind (env.hint 61).keepAt) st=⟨kp 26 [(0,(La p0)),(1,(La p1)),(12,(Qe (p0.length:Int))),(13,(Qe v201))],[]⟩ →
  RL prog env (env.hint 61) true (QJ [1,1,0,1,0,0] (QO f61)) 0 st (fun e s=>match r with|.inl _=>e=.ret∧∃ d,s=⟨sl d 26 [(4,(Qn false))],[]⟩|.inr (_)=>e=.exit 0∧∃ d,s=⟨sl d 26 [],[]⟩)
theorem YA:∀ x r,Q3 x=some r→Qai x r:=by
 refine Q3.partial_correctness _ (fun Q3 YA x r hm=>?_)
 unfold Qai
 obtain ⟨p0,p1,v201⟩:=x
 intro st hst
 refine RL_at hst ?_
 clear hst
 refine Qd (R_G (Qb 1 (Qf (Qd ?_))))
 refine Qx hm (rfl) (fun hm=>?_) (fun hm=>?_)
 ·refine Qp (Qd (Qu (Qd (R_G (Qb 2 (Qf (Qd ?_)))))))
  refine Qbt ?_
  refine Qb 2 ?_
  refine Zt 1 Qj hm rfl (fun _=>rfl) (fun v601 hm=>?_)
  refine Qb 3 ?_
  refine Zt 1 Qj hm rfl (fun _=>rfl) (fun v602 hm=>?_)
  refine Qb 2 ?_
  refine Qf ⟨by kernel_rfl,?_⟩
  refine Qx hm (ne_dec _ _) (fun hm=>?_) (fun hm=>?_)
  ·refine Qd (R_G (Qb 1 (Qf (Qo ?_))))
   obtain rfl:=Qs hm
   exact ⟨rfl,Qr⟩
  refine Qp (R_G (Qb 2 (Qf ?_)))
  exact YA _ _ hm _ (by kernel_rfl)
 refine Q7 ?_
 obtain rfl:=Qs hm
 exact ⟨rfl,Qr⟩
def Z7 (x:((List Int) × (List Int))):Option Bool :=
 match x with
 | (p0,p1) =>
 if (p0.length:Int)≠(p1.length:Int) then
  some false
 else
 (
 Q3 (p0,p1,0)>>=fun (out:Unit ⊕ Unit) =>
 match out with
 | .inl _ =>
  some false
 | .inr (_) =>
  some true
 )
def QaN:((List Int) × (List Int))→Bool→Prop:=fun x r=>match x,r with
 | (p0,p1),r0=>∀ H,PC prog env 61 ([(Lb p0),(Lb p1)].map .dat) H (Qn r0) H
theorem QcG:∀ x r,Z7 x=some r→QaN x r:=by
 intro x r0 hm
 unfold Z7 at hm
 unfold QaN
 obtain ⟨p0,p1⟩:=x
 intro H
 refine PC_sx (ds:=[(Lb p0),(Lb p1)]) (fn:=f61) rfl ?_
 refine Qd (R_G (Qb 1 (Qf (Qd (Qd (R_G (Qb 1 ?_)))))))
 refine QV Qj p0 (es:=(List.map Qj) p0) rfl ?_
 refine Qb 1 ?_
 refine QV Qj p1 (es:=(List.map Qj) p1) rfl ?_
 refine Qb 1 (Qf ?_)
 refine Qx hm (ne_dec _ _) (fun hm=>?_) (fun hm=>?_)
 ·refine Qd (R_G (Qb 1 (Qf (Qo ?_))))
  obtain rfl:=Qs hm
  exact ⟨trivial,Qk⟩
 refine Qp (Qd (Qd (R_G (Qb 1 ?_))))
 refine QV Qj p0 (es:=(List.map Qj) p0) rfl ?_
 refine Qb 1 (Qf (Qu ?_))
 obtain ⟨out,hs,hm⟩:=Qi hm
 refine Za ?_
 rcases out with _|_
 ·refine RL_use (YA _ _ hs) (by kernel_rfl) ?_
  clear hs
  intro e s hp
  obtain ⟨rfl,d,rfl⟩:=hp
  obtain rfl:=Qs hm
  exact ⟨trivial,Qk⟩
 ·refine RL_use (YA _ _ hs) (by kernel_rfl) ?_
  clear hs
  intro e s hp
  obtain ⟨rfl,d,rfl⟩:=hp
  refine Qd (R_G (Qb 1 (Qf (Qo ?_))))
  obtain rfl:=Qs hm
  exact ⟨trivial,Qk⟩
def Xj (x:((List Int) × (List Int))):Option Bool :=
 match x with
 | (p0,p1) =>
 Z7 (p0,p1)>>=fun (v1:Bool) =>
 some v1
def QdL:((List Int) × (List Int))→Bool→Prop:=fun x r=>match x,r with
 | (p0,p1),r0=>∀ H,PC prog env 60 ([(Lb p0),(Lb p1)].map .dat) H (Qn r0) H
theorem QdU:∀ x r,Xj x=some r→QdL x r:=by
 intro x r0 hm
 unfold Xj at hm
 unfold QdL
 obtain ⟨p0,p1⟩:=x
 intro H
 refine PC_sx (ds:=[(Lb p0),(Lb p1)]) (fn:=f60) rfl ?_
 refine Qd (R_G (Qb 1 (Qf (Qd (R_G (Qb 2 ?_))))))
 obtain ⟨v1,hx,hm⟩:=Qi hm
 have hq:=QcG _ _ hx []
 refine Qq hq ?_
 refine Qb 1 (Qf (Qo ?_))
 obtain rfl:=Qs hm
 exact ⟨trivial,Qk⟩
def QaW (x:(Int × Int)):Option (Int × Bool) :=
 match x with
 | (p0,p1) =>
 some ((W (p0+p1)),(decide ((W (p0+p1))≤65536)))
def Qd8:(Int × Int)→(Int × Bool)→Prop:=fun x r=>match x,r with
 | (p0,p1),(r0,r1)=>∀ H,PC prog env 177 ([(Qj p0),(Qj p1)].map .dat) H (.tup [(Qe r0),(Qn r1)]) H
theorem Qfc:∀ x r,QaW x=some r→Qd8 x r:=by
 intro x r hm
 unfold QaW at hm
 unfold Qd8
 obtain ⟨p0,p1⟩:=x
 obtain ⟨r0,r1⟩:=r
 intro H
 refine PC_sx (ds:=[(Qj p0),(Qj p1)]) (fn:=f177) rfl ?_
 refine Qd (R_G (Qb 2 (Qf (Qd (R_G (Qb 9 (Qf (Qo ?_))))))))
 obtain ⟨rfl,rfl⟩:=Q8 hm
 exact ⟨trivial,Qk⟩
def QU (x:((List Int) × Int × Int)):Option (Int ⊕ Int) :=
 match x with
 | (p0,v201,v202) =>
 if v202 < (p0.length:Int) then
  idx p0 v202>>=fun v603 =>
  QaW (v201,v603)>>=fun ((v604,v605):(Int × Bool)) =>
  if v605=false then
   some (Sum.inl v604)
  else
  QU (p0,v604,(W (v202+1)))
 else
 some (Sum.inr v201)
 partial_fixpoint
def X7:((List Int) × Int × Int)→(Int ⊕ Int)→Prop:=fun x r=>match x with
 | (p0,v201,v202)=>∀ st,prune 0 ((QB (QJ [1,1,0,1,0,0] (QO f173))).bind (env.hint 173).keepAt) st=⟨kp 31 [(2,(.dat (.raw (.func (.func 177) #[] #[])))),(8,(Qe v201)),(13,(La p0)),(14,(Qe (p0.length:Int))),(15,(Qe v202))],[]⟩ →
  RL prog env (env.hint 173) true (QJ [1,1,0,1,0,0] (QO f173)) 0 st (fun e s=>match r with|.inl v601=>e=.ret∧∃ d,s=⟨sl d 31 [(6,(Qe v601)),(7,(Qn false))],[]⟩|.inr (v602)=>e=.exit 0∧∃ d,s=⟨sl d 31 [(8,(Qe v602))],[]⟩)
theorem Yd:∀ x r,QU x=some r→X7 x r:=by
 refine QU.partial_correctness _ (fun QU Yd x r hm=>?_)
 unfold X7
 obtain ⟨p0,v201,v202⟩:=x
 intro st hst
 refine RL_at hst ?_
 clear hst
 refine Qd (R_G (Qb 1 (Qf (Qd ?_))))
 refine Qx hm (rfl) (fun hm=>?_) (fun hm=>?_)
 ·refine Qp (Qd (Qu (Qd (R_G ?_))))
  refine Zt 1 Qj hm rfl (fun _=>rfl) (fun v603 hm=>?_)
  refine Qb 2 (Qf (Qd (R_G (Qb 3 ?_))))
  obtain ⟨⟨v604,v605⟩,hx,hm⟩:=Qi hm
  have hq:=Qfc _ _ hx []
  refine Qq hq ?_
  refine Qb 5 (Qf (Qd (R_G (Qb 2 (Qf ?_)))))
  refine Qx hm (XH _) (fun hm=>?_) (fun hm=>?_)
  ·refine Qd (R_G (Qb 3 (Qf (Qo ?_))))
   obtain rfl:=Qs hm
   exact ⟨rfl,Qr⟩
  refine Qp (R_G (Qb 2 (Qf ?_)))
  exact Yd _ _ hm _ (by kernel_rfl)
 refine Q7 ?_
 obtain rfl:=Qs hm
 exact ⟨rfl,Qr⟩
def Yv (x:((List Int) × Int)):Option (Int × Bool) :=
 match x with
 | (p0,p1) =>
 (
 QU (p0,p1,0)>>=fun (out:Int ⊕ Int) =>
 match out with
 | .inl v601 =>
  some (v601,false)
 | .inr (v602) =>
  some (v602,true)
 )
def JS:((List Int) × Int)→(Int × Bool)→Prop:=fun x r=>match x,r with
 | (p0,p1),(r0,r1)=>∀ H,PC prog env 173 ([(Lb p0),(Qj p1),(.raw (.func (.func 177) #[] #[]))].map .dat) H (.tup [(Qe r0),(Qn r1)]) H
theorem QbU:∀ x r,Yv x=some r→JS x r:=by
 intro x r hm
 unfold Yv at hm
 unfold JS
 obtain ⟨p0,p1⟩:=x
 obtain ⟨r0,r1⟩:=r
 intro H
 refine PC_sx (ds:=[(Lb p0),(Qj p1),(.raw (.func (.func 177) #[] #[]))]) (fn:=f173) rfl ?_
 refine Qd (R_G (Qb 2 (Qf (Qd (R_G (Qb 3 (Qf (Qd (Qd (R_G (Qb 1 ?_)))))))))))
 refine QV Qj p0 (es:=(List.map Qj) p0) rfl ?_
 refine Qb 1 (Qf (Qu ?_))
 obtain ⟨out,hs,hm⟩:=Qi hm
 refine Za ?_
 rcases out with v601|v602
 ·refine RL_use (Yd _ _ hs) (by kernel_rfl) ?_
  clear hs
  intro e s hp
  obtain ⟨rfl,d,rfl⟩:=hp
  obtain ⟨rfl,rfl⟩:=Q8 hm
  exact ⟨trivial,Qk⟩
 ·refine RL_use (Yd _ _ hs) (by kernel_rfl) ?_
  clear hs
  intro e s hp
  obtain ⟨rfl,d,rfl⟩:=hp
  refine Qd (R_G (Qb 3 (Qf (Qo ?_))))
  obtain ⟨rfl,rfl⟩:=Q8 hm
  exact ⟨trivial,Qk⟩
def Yu (x:((List Int) × Int)):Option (Int × Int) :=
 match x with
 | (p0,p1) =>
 Je p0>>=fun (v1:Int) =>
 if v1≠0 then
  some (0,v1)
 else
 Yv (p0,p1)>>=fun ((v2,v3):(Int × Bool)) =>
 if v3=false then
  some (0,7)
 else
 some (v2,0)
def JR:((List Int) × Int)→(Int × Int)→Prop:=fun x r=>match x,r with
 | (p0,p1),(r0,r1)=>∀ H,PC prog env 153 ([(Lb p0),(Qj p1),(.raw (.func (.func 177) #[] #[]))].map .dat) H (.tup [(Qe r0),(Qe r1)]) H
theorem QbT:∀ x r,Yu x=some r→JR x r:=by
 intro x r hm
 unfold Yu at hm
 unfold JR
 obtain ⟨p0,p1⟩:=x
 obtain ⟨r0,r1⟩:=r
 intro H
 refine PC_sx (ds:=[(Lb p0),(Qj p1),(.raw (.func (.func 177) #[] #[]))]) (fn:=f153) rfl ?_
 refine Qd (R_G (Qb 2 (Qf (Qd (Qd (R_G (Qb 1 ?_)))))))
 obtain ⟨v1,hx,hm⟩:=Qi hm
 have hq:=QcF _ _ hx []
 refine Qq hq ?_
 refine Qb 1 (Qf (Qd (R_G (Qb 2 (Qf ?_)))))
 refine Qx hm (ne_dec _ _) (fun hm=>?_) (fun hm=>?_)
 ·refine Qd (R_G (Qb 3 (Qf (Qo ?_))))
  obtain ⟨rfl,rfl⟩:=Q8 hm
  exact ⟨trivial,Qk⟩
 refine Qp (Qd (R_G (Qb 3 ?_)))
 obtain ⟨⟨v2,v3⟩,hx,hm⟩:=Qi hm
 have hq:=QbU _ _ hx []
 refine Qq hq ?_
 refine Qb 5 (Qf (Qd (Qd (R_G (Qb 2 (Qf ?_))))))
 refine Qx hm (XH _) (fun hm=>?_) (fun hm=>?_)
 ·refine Qd (R_G (Qb 2 (Qf (Qo ?_))))
  obtain ⟨rfl,rfl⟩:=Q8 hm
  exact ⟨trivial,Qk⟩
 refine Qp (Qd (R_G (Qb 3 (Qf (Qo ?_)))))
 obtain ⟨rfl,rfl⟩:=Q8 hm
 exact ⟨trivial,Qk⟩
def QbO (x:(List Int)):Option (Int × Int) :=
 match x with
 | p0 =>
 Yu (p0,0)>>=fun ((v1,v2):(Int × Int)) =>
 some (v1,v2)
def QeK:(List Int)→(Int × Int)→Prop:=fun x r=>match x,r with
 | p0,(r0,r1)=>∀ H,PC prog env 159 ([(Lb p0)].map .dat) H (.tup [(Qe r0),(Qe r1)]) H
theorem QfG:∀ x r,QbO x=some r→QeK x r:=by
 intro p0 r hm
 unfold QbO at hm
 unfold QeK
 obtain ⟨r0,r1⟩:=r
 intro H
 refine PC_sx (ds:=[(Lb p0)]) (fn:=f159) rfl ?_
 refine Qd (R_G (Qb 2 (Qf (Qd (R_G (Qb 1 ?_))))))
 obtain ⟨⟨v1,v2⟩,hx,hm⟩:=Qi hm
 have hq:=QbT _ _ hx []
 refine Qq hq ?_
 refine Qb 4 (Qf (Qo ?_))
 obtain ⟨rfl,rfl⟩:=Q8 hm
 exact ⟨trivial,Qk⟩
def Qbb (x:((List Int) × (List Int) × Int)):Option ((List Int) × Int) :=
 match x with
 | (p0,p1,p2) =>
 YL (p0,p2)>>=fun ((v1,v2):((List Int) × Int)) =>
 YL (p1,p2)>>=fun ((v3,v4):((List Int) × Int)) =>
 Xj (v1,v3)>>=fun (v5:Bool) =>
 if v5=false then
  some (([]:(List Int)),5)
 else
 idx p0 p2>>=fun v6 =>
 idx p1 p2>>=fun v7 =>
 QbO ([v6,v7]:List Int)>>=fun ((v8,v9):(Int × Int)) =>
 if v9≠0 then
  some (([]:(List Int)),v9)
 else
 Y0 (p0,p2,v8)>>=fun ((v10,v11):((List Int) × Int)) =>
 some (v10,v11)
def QdI:((List Int) × (List Int) × Int)→((List Int) × Int)→Prop:=fun x r=>match x,r with
 | (p0,p1,p2),(r0,r1)=>∀ H,PC prog env 139 ([(Lb p0),(Lb p1),(Qj p2)].map .dat) H (.tup [(La r0),(Qe r1)]) H
theorem Qe5:∀ x r,Qbb x=some r→QdI x r:=by
 intro x r hm
 unfold Qbb at hm
 unfold QdI
 obtain ⟨p0,p1,p2⟩:=x
 obtain ⟨r0,r1⟩:=r
 intro H
 refine PC_sx (ds:=[(Lb p0),(Lb p1),(Qj p2)]) (fn:=f139) rfl ?_
 refine Qd (R_G (Qb 2 (Qf (Qd (R_G (Qb 2 ?_))))))
 obtain ⟨⟨v1,v2⟩,hx,hm⟩:=Qi hm
 have hq:=Qdm _ _ hx []
 refine Qq hq ?_
 refine Qb 5 (Qf (Qd (R_G (Qb 2 ?_))))
 obtain ⟨⟨v3,v4⟩,hx,hm⟩:=Qi hm
 have hq:=Qdm _ _ hx []
 refine Qq hq ?_
 refine Qb 5 (Qf (Qd (Qd (R_G (Qb 2 ?_)))))
 obtain ⟨v5,hx,hm⟩:=Qi hm
 have hq:=QdU _ _ hx []
 refine Qq hq ?_
 refine Qb 1 (Qf ?_)
 refine Qx hm (XH _) (fun hm=>?_) (fun hm=>?_)
 ·refine Qd (R_G (Qb 2 (Qf (Qo ?_))))
  obtain ⟨rfl,rfl⟩:=Q8 hm
  exact ⟨trivial,Qk⟩
 refine Qp (Qd ?_)
 refine Qbt ?_
 refine Qb 2 ?_
 refine Zt 1 Qj hm rfl (fun _=>rfl) (fun v6 hm=>?_)
 refine Qb 3 ?_
 refine Zt 1 Qj hm rfl (fun _=>rfl) (fun v7 hm=>?_)
 refine Qb 2 ?_
 obtain ⟨⟨v8,v9⟩,hx,hm⟩:=Qi hm
 have hq:=QfG _ _ hx []
 refine Qq hq ?_
 refine Qb 5 ?_
 refine Qf ⟨by kernel_rfl,?_⟩
 refine Qd (Qd (R_G (Qb 2 (Qf ?_))))
 refine Qx hm (ne_dec _ _) (fun hm=>?_) (fun hm=>?_)
 ·refine Qd (R_G (Qb 3 (Qf (Qo ?_))))
  obtain ⟨rfl,rfl⟩:=Q8 hm
  exact ⟨trivial,Qk⟩
 refine Qp (Qd (R_G (Qb 3 ?_)))
 obtain ⟨⟨v10,v11⟩,hx,hm⟩:=Qi hm
 have hq:=QcS _ _ hx []
 refine Qq hq ?_
 refine Qb 4 (Qf (Qo ?_))
 obtain ⟨rfl,rfl⟩:=Q8 hm
 exact ⟨trivial,Qk⟩
def XD (x:(Int × Int × (List Int) × (List Int) × (List Int))):Option (Unit) :=
 match x with
 | (q0,q1,q2,q3,q4) =>
 some ()
def JO:(Int × Int × (List Int) × (List Int) × (List Int))→Unit→Prop:=fun x r=>match x with
 | (q0,q1,q2,q3,q4)=>PC prog env 136 [(.ptr 6 0),(.iptr [(Qj q0)]),(.iptr [(Qj q1)])] [Qv,(.box [(La q2)]),(.box [(.fn 136 [(.iptr [(Qj q0)]),(.iptr [(Qj q1)])]),(.fn 140 [(.ptr 1 0)])]),Qv,(.mt 3 1 (cellsOf Qj q3)),(.mt 3 1 (cellsOf Qj q4)),(.box [Ea,(.ms 4 1 0 q3.length q3.length),(.ms 5 1 0 q4.length q4.length),Ea,(Qe (-1)),(Qe 0),Ea])] (match r with|_=>(.tup [])) (match r with|_=>[Qv,(.box [(La q2)]),(.box [(.fn 136 [(.iptr [(Qj q0)]),(.iptr [(Qj q1)])]),(.fn 140 [(.ptr 1 0)])]),Qv,(.mt 3 1 (cellsOf Qj q3)),(.mt 3 1 (cellsOf Qj q4)),(.box [Ea,(.ms 4 1 0 q3.length q3.length),(.ms 5 1 0 q4.length q4.length),Ea,(Qe q0),(Qe q1),Ea])])
theorem Qdi:∀ x r,XD x=some r→JO x r:=by
 intro x r hm
 unfold XD at hm
 unfold JO
 obtain ⟨q0,q1,q2,q3,q4⟩:=x
 refine PC_sxB (fn:=f136) rfl ?_
 refine Qbt ?_
 refine Qb 10 ?_
 refine Qf ⟨by kernel_rfl,?_⟩
 obtain rfl:=Qs hm
 exact ⟨trivial,QK (by kernel_rfl) (by kernel_rfl)⟩
def YR (x:((List Int) × Int × Int × (List Int) × (List Int))):Option (Unit) :=
 match x with
 | (q0,q1,q2,q3,q4) =>
 some ()
def XW:((List Int) × Int × Int × (List Int) × (List Int))→Unit→Prop:=fun x r=>match x with
 | (q0,q1,q2,q3,q4)=>PC prog env 140 [(.ptr 6 0),(.ptr 1 0)] [Qv,(.box [(La q0)]),(.box [(.fn 136 [(.iptr [(Qj q1)]),(.iptr [(Qj q2)])]),(.fn 140 [(.ptr 1 0)])]),Qv,(.mt 3 1 (cellsOf Qj q3)),(.mt 3 1 (cellsOf Qj q4)),(.box [Ea,(.ms 4 1 0 q3.length q3.length),(.ms 5 1 0 q4.length q4.length),Ea,(Qe q1),(Qe q2),Ea])] (match r with|_=>(.tup [])) (match r with|_=>[Qv,(.box [(La q0)]),(.box [(.fn 136 [(.iptr [(Qj q1)]),(.iptr [(Qj q2)])]),(.fn 140 [(.ptr 1 0)])]),Qv,(.mt 3 1 (cellsOf Qj q3)),(.mt 3 1 (cellsOf Qj q4)),(.box [(La q0),(.ms 4 1 0 q3.length q3.length),(.ms 5 1 0 q4.length q4.length),Ea,(Qe q1),(Qe q2),Ea])])
theorem Qct:∀ x r,YR x=some r→XW x r:=by
 intro x r hm
 unfold YR at hm
 unfold XW
 obtain ⟨q0,q1,q2,q3,q4⟩:=x
 refine PC_sxB (fn:=f140) rfl ?_
 refine R_G (Qb 5 (Qf ?_))
 obtain rfl:=Qs hm
 exact ⟨trivial,QK (by kernel_rfl) (by kernel_rfl)⟩
def JH (x:((List Int) × (List Int) × (List Int) × Int × Int)):Option (Int ⊕ ((List Int) × (List Int))) :=
 match x with
 | (q0,q1,q2,q3,q4) =>
 Zg q1>>=fun (v1:Int) =>
 if v1≠0 then
  some (Sum.inl v1)
 else
 Qy q0>>=fun v2 =>
 Qy q1>>=fun v3 =>
 XD (q3,q4,q2,v2,v3)>>=fun (_:Unit) =>
 YR (q2,q3,q4,v2,v3)>>=fun (_:Unit) =>
 some (Sum.inr (v2,v3))
def Jz:((List Int) × (List Int) × (List Int) × Int × Int)→(Int ⊕ ((List Int) × (List Int)))→Prop:=fun x r=>match x with
 | (q0,q1,q2,q3,q4)=>PC prog env 114 [(La q0),(La q1),(.arr 2 0 2 2)] [Qv,(.box [(La q2)]),(.box [(.fn 136 [(.iptr [(Qj q3)]),(.iptr [(Qj q4)])]),(.fn 140 [(.ptr 1 0)])])] (match r with|.inl v5001=>(.tup [(.dat (.agg [Eb,Eb,Eb,Eb,(Qj 0),(Qj 0),Eb])),(Qe v5001)])|.inr ((v5002,v5003))=>(.tup [(.agg [(La q2),(.ms 4 1 0 v5002.length v5002.length),(.ms 5 1 0 v5003.length v5003.length),Ea,(Qe q3),(Qe q4),Ea]),(Qe 0)])) (match r with|.inl v5001=>[Qv,(.box [(La q2)]),(.box [(.fn 136 [(.iptr [(Qj q3)]),(.iptr [(Qj q4)])]),(.fn 140 [(.ptr 1 0)])]),Qv]|.inr ((v5002,v5003))=>[Qv,(.box [(La q2)]),(.box [(.fn 136 [(.iptr [(Qj q3)]),(.iptr [(Qj q4)])]),(.fn 140 [(.ptr 1 0)])]),(.box [(La q2),(.ms 4 1 0 v5002.length v5002.length),(.ms 5 1 0 v5003.length v5003.length),Ea,(Qe q3),(Qe q4),Ea]),(.mt 3 1 (cellsOf Qj v5002)),(.mt 3 1 (cellsOf Qj v5003)),(.box [(La q2),(.ms 4 1 0 v5002.length v5002.length),(.ms 5 1 0 v5003.length v5003.length),Ea,(Qe q3),(Qe q4),Ea])])
theorem Qb8:∀ x r,JH x=some r→Jz x r:=by
 intro x r hm
 unfold JH at hm
 unfold Jz
 obtain ⟨q0,q1,q2,q3,q4⟩:=x
 refine PC_sxB (fn:=f114) rfl ?_
 refine Qd (R_G (Qb 2 (Qf (Qd (Qd (R_G (Qb 1 ?_)))))))
 obtain ⟨v1,hx,hm⟩:=Qi hm
 have hq:=ZJ _ _ hx []
 refine Qq hq ?_
 refine Qb 1 (Qf (Qd (R_G (Qb 2 (Qf ?_)))))
 refine Qx hm (ne_dec _ _) (fun hm=>?_) (fun hm=>?_)
 ·refine Qd (R_G (Qb 4 (Qf (Qo ?_))))
  obtain rfl:=Qs hm
  exact ⟨trivial,QK (by kernel_rfl) (by kernel_rfl)⟩
 refine Qp (Qd (R_G (Qb 1 ?_)))
 obtain ⟨v2,hx,hm⟩:=Qi hm
 have hq:=QF _ _ hx
 dsimp only [QA] at hq
 have hl9:mtOf [Blk.mt 3 (cgm_slices_Clone_int_int v2) (cellsOf Qj v2)] 0=some (3,cgm_slices_Clone_int_int v2,cellsOf Qj v2):=ZD (by kernel_rfl)
 refine ZB (v:=.ms 4 1 0 v2.length v2.length) (fun H=>H++[.mt 3 1 (cellsOf Qj v2)]) rfl (by kernel_rfl) ?_ ?_
 ·intro K hk
  refine Zp 4 (first:=#[]) (cap:=#[]) (j:=(0,3)) (ow':=[]) (f0:=Qj) (l:=v2) rfl ?_ ?_ ?_ (ds:=[.lst ((List.map Qj) q0)]) ?_ hq hl9 ?_ ?_ ?_
  ·kernel_rfl
  ·kernel_rfl
  ·kernel_rfl
  ·kernel_rfl
  ·exact hk
  ·kernel_rfl
  ·decide
 refine Qb 1 ?_
 obtain ⟨v3,hx,hm⟩:=Qi hm
 have hq:=QF _ _ hx
 dsimp only [QA] at hq
 have hl9:mtOf [Blk.mt 3 (cgm_slices_Clone_int_int v3) (cellsOf Qj v3)] 0=some (3,cgm_slices_Clone_int_int v3,cellsOf Qj v3):=ZD (by kernel_rfl)
 refine ZB (v:=.ms 5 1 0 v3.length v3.length) (fun H=>H++[.mt 3 1 (cellsOf Qj v3)]) rfl (by kernel_rfl) ?_ ?_
 ·intro K hk
  refine Zp 5 (first:=#[]) (cap:=#[]) (j:=(0,3)) (ow':=[]) (f0:=Qj) (l:=v3) rfl ?_ ?_ ?_ (ds:=[.lst ((List.map Qj) q1)]) ?_ hq hl9 ?_ ?_ ?_
  ·kernel_rfl
  ·kernel_rfl
  ·kernel_rfl
  ·kernel_rfl
  ·exact hk
  ·kernel_rfl
  ·decide
 refine Qb 3 (Qf (Qd (Qd (R_G (Qb 1 (Qb 1 (Qb 1 (Qf (Qu ?_)))))))))
 refine Za ?_
 refine RL_at (st':=⟨kp 33 [(6,(.ptr 3 0)),(9,(.ptr 6 0)),(23,(.arr 2 0 2 2)),(24,(Qe 2)),(25,(Qe 0))],[Qv,(.box [(La q2)]),(.box [(.fn 136 [(.iptr [(Qj q3)]),(.iptr [(Qj q4)])]),(.fn 140 [(.ptr 1 0)])]),Qv,(.mt 3 1 (cellsOf Qj v2)),(.mt 3 1 (cellsOf Qj v3)),(.box [Ea,(.ms 4 1 0 v2.length v2.length),(.ms 5 1 0 v3.length v3.length),Ea,(Qe (-1)),(Qe 0),Ea])]⟩) (prune_of2 [Qv,(.box [(La q2)]),(.box [(.fn 136 [(.iptr [(Qj q3)]),(.iptr [(Qj q4)])]),(.fn 140 [(.ptr 1 0)])]),Qv,(.mt 3 1 (cellsOf Qj v2)),(.mt 3 1 (cellsOf Qj v3)),(.box [Ea,(.ms 4 1 0 v2.length v2.length),(.ms 5 1 0 v3.length v3.length),Ea,(Qe (-1)),(Qe 0),Ea])] (fun _=>(pg_cons (by kernel_rfl) (pg_cons (by kernel_rfl) (pg_cons (by kernel_rfl) (pg_cons (by kernel_rfl) (pg_cons (purge_mt Qj _ _ _ _ _) (pg_cons (purge_mt Qj _ _ _ _ _) (pg_cons (by kernel_rfl) pg_nil)))))))) rfl) ?_
 refine Qd (R_G (Qb 1 (Qf (Qd ?_))))
 refine QaA (by kernel_rfl) ?_
 refine Qp (Qd (Qu (Qd (R_G (Qb 1 (Qb 2 (Qf (R_G (Qb 1 ?_)))))))))
 obtain ⟨_,hx,hm⟩:=Qi hm
 have hq:=Qdi _ _ hx
 dsimp only [JO] at hq
 refine QX hq ?_
 refine Qf (R_G (Qb 2 (Qf ?_)))
 refine RL_at (st':=⟨kp 33 [(6,(.ptr 3 0)),(9,(.ptr 6 0)),(23,(.arr 2 0 2 2)),(24,(Qe 2)),(25,(Qe 1))],[Qv,(.box [(La q2)]),(.box [(.fn 136 [(.iptr [(Qj q3)]),(.iptr [(Qj q4)])]),(.fn 140 [(.ptr 1 0)])]),Qv,(.mt 3 1 (cellsOf Qj v2)),(.mt 3 1 (cellsOf Qj v3)),(.box [Ea,(.ms 4 1 0 v2.length v2.length),(.ms 5 1 0 v3.length v3.length),Ea,(Qe q3),(Qe q4),Ea])]⟩) (prune_of2 [Qv,(.box [(La q2)]),(.box [(.fn 136 [(.iptr [(Qj q3)]),(.iptr [(Qj q4)])]),(.fn 140 [(.ptr 1 0)])]),Qv,(.mt 3 1 (cellsOf Qj v2)),(.mt 3 1 (cellsOf Qj v3)),(.box [Ea,(.ms 4 1 0 v2.length v2.length),(.ms 5 1 0 v3.length v3.length),Ea,(Qe q3),(Qe q4),Ea])] (fun _=>(pg_cons (by kernel_rfl) (pg_cons (by kernel_rfl) (pg_cons (by kernel_rfl) (pg_cons (by kernel_rfl) (pg_cons (purge_mt Qj _ _ _ _ _) (pg_cons (purge_mt Qj _ _ _ _ _) (pg_cons (by kernel_rfl) pg_nil)))))))) rfl) ?_
 refine Qd (R_G (Qb 1 (Qf (Qd ?_))))
 refine QaA (by kernel_rfl) ?_
 refine Qp (Qd (Qu (Qd (R_G (Qb 1 (Qb 2 (Qf (R_G (Qb 1 ?_)))))))))
 obtain ⟨_,hx,hm⟩:=Qi hm
 have hq:=Qct _ _ hx
 dsimp only [XW] at hq
 refine QX hq ?_
 refine Qf (R_G (Qb 2 (Qf ?_)))
 refine RL_at (st':=⟨kp 33 [(6,(.ptr 3 0)),(9,(.ptr 6 0)),(23,(.arr 2 0 2 2)),(24,(Qe 2)),(25,(Qe 2))],[Qv,(.box [(La q2)]),(.box [(.fn 136 [(.iptr [(Qj q3)]),(.iptr [(Qj q4)])]),(.fn 140 [(.ptr 1 0)])]),Qv,(.mt 3 1 (cellsOf Qj v2)),(.mt 3 1 (cellsOf Qj v3)),(.box [(La q2),(.ms 4 1 0 v2.length v2.length),(.ms 5 1 0 v3.length v3.length),Ea,(Qe q3),(Qe q4),Ea])]⟩) (prune_of2 [Qv,(.box [(La q2)]),(.box [(.fn 136 [(.iptr [(Qj q3)]),(.iptr [(Qj q4)])]),(.fn 140 [(.ptr 1 0)])]),Qv,(.mt 3 1 (cellsOf Qj v2)),(.mt 3 1 (cellsOf Qj v3)),(.box [(La q2),(.ms 4 1 0 v2.length v2.length),(.ms 5 1 0 v3.length v3.length),Ea,(Qe q3),(Qe q4),Ea])] (fun _=>(pg_cons (by kernel_rfl) (pg_cons (by kernel_rfl) (pg_cons (by kernel_rfl) (pg_cons (by kernel_rfl) (pg_cons (purge_mt Qj _ _ _ _ _) (pg_cons (purge_mt Qj _ _ _ _ _) (pg_cons (by kernel_rfl) pg_nil)))))))) rfl) ?_
 refine Qd (R_G (Qb 1 (Qf (Qd ?_))))
 refine YN (by kernel_rfl) ?_
 refine Q7 (Qd (R_G (Qb 3 (Qf (Qo ?_)))))
 obtain rfl:=Qs hm
 exact ⟨trivial,QK (by kernel_rfl) (by kernel_rfl)⟩
def Yz (x:(Int × (List Int) × (List Int))):Option (Qm × Int) :=
 match x with
 | (p0,p1,p2) =>
 (if p0=(-1) then
  some (W ((max (max (p1.length:Int) (p2.length:Int)) 1) - 1))
 else
 some p0
 )>>=fun (v1:Int) =>
 if v1≥(max (max (p1.length:Int) (p2.length:Int)) 1) then
  Zj 4>>=fun ((v2,v3):(Qm × Int)) =>
  some (v2,v3)
 else
 ZZ (p1,p2,(max (max (p1.length:Int) (p2.length:Int)) 1),v1)>>=fun ((v4,v5):((List Int) × Int)) =>
 ZZ (p2,p1,(max (max (p1.length:Int) (p2.length:Int)) 1),v1)>>=fun ((v6,v7):((List Int) × Int)) =>
 (if v5≠0 then
  some true
 else
 some (v7 != 0)
 )>>=fun (v8:Bool) =>
 if v8=true then
  Zj 4>>=fun ((v9,v10):(Qm × Int)) =>
  some (v9,v10)
 else
 Qbb (v4,v6,v1)>>=fun ((v11,v12):((List Int) × Int)) =>
 if v12≠0 then
  Zj v12>>=fun ((v13,v14):(Qm × Int)) =>
  some (v13,v14)
 else
 YE (v1,0)>>=fun ((v15,v16):(Int × Int)) =>
 (
 JH (v6,v11,v4,v15,v16)>>=fun (out:Int ⊕ ((List Int) × (List Int))) =>
 match out with
 | .inl v17 =>
  some ((⟨([]:(List Int)),([]:(List Int)),([]:(List Int)),([]:(List Int)),0,0,([]:(List Int))⟩:Qm),v17)
 | .inr ((v18,v19)) =>
  some ((⟨v4,v18,v19,([]:(List Int)),v15,v16,([]:(List Int))⟩:Qm),0)
 )
def QcM:(Int × (List Int) × (List Int))→(Qm × Int)→Prop:=fun x r=>match x,r with
 | (p0,p1,p2),(r0,r1)=>∀ H,PC prog env 117 ([(Qj p0),(Lb p1),(Lb p2)].map .dat) H (.tup [(.dat (Qm.toD r0)),(Qe r1)]) H
theorem QeB:∀ x r,Yz x=some r→QcM x r:=by
 intro x r hm
 unfold Yz at hm
 unfold QcM
 obtain ⟨p0,p1,p2⟩:=x
 obtain ⟨r0,r1⟩:=r
 intro H
 refine PC_sx (ds:=[(Qj p0),(Lb p1),(Lb p2)]) (fn:=f117) rfl ?_
 refine Qd (R_G (Qb 2 (Qf (Qd (R_G (Qb 1 ?_))))))
 refine QV Qj p1 (es:=(List.map Qj) p1) rfl ?_
 refine Qb 1 ?_
 refine QV Qj p2 (es:=(List.map Qj) p2) rfl ?_
 refine Zq rfl (fun _=>Qgd (k:=.i64) (m:=(p1.length:Int)) (n:=(p2.length:Int)) (q:=1) rfl (by kernel_rfl) (by kernel_rfl) (by kernel_rfl)) ?_
 refine Qb 1 (Qf (Qd (Qd (R_G (Qb 2 (Qf ?_))))))
 obtain ⟨v1,hs,hm⟩:=Qi hm
 refine Xc (fun d=>⟨sl d 76 [(0,(Qe v1)),(1,(La p1)),(2,(La p2)),(6,(.ptr 0 0)),(8,(Qe (max (max (p1.length:Int) (p2.length:Int)) 1)))],[Qv]⟩) ?_ (fun d=>?_)
 ·replace hm:=hs
  clear hs
  refine Qx hm (ZW _ _) (fun hm=>?_) (fun hm=>?_)
  ·refine R_G (Qb 3 (Qf ?_))
   obtain rfl:=Qs hm
   exact Qr
  refine Qp ?_
  obtain rfl:=Qs hm
  exact Qr
 clear hs
 refine Qd (Qd (R_G (Qb 3 (Qf ?_))))
 refine Qx hm (rfl) (fun hm=>?_) (fun hm=>?_)
 ·refine Qd (R_G ?_)
  obtain ⟨⟨v2,v3⟩,hx,hm⟩:=Qi hm
  have hq:=ZI _ _ hx []
  refine Qq hq ?_
  refine Qb 4 (Qf (Qo ?_))
  obtain ⟨rfl,rfl⟩:=Q8 hm
  exact ⟨trivial,Qk⟩
 refine Qp (Qd (R_G (Qb 4 ?_)))
 obtain ⟨⟨v4,v5⟩,hx,hm⟩:=Qi hm
 have hq:=Qdl _ _ hx []
 refine Qq hq ?_
 refine Qb 6 (Qf (Qd (R_G (Qb 4 ?_))))
 obtain ⟨⟨v6,v7⟩,hx,hm⟩:=Qi hm
 have hq:=Qdl _ _ hx []
 refine Qq hq ?_
 refine Qb 5 (Qf (Qd (Qd ?_)))
 obtain ⟨v8,hs,hm⟩:=Qi hm
 refine Xc (fun d=>⟨sl d 76 [(0,(Qe v1)),(6,(.ptr 0 0)),(9,(.ptr 1 0)),(11,(La v6)),(50,(Qn v8))],[Qv,(.box [(La v4)])]⟩) ?_ (fun d=>?_)
 ·replace hm:=hs
  clear hs
  refine R_G (Qb 3 ?_)
  refine Qz 47 hm (ne_dec _ _) (fun hm=>?_) (fun hm=>?_)
  ·refine Qb 3 (Qf ?_)
   obtain rfl:=Qs hm
   exact Qr
  refine Qb 3 (Qf ?_)
  obtain rfl:=Qs hm
  exact Qr
 clear hs
 refine Qx hm (QG _) (fun hm=>?_) (fun hm=>?_)
 ·refine Qd (R_G ?_)
  obtain ⟨⟨v9,v10⟩,hx,hm⟩:=Qi hm
  have hq:=ZI _ _ hx []
  refine Qq hq ?_
  refine Qb 4 (Qf (Qo ?_))
  obtain ⟨rfl,rfl⟩:=Q8 hm
  exact ⟨trivial,Qk⟩
 refine Qp (Qd (R_G (Qb 3 ?_)))
 obtain ⟨⟨v11,v12⟩,hx,hm⟩:=Qi hm
 have hq:=Qe5 _ _ hx []
 refine Qq hq ?_
 refine Qb 5 (Qf (Qd (Qd (R_G (Qb 2 (Qf ?_))))))
 refine Qx hm (ne_dec _ _) (fun hm=>?_) (fun hm=>?_)
 ·refine Qd (R_G (Qb 1 ?_))
  obtain ⟨⟨v13,v14⟩,hx,hm⟩:=Qi hm
  have hq:=ZI _ _ hx []
  refine Qq hq ?_
  refine Qb 4 (Qf (Qo ?_))
  obtain ⟨rfl,rfl⟩:=Q8 hm
  exact ⟨trivial,Qk⟩
 refine Qp (Qd (R_G (Qb 3 ?_)))
 obtain ⟨⟨v15,v16⟩,hx,hm⟩:=Qi hm
 have hq:=QcE _ _ hx []
 refine Qq hq ?_
 refine Qb 2 ?_
 obtain ⟨out,hx,hm⟩:=Qi hm
 rcases out with v17|⟨v18,v19⟩
 ·have hq:=Qb8 _ _ hx
  dsimp only [Jz] at hq
  refine QX hq ?_
  refine Qb 4 (Qf (Qo ?_))
  obtain ⟨rfl,rfl⟩:=Q8 hm
  exact ⟨trivial,Qk⟩
 ·have hq:=Qb8 _ _ hx
  dsimp only [Jz] at hq
  refine QX hq ?_
  refine Qb 4 (Qf (Qo ?_))
  obtain ⟨rfl,rfl⟩:=Q8 hm
  exact ⟨trivial,YO [(.agg [(La v4),(.ms 4 1 0 v18.length v18.length),(.ms 5 1 0 v19.length v19.length),Ea,(Qe v15),(Qe v16),Ea]),(Qe 0)] (by kernel_rfl) (po_tup (ps_cons (p1_agg (pc_cons (by kernel_rfl) (pc_cons (pc_ms (e:=3) Qj v18 rfl (fun _=>rfl) (by kernel_rfl)) (pc_cons (pc_ms (e:=3) Qj v19 rfl (fun _=>rfl) (by kernel_rfl)) (pc_cons (by kernel_rfl) (pc_cons (by kernel_rfl) (pc_cons (by kernel_rfl) (pc_cons (by kernel_rfl) pc_nil)))))))) (ps_cons (by kernel_rfl) ps_nil)))⟩
def JT (x:(Qh × (List Int))):Option Qh :=
 match x with
 | (p0,p1) =>
 Xj (p0.shape,p1)>>=fun (v1:Bool) =>
 if v1=true then
  some p0
 else
 YY (p0,p1)>>=fun (v2:Qh) =>
 some v2
def Qel:(Qh × (List Int))→Qh→Prop:=fun x r=>match x,r with
 | (p0,p1),r0=>∀ H,PC prog env 118 ([(Qh.ex p0),(Lb p1)].map .dat) H (.dat (Qh.ex r0)) H
theorem Qdf:∀ x r,JT x=some r→Qel x r:=by
 intro x r0 hm
 unfold JT at hm
 unfold Qel
 obtain ⟨p0,p1⟩:=x
 intro H
 refine PC_sx (ds:=[(Qh.ex p0),(Lb p1)]) (fn:=f118) rfl ?_
 refine Qd (R_G (Qb 2 (Qf (Qd (Qd (R_G (Qb 3 ?_)))))))
 obtain ⟨v1,hx,hm⟩:=Qi hm
 have hq:=QdU _ _ hx []
 refine Qq hq ?_
 refine Qf ?_
 refine Qx hm (QG _) (fun hm=>?_) (fun hm=>?_)
 ·refine Qd (R_G (Qb 2 (Qf (Qo ?_))))
  obtain rfl:=Qs hm
  exact ⟨trivial,Qk⟩
 refine Qp (Qd (R_G (Qb 2 ?_)))
 obtain ⟨v2,hx,hm⟩:=Qi hm
 have hq:=Qbu _ _ hx []
 refine Qq hq ?_
 refine Qb 1 (Qf (Qo ?_))
 obtain rfl:=Qs hm
 exact ⟨trivial,Qk⟩
def Z0 (x:List Int):Option (List Int):=app 8 [] x
def cgm_slices_Clone_int64_int64 (l:List Int):Nat:=match l with|[]=>0|_=>1
def Yn:List Int→List Int→Prop:=fun x r=>PC prog env 141 [.dat (Lb x)] [] (.ms 0 (cgm_slices_Clone_int64_int64 r) 0 r.length r.length) [.mt 2 (cgm_slices_Clone_int64_int64 r) (cellsOf Qj r)]
theorem J2:∀ x r,Z0 x=some r→Yn x r:=by
 intro x r hm
 obtain ⟨hroom,hr⟩:=app_some hm
 have hr:r=x:=hr
 subst hr
 unfold Yn
 cases r with
 | nil=>exact PC_of (n:=20) (by kernel_rfl)
 | cons a l =>
  refine PC_sxB (fn:=f141) rfl ?_
  refine Qd (R_G (Qb 1 (Qf (Qd (Qd (R_G (Qb 1 ?_)))))))
  refine Zq rfl (fun _=>Qfg (p:=.dat (Lb (a::l))) (b:=false) rfl (by kernel_rfl) (by kernel_rfl) (by kernel_rfl)) ?_
  refine Qf ?_
  refine YN (by kernel_rfl) ?_
  refine Qp (Qd (R_G (Qb 2 ?_)))
  refine ZB (v:=.ms 0 1 0 (a::l).length (a::l).length) (fun H=>H.set 0 (.mt 2 1 (cellsOf Qj (a::l)))) rfl (by kernel_rfl) (fun _ hk=>Qfx Qj (l:=[]) (es:=a::l) (bytes:=8) (e:=2) (tt:=0) (g:=0) (m:=0) hm (fun _=>rfl) (by kernel_rfl) (by kernel_rfl) (by kernel_rfl) (by kernel_rfl) rfl rfl (by kernel_rfl) rfl (by kernel_rfl) (source_lst (fun _=>rfl)) hk) ?_
  refine Qb 1 (Qf (Qo ?_))
  exact ⟨trivial,QK (by kernel_rfl) (by kernel_rfl)⟩
def XG (x:(Int × Int × Int × ByteArray × (List Int) × (List Qc) × (List (ByteArray × Int)) × (List Qa) × (List Qa))):Option (((List Int) × Bool × Int)) :=
 match x with
 | (q0,q1,q2,q3,q4,q5,q6,q7,q8) =>
 if q0=1 then
  Z0 q4>>=fun v1 =>
  some (v1,((q4.length:Int) == 1),0)
 else
 Yc (q3,q6,q7,q8)>>=fun ((v2,v3,v4):((List Int) × (List Int) × Bool)) =>
 if v4=false then
  some (([]:List Int),false,2)
 else
 if (v2.length:Int) > 1 then
  some (([]:List Int),false,4)
 else
 some (v3,((v2.length:Int) == 0),0)
def QaP:(Int × Int × Int × ByteArray × (List Int) × (List Qc) × (List (ByteArray × Int)) × (List Qa) × (List Qa))→((List Int) × Bool × Int)→Prop:=fun x r=>match x with
 | (q0,q1,q2,q3,q4,q5,q6,q7,q8)=>PCX prog env 119 [(.ptr 4 0),(.dat (.agg [(Qj q0),(Qj q1),(Qj q2),(strD q3),(Lb q4),(.lst (Qc.toDs q5))]))] [(.map (smE q6)),(.tok 39 q7.length),(.box [(.vec 1 ((List.map Qa.toD) q7)),(.mapv 0)]),(.tok 39 (([]:List Qa).length)),(.box [(.vec 1 ((List.map Qa.toD) q8)),(.mapv 0)])] (match r with|(v5001,v5002,v5003)=>(.tup [(.dat (.agg [(Lb v5001),(Qam v5002)])),(Qe v5003)])) (match r with|(v5001,v5002,v5003)=>[(.map (smE q6)),(.tok 39 q7.length),(.box [(.vec 1 ((List.map Qa.toD) q7)),(.mapv 0)]),(.tok 39 (([]:List Qa).length)),(.box [(.vec 1 ((List.map Qa.toD) q8)),(.mapv 0)])])
theorem Qef:∀ x r,XG x=some r→QaP x r:=by
 intro x r hm
 unfold XG at hm
 unfold QaP
 obtain ⟨q0,q1,q2,q3,q4,q5,q6,q7,q8⟩:=x
 refine PCX_sxB (fn:=f119) rfl ?_
 refine Qd (R_G (Qb 3 (Qf (Qd (Qd (R_G (Qb 3 (Qf ?_))))))))
 refine Qx hm (ZW _ _) (fun hm=>?_) (fun hm=>?_)
 ·refine Qd ?_
  refine Qbt ?_
  refine Qb 2 ?_
  obtain ⟨v1,hx,hm⟩:=Qi hm
  have hq:=J2 _ _ hx
  dsimp only [Yn] at hq
  refine Zq (v:=.dat (Lb v1)) rfl (fun _=>QcW (f:=141) (first:=#[]) (cap:=#[]) (e:=2) (ow':=[]) (ds:=[.lst ((List.map Qj) q4)]) rfl (by kernel_rfl) (by kernel_rfl) (by kernel_rfl) (by kernel_rfl) hq (p1_ms (pc_ms (e:=2) Qj v1 rfl (fun _=>rfl) (by kernel_rfl)))) ?_
  refine Qb 2 ?_
  refine QV Qj q4 (es:=(List.map Qj) q4) rfl ?_
  refine Qb 4 ?_
  refine Qf ⟨by kernel_rfl,?_⟩
  refine Qo ?_
  obtain rfl:=Qs hm
  exact ⟨trivial,fin_bodyX 5 (by kernel_rfl) (by kernel_rfl)⟩
 refine Qp (Qd (R_G (Qb 3 ?_)))
 obtain ⟨⟨v2,v3,v4⟩,hx,hm⟩:=Qi hm
 have hq:=Qby _ _ hx
 dsimp only [XO] at hq
 refine Qa5 (n:=5) hq ?_ (hi:=und_hi 0) (hq:=und_hq 0)
 refine Qb 6 (Qf (Qd (Qu (Qd (R_G (Qb 3 (Qf ?_)))))))
 refine Qx hm (XH _) (fun hm=>?_) (fun hm=>?_)
 ·refine Qd (R_G (Qb 3 (Qf (Qo ?_))))
  obtain rfl:=Qs hm
  exact ⟨trivial,fin_bodyX 5 (by kernel_rfl) (by kernel_rfl)⟩
 refine Qd (R_G (Qb 2 ?_))
 refine QV Qj v2 (es:=(List.map Qj) v2) rfl ?_
 refine Qb 2 (Qf ?_)
 refine Qx hm (rfl) (fun hm=>?_) (fun hm=>?_)
 ·refine Qd (R_G (Qb 3 (Qf (Qo ?_))))
  obtain rfl:=Qs hm
  exact ⟨trivial,fin_bodyX 5 (by kernel_rfl) (by kernel_rfl)⟩
 refine Qp (Qd (R_G (Qb 4 ?_)))
 refine QV Qj v2 (es:=(List.map Qj) v2) rfl ?_
 refine Qb 4 (Qf (Qo ?_))
 obtain rfl:=Qs hm
 exact ⟨trivial,fin_bodyX 5 (by kernel_rfl) (by kernel_rfl)⟩
def YV (x:Int × Int):Option (List Int):=match x with
 | (a,n)=>if (a=1∨a=-1)∧0≤n∧n≤16 then some (List.replicate n.toNat a) else none
def X0:Int × Int→List Int→Prop:=fun x r=>match x with
 | (a,n)=>PC prog env 178 [(La ([a]:List Int)),(Qe n)] [] (.arr 0 0 r.length r.length) [(.box (cellsOf Qj r))]
theorem Qcw:∀ x r,YV x=some r→X0 x r:=by
 intro x r hm
 obtain ⟨a,n⟩:=x
 unfold YV at hm
 simp only at hm
 split at hm
 ·rename_i hc
  cases hm
  obtain ⟨ha,h0,h1⟩:=hc
  obtain ⟨k,rfl⟩:=Int.eq_ofNat_of_zero_le h0
  have hk:k≤16:=by omega
  unfold X0
  skip
  rcases ha with rfl|rfl
  ·match k,hk with
   | 0,_=>refine PC_of (n:=60) ?_; kernel_rfl
   | 1,_=>refine PC_of (n:=60) ?_; kernel_rfl
   | 2,_=>refine PC_of (n:=60) ?_; kernel_rfl
   | 3,_=>refine PC_of (n:=60) ?_; kernel_rfl
   | 4,_=>refine PC_of (n:=60) ?_; kernel_rfl
   | 5,_=>refine PC_of (n:=60) ?_; kernel_rfl
   | 6,_=>refine PC_of (n:=60) ?_; kernel_rfl
   | 7,_=>refine PC_of (n:=60) ?_; kernel_rfl
   | 8,_=>refine PC_of (n:=60) ?_; kernel_rfl
   | 9,_=>refine PC_of (n:=60) ?_; kernel_rfl
   | 10,_=>refine PC_of (n:=60) ?_; kernel_rfl
   | 11,_=>refine PC_of (n:=60) ?_; kernel_rfl
   | 12,_=>refine PC_of (n:=60) ?_; kernel_rfl
   | 13,_=>refine PC_of (n:=60) ?_; kernel_rfl
   | 14,_=>refine PC_of (n:=60) ?_; kernel_rfl
   | 15,_=>refine PC_of (n:=60) ?_; kernel_rfl
   | 16,_=>refine PC_of (n:=60) ?_; kernel_rfl
  ·match k,hk with
   | 0,_=>refine PC_of (n:=60) ?_; kernel_rfl
   | 1,_=>refine PC_of (n:=60) ?_; kernel_rfl
   | 2,_=>refine PC_of (n:=60) ?_; kernel_rfl
   | 3,_=>refine PC_of (n:=60) ?_; kernel_rfl
   | 4,_=>refine PC_of (n:=60) ?_; kernel_rfl
   | 5,_=>refine PC_of (n:=60) ?_; kernel_rfl
   | 6,_=>refine PC_of (n:=60) ?_; kernel_rfl
   | 7,_=>refine PC_of (n:=60) ?_; kernel_rfl
   | 8,_=>refine PC_of (n:=60) ?_; kernel_rfl
   | 9,_=>refine PC_of (n:=60) ?_; kernel_rfl
   | 10,_=>refine PC_of (n:=60) ?_; kernel_rfl
   | 11,_=>refine PC_of (n:=60) ?_; kernel_rfl
   | 12,_=>refine PC_of (n:=60) ?_; kernel_rfl
   | 13,_=>refine PC_of (n:=60) ?_; kernel_rfl
   | 14,_=>refine PC_of (n:=60) ?_; kernel_rfl
   | 15,_=>refine PC_of (n:=60) ?_; kernel_rfl
   | 16,_=>refine PC_of (n:=60) ?_; kernel_rfl
 ·cases hm
def Qb2 (x:Int):Option (List Int) :=
 match x with
 | p0 =>
 YV (1,p0)>>=fun v1 =>
 some v1
def Qew:Int→(List Int)→Prop:=fun x r=>match x,r with
 | p0,r0=>∀ H,PC prog env 160 ([(Qj p0)].map .dat) H (La r0) H
theorem Qfw:∀ x r,Qb2 x=some r→Qew x r:=by
 intro p0 r0 hm
 unfold Qb2 at hm
 unfold Qew
 intro H
 refine PC_sx (ds:=[(Qj p0)]) (fn:=f160) rfl ?_
 refine Qd (R_G (Qb 1 (Qf (Qd (R_G (Qb 2 ?_))))))
 obtain ⟨v1,hx,hm⟩:=Qi hm
 have hq:=Qcw _ _ hx
 dsimp only [X0] at hq
 replace hq:=hq
 refine QX hq ?_
 refine Qb 1 (Qf (Qo ?_))
 obtain rfl:=Qs hm
 exact ⟨trivial,YO [(.arr 0 0 v1.length v1.length)] (by kernel_rfl) (po_arr (pc_arr Qj v1 rfl (fun _=>rfl) (by kernel_rfl)))⟩
def JZ (x:((List Int) × Int)):Option ((List Int) × Int) :=
 match x with
 | (p0,p1) =>
 if (p0.length:Int) > 0 then
  some (p0,0)
 else
 if p1 > 16 then
  some (([]:(List Int)),7)
 else
 Qb2 p1>>=fun (v1:(List Int)) =>
 some (v1,0)
def Qex:((List Int) × Int)→((List Int) × Int)→Prop:=fun x r=>match x,r with
 | (p0,p1),(r0,r1)=>∀ H,PC prog env 142 ([(Lb p0),(Qj p1)].map .dat) H (.tup [(La r0),(Qe r1)]) H
theorem Qez:∀ x r,JZ x=some r→Qex x r:=by
 intro x r hm
 unfold JZ at hm
 unfold Qex
 obtain ⟨p0,p1⟩:=x
 obtain ⟨r0,r1⟩:=r
 intro H
 refine PC_sx (ds:=[(Lb p0),(Qj p1)]) (fn:=f142) rfl ?_
 refine Qd (R_G (Qb 2 (Qf (Qd (Qu (Qd (R_G (Qb 1 ?_))))))))
 refine QV Qj p0 (es:=(List.map Qj) p0) rfl ?_
 refine Qb 2 (Qf ?_)
 refine Qx hm (rfl) (fun hm=>?_) (fun hm=>?_)
 ·refine Qd (R_G (Qb 3 (Qf (Qo ?_))))
  obtain ⟨rfl,rfl⟩:=Q8 hm
  exact ⟨trivial,Qk⟩
 refine Qd (R_G (Qb 3 (Qf ?_)))
 refine Qx hm (rfl) (fun hm=>?_) (fun hm=>?_)
 ·refine Qd (R_G (Qb 2 (Qf (Qo ?_))))
  obtain ⟨rfl,rfl⟩:=Q8 hm
  exact ⟨trivial,Qk⟩
 refine Qp (Qd (R_G (Qb 1 ?_)))
 obtain ⟨v1,hx,hm⟩:=Qi hm
 have hq:=Qfw _ _ hx []
 refine Qq hq ?_
 refine Qb 2 (Qf (Qo ?_))
 obtain ⟨rfl,rfl⟩:=Q8 hm
 exact ⟨trivial,Qk⟩
def Xk (x:Int):Option (Int × Int) :=
 match x with
 | p0 =>
 (if p0 > 65536 then
  some true
 else
 some (decide (p0 < (-65536)))
 )>>=fun (v1:Bool) =>
 if v1=true then
  some (0,7)
 else
 some ((if p0 < (W (0 - p0)) then (W (0 - p0)) else p0),0)
def Qcp:Int→(Int × Int)→Prop:=fun x r=>match x,r with
 | p0,(r0,r1)=>∀ H,PC prog env 143 ([(Qj p0)].map .dat) H (.tup [(Qe r0),(Qe r1)]) H
theorem Qcv:∀ x r,Xk x=some r→Qcp x r:=by
 intro p0 r hm
 unfold Xk at hm
 unfold Qcp
 obtain ⟨r0,r1⟩:=r
 intro H
 refine PC_sx (ds:=[(Qj p0)]) (fn:=f143) rfl ?_
 refine Qd (R_G (Qb 2 (Qf (Qd (Qd ?_)))))
 obtain ⟨v1,hs,hm⟩:=Qi hm
 refine Xc (fun d=>⟨sl d 14 [(0,(Qe p0)),(9,(Qn v1))],[]⟩) ?_ (fun d=>?_)
 ·replace hm:=hs
  clear hs
  refine R_G (Qb 3 ?_)
  refine Qz 6 hm (rfl) (fun hm=>?_) (fun hm=>?_)
  ·refine Qb 3 (Qf ?_)
   obtain rfl:=Qs hm
   exact Qr
  refine Qb 3 (Qf ?_)
  obtain rfl:=Qs hm
  exact Qr
 clear hs
 refine Qx hm (QG _) (fun hm=>?_) (fun hm=>?_)
 ·refine Qd (R_G (Qb 2 (Qf (Qo ?_))))
  obtain ⟨rfl,rfl⟩:=Q8 hm
  exact ⟨trivial,Qk⟩
 refine Qp (Qd (R_G (Qb 3 ?_)))
 refine Zq rfl (fun _=>QfZ (k:=.i64) (m:=p0) (n:=(W (0 - p0))) rfl (by kernel_rfl) (by kernel_rfl)) ?_
 refine Qb 2 (Qf (Qo ?_))
 obtain ⟨rfl,rfl⟩:=Q8 hm
 exact ⟨trivial,Qk⟩
def XR (x:((List Int) × (List Int) × Bool × Nat)):Option (Unit) :=
 match x with
 | (q0,q1,q2,q3) =>
 some ()
def Qak:((List Int) × (List Int) × Bool × Nat)→Unit→Prop:=fun x r=>match x with
 | (q0,q1,q2,q3)=>PC prog env 144 [(.vec 3 ((List.map Qj) q0))] [(.box [(La q1),(Qn q2)]),Qv,(.tok 3 q3),(.tok 3 q0.length)] (match r with|_=>(.fn 161 [(.ptr 4 0)])) (match r with|_=>[(.box [(La q1),(Qn q2)]),Qv,(.tok 3 q3),(.tok 3 q0.length),(.box [(.vec 3 ((List.map Qj) q0))])])
theorem Qdp:∀ x r,XR x=some r→Qak x r:=by
 intro x r hm
 unfold XR at hm
 unfold Qak
 obtain ⟨q0,q1,q2,q3⟩:=x
 refine PC_sxB (fn:=f144) rfl ?_
 refine Qd (R_G (Qb 2 (Qf (Qd (R_G (Qb 2 (Qf (Qo ?_))))))))
 obtain rfl:=Qs hm
 exact ⟨trivial,QK (by kernel_rfl) (by kernel_rfl)⟩
def Xu (x:((List Int) × Bool × (List Int) × (List Int) × (List Int) × Nat)):Option (Unit) :=
 match x with
 | (q0,q1,q2,q3,q4,q5) =>
 some ()
def Js:((List Int) × Bool × (List Int) × (List Int) × (List Int) × Nat)→Unit→Prop:=fun x r=>match x with
 | (q0,q1,q2,q3,q4,q5)=>PC prog env 161 [(.ptr 9 0),(.ptr 4 0)] [(.box [(La q0),(Qn q1)]),Qv,(.tok 3 q5),(.tok 3 q2.length),(.box [(.vec 3 ((List.map Qj) q2))]),Ju,Qv,(.mt 3 1 (cellsOf Qj q3)),(.mt 3 1 (cellsOf Qj q4)),(.box [Ea,(.ms 7 1 0 q3.length q3.length),(.ms 8 1 0 q4.length q4.length),Ea,(Qe (-1)),(Qe 0),Ea])] (match r with|_=>(.tup [])) (match r with|_=>[(.box [(La q0),(Qn q1)]),Qv,(.tok 3 q5),(.tok 3 q2.length),(.box [(.vec 3 ((List.map Qj) q2))]),Ju,Qv,(.mt 3 1 (cellsOf Qj q3)),(.mt 3 1 (cellsOf Qj q4)),(.box [Ea,(.ms 7 1 0 q3.length q3.length),(.ms 8 1 0 q4.length q4.length),(.vec 3 ((List.map Qj) q2)),(Qe (-1)),(Qe 0),Ea])])
theorem QcU:∀ x r,Xu x=some r→Js x r:=by
 intro x r hm
 unfold Xu at hm
 unfold Js
 obtain ⟨q0,q1,q2,q3,q4,q5⟩:=x
 refine PC_sxB (fn:=f161) rfl ?_
 refine R_G (Qb 5 (Qf ?_))
 obtain rfl:=Qs hm
 exact ⟨trivial,QK (by kernel_rfl) (by kernel_rfl)⟩
def JI (x:((List Int) × (List Int) × (List Int) × Bool × (List Int))):Option (Int ⊕ ((List Int) × (List Int))) :=
 match x with
 | (q0,q1,q2,q3,q4) =>
 Zg q1>>=fun (v1:Int) =>
 if v1≠0 then
  some (Sum.inl v1)
 else
 Qy q0>>=fun v2 =>
 Qy q1>>=fun v3 =>
 Xu (q2,q3,q4,v2,v3,q1.length)>>=fun (_:Unit) =>
 some (Sum.inr (v2,v3))
def JA:((List Int) × (List Int) × (List Int) × Bool × (List Int))→(Int ⊕ ((List Int) × (List Int)))→Prop:=fun x r=>match x with
 | (q0,q1,q2,q3,q4)=>PC prog env 114 [(La q0),(.vec 2 ((List.map Qj) q1)),(.arr 5 0 1 1)] [(.box [(La q2),(Qn q3)]),Qv,(.tok 3 q1.length),(.tok 3 q4.length),(.box [(.vec 3 ((List.map Qj) q4))]),Ju] (match r with|.inl v5001=>(.tup [(.dat (.agg [Eb,Eb,Eb,Eb,(Qj 0),(Qj 0),Eb])),(Qe v5001)])|.inr ((v5002,v5003))=>(.tup [(.agg [Ea,(.ms 7 1 0 v5002.length v5002.length),(.ms 8 1 0 v5003.length v5003.length),(.vec 3 ((List.map Qj) q4)),(Qe (-1)),(Qe 0),Ea]),(Qe 0)])) (match r with|.inl v5001=>[(.box [(La q2),(Qn q3)]),Qv,(.tok 3 q1.length),(.tok 3 q4.length),(.box [(.vec 3 ((List.map Qj) q4))]),Ju,Qv]|.inr ((v5002,v5003))=>[(.box [(La q2),(Qn q3)]),Qv,(.tok 3 q1.length),(.tok 3 q4.length),(.box [(.vec 3 ((List.map Qj) q4))]),Ju,(.box [Ea,(.ms 7 1 0 v5002.length v5002.length),(.ms 8 1 0 v5003.length v5003.length),(.vec 3 ((List.map Qj) q4)),(Qe (-1)),(Qe 0),Ea]),(.mt 3 1 (cellsOf Qj v5002)),(.mt 3 1 (cellsOf Qj v5003)),(.box [Ea,(.ms 7 1 0 v5002.length v5002.length),(.ms 8 1 0 v5003.length v5003.length),(.vec 3 ((List.map Qj) q4)),(Qe (-1)),(Qe 0),Ea])])
theorem Qb9:∀ x r,JI x=some r→JA x r:=by
 intro x r hm
 unfold JI at hm
 unfold JA
 obtain ⟨q0,q1,q2,q3,q4⟩:=x
 refine PC_sxB (fn:=f114) rfl ?_
 refine Qd (R_G (Qb 2 (Qf (Qd (Qd (R_G (Qb 1 ?_)))))))
 obtain ⟨v1,hx,hm⟩:=Qi hm
 have hq:=ZJ _ _ hx []
 refine Qq hq ?_
 refine Qb 1 (Qf (Qd (R_G (Qb 2 (Qf ?_)))))
 refine Qx hm (ne_dec _ _) (fun hm=>?_) (fun hm=>?_)
 ·refine Qd (R_G (Qb 4 (Qf (Qo ?_))))
  obtain rfl:=Qs hm
  exact ⟨trivial,QK (by kernel_rfl) (by kernel_rfl)⟩
 refine Qp (Qd (R_G (Qb 1 ?_)))
 obtain ⟨v2,hx,hm⟩:=Qi hm
 have hq:=QF _ _ hx
 dsimp only [QA] at hq
 have hl9:mtOf [Blk.mt 3 (cgm_slices_Clone_int_int v2) (cellsOf Qj v2)] 0=some (3,cgm_slices_Clone_int_int v2,cellsOf Qj v2):=ZD (by kernel_rfl)
 refine ZB (v:=.ms 7 1 0 v2.length v2.length) (fun H=>H++[.mt 3 1 (cellsOf Qj v2)]) rfl (by kernel_rfl) ?_ ?_
 ·intro K hk
  refine Zp 7 (first:=#[]) (cap:=#[]) (j:=(0,3)) (ow':=[]) (f0:=Qj) (l:=v2) rfl ?_ ?_ ?_ (ds:=[.lst ((List.map Qj) q0)]) ?_ hq hl9 ?_ ?_ ?_
  ·kernel_rfl
  ·kernel_rfl
  ·kernel_rfl
  ·kernel_rfl
  ·exact hk
  ·kernel_rfl
  ·decide
 refine Qb 1 ?_
 obtain ⟨v3,hx,hm⟩:=Qi hm
 have hq:=QF _ _ hx
 dsimp only [QA] at hq
 have hl9:mtOf [Blk.mt 3 (cgm_slices_Clone_int_int v3) (cellsOf Qj v3)] 0=some (3,cgm_slices_Clone_int_int v3,cellsOf Qj v3):=ZD (by kernel_rfl)
 refine ZB (v:=.ms 8 1 0 v3.length v3.length) (fun H=>H++[.mt 3 1 (cellsOf Qj v3)]) rfl (by kernel_rfl) ?_ ?_
 ·intro K hk
  refine Zp 8 (first:=#[]) (cap:=#[]) (j:=(0,3)) (ow':=[]) (f0:=Qj) (l:=v3) rfl ?_ ?_ ?_ (ds:=[.lst ((List.map Qj) q1)]) ?_ hq hl9 ?_ ?_ ?_
  ·kernel_rfl
  ·kernel_rfl
  ·kernel_rfl
  ·kernel_rfl
  ·exact hk
  ·kernel_rfl
  ·decide
 refine Qb 3 (Qf (Qd (Qd (R_G (Qb 1 (Qb 1 (Qb 1 (Qf (Qu ?_)))))))))
 refine Za ?_
 refine RL_at (st':=⟨kp 33 [(6,(.ptr 6 0)),(9,(.ptr 9 0)),(23,(.arr 5 0 1 1)),(24,(Qe 1)),(25,(Qe 0))],[(.box [(La q2),(Qn q3)]),Qv,(.tok 3 q1.length),(.tok 3 q4.length),(.box [(.vec 3 ((List.map Qj) q4))]),Ju,Qv,(.mt 3 1 (cellsOf Qj v2)),(.mt 3 1 (cellsOf Qj v3)),(.box [Ea,(.ms 7 1 0 v2.length v2.length),(.ms 8 1 0 v3.length v3.length),Ea,(Qe (-1)),(Qe 0),Ea])]⟩) (prune_of2 [(.box [(La q2),(Qn q3)]),Qv,(.tok 3 q1.length),(.tok 3 q4.length),(.box [(.vec 3 ((List.map Qj) q4))]),Ju,Qv,(.mt 3 1 (cellsOf Qj v2)),(.mt 3 1 (cellsOf Qj v3)),(.box [Ea,(.ms 7 1 0 v2.length v2.length),(.ms 8 1 0 v3.length v3.length),Ea,(Qe (-1)),(Qe 0),Ea])] (fun _=>(pg_cons (by kernel_rfl) (pg_cons (by kernel_rfl) (pg_cons (by kernel_rfl) (pg_cons (by kernel_rfl) (pg_cons (by kernel_rfl) (pg_cons (by kernel_rfl) (pg_cons (by kernel_rfl) (pg_cons (purge_mt Qj _ _ _ _ _) (pg_cons (purge_mt Qj _ _ _ _ _) (pg_cons (by kernel_rfl) pg_nil))))))))))) rfl) ?_
 refine Qd (R_G (Qb 1 (Qf (Qd ?_))))
 refine QaA (by kernel_rfl) ?_
 refine Qp (Qd (Qu (Qd (R_G (Qb 1 (Qb 2 (Qf (R_G (Qb 1 ?_)))))))))
 obtain ⟨_,hx,hm⟩:=Qi hm
 have hq:=QcU _ _ hx
 dsimp only [Js] at hq
 refine QX hq ?_
 refine Qf (R_G (Qb 2 (Qf ?_)))
 refine RL_at (st':=⟨kp 33 [(6,(.ptr 6 0)),(9,(.ptr 9 0)),(23,(.arr 5 0 1 1)),(24,(Qe 1)),(25,(Qe 1))],[(.box [(La q2),(Qn q3)]),Qv,(.tok 3 q1.length),(.tok 3 q4.length),(.box [(.vec 3 ((List.map Qj) q4))]),Ju,Qv,(.mt 3 1 (cellsOf Qj v2)),(.mt 3 1 (cellsOf Qj v3)),(.box [Ea,(.ms 7 1 0 v2.length v2.length),(.ms 8 1 0 v3.length v3.length),(.vec 3 ((List.map Qj) q4)),(Qe (-1)),(Qe 0),Ea])]⟩) (prune_of2 [(.box [(La q2),(Qn q3)]),Qv,(.tok 3 q1.length),(.tok 3 q4.length),(.box [(.vec 3 ((List.map Qj) q4))]),Ju,Qv,(.mt 3 1 (cellsOf Qj v2)),(.mt 3 1 (cellsOf Qj v3)),(.box [Ea,(.ms 7 1 0 v2.length v2.length),(.ms 8 1 0 v3.length v3.length),(.vec 3 ((List.map Qj) q4)),(Qe (-1)),(Qe 0),Ea])] (fun _=>(pg_cons (by kernel_rfl) (pg_cons (by kernel_rfl) (pg_cons (by kernel_rfl) (pg_cons (by kernel_rfl) (pg_cons (by kernel_rfl) (pg_cons (by kernel_rfl) (pg_cons (by kernel_rfl) (pg_cons (purge_mt Qj _ _ _ _ _) (pg_cons (purge_mt Qj _ _ _ _ _) (pg_cons (by kernel_rfl) pg_nil))))))))))) rfl) ?_
 refine Qd (R_G (Qb 1 (Qf (Qd ?_))))
 refine YN (by kernel_rfl) ?_
 refine Q7 (Qd (R_G (Qb 3 (Qf (Qo ?_)))))
 obtain rfl:=Qs hm
 exact ⟨trivial,QK (by kernel_rfl) (by kernel_rfl)⟩
def Ye (x:(QE × (List Int) × (List Int) × (List Int) × Int)):Option (((List Int) × (List Int) × (List Int) × (List Int) × Int × Int × (List Int) × Int × Nat × Nat) ⊕ ((List Int) × (List Int))) :=
 match x with
 | (p0,v1,v207,v208,v209) =>
 if v209 < (p0.values.length:Int) then
  idx p0.values v209>>=fun v619 =>
  Xk v619>>=fun ((v620,v621):(Int × Int)) =>
  if v621≠0 then
   Zj v621>>=fun ((v622,v623):(Qm × Int)) =>
   some (Sum.inl (v622.left,v622.right,v622.shape,v622.starts,v622.axis,v622.amount,v622.perm,v623,v207.length,v208.length))
  else
  app 8 v207 ([v620]:List Int)>>=fun v624 =>
  if v619 < 0 then
   idx v1 v209>>=fun v625 =>
   app 8 v208 ([(W (v625 - v620))]:List Int)>>=fun v626 =>
   Ye (p0,v1,v624,v626,(W (v209+1)))
  else
  app 8 v208 ([0]:List Int)>>=fun v627 =>
  Ye (p0,v1,v624,v627,(W (v209+1)))
 else
 some (Sum.inr (v207,v208))
 partial_fixpoint
def Qc6:(QE × (List Int) × (List Int) × (List Int) × Int)→(((List Int) × (List Int) × (List Int) × (List Int) × Int × Int × (List Int) × Int × Nat × Nat) ⊕ ((List Int) × (List Int)))→Prop:=fun x r=>match x with
 | (p0,v1,v207,v208,v209)=>∀ st,prune 4 ((QB (QJ [1,1,1,1,1,0,1,0,0] (QO f120))).bind (env.hint 120).keepAt) st=⟨kp 83 [(4,(.ptr 1 0)),(6,(La v1)),(8,(.vec 2 ((List.map Qj) v207))),(9,(.vec 3 ((List.map Qj) v208))),(38,(La p0.values)),(39,(Qe (p0.values.length:Int))),(40,(Qe v209))],[(.box [(La p0.values),(Qn p0.scalar)]),Qv,(.tok 3 v207.length),(.tok 3 v208.length)]⟩ →
  RL prog env (env.hint 120) true (QJ [1,1,1,1,1,0,1,0,0] (QO f120)) 4 st (fun e s=>match r with|.inl (v607,v608,v609,v610,v611,v612,v613,v614,v615,v616)=>e=.ret∧∃ d,s=⟨sl d 83 [(4,(.ptr 1 0)),(5,(Qe v614))],[(.box [(La p0.values),(Qn p0.scalar)]),(.box [(La v607),(La v608),(La v609),(La v610),(Qe v611),(Qe v612),(La v613)]),(.tok 3 v615),(.tok 3 v616)]⟩|.inr ((v617,v618))=>e=.exit 0∧∃ d,s=⟨sl d 83 [(4,(.ptr 1 0)),(6,(La v1)),(8,(.vec 2 ((List.map Qj) v617))),(9,(.vec 3 ((List.map Qj) v618)))],[(.box [(La p0.values),(Qn p0.scalar)]),Qv,(.tok 3 v617.length),(.tok 3 v618.length)]⟩)
theorem J1:∀ x r,Ye x=some r→Qc6 x r:=by
 refine Ye.partial_correctness _ (fun Ye J1 x r hm=>?_)
 unfold Qc6
 obtain ⟨p0,v1,v207,v208,v209⟩:=x
 intro st hst
 refine RL_at hst ?_
 clear hst
 refine Qd (R_G (Qb 1 (Qf (Qd ?_))))
 refine Qx hm (rfl) (fun hm=>?_) (fun hm=>?_)
 ·refine Qp (Qd (Qu (Qd (R_G (Qb 1 ?_)))))
  refine Zt 1 Qj hm rfl (fun _=>rfl) (fun v619 hm=>?_)
  refine Qb 3 (Qf (Qd (R_G (Qb 1 ?_))))
  obtain ⟨⟨v620,v621⟩,hx,hm⟩:=Qi hm
  have hq:=Qcv _ _ hx []
  refine Qq hq ?_
  refine Qb 5 (Qf (Qd (Qd (R_G (Qb 2 (Qf ?_))))))
  refine Qx hm (ne_dec _ _) (fun hm=>?_) (fun hm=>?_)
  ·refine Qd (R_G (Qb 1 ?_))
   obtain ⟨⟨v622,v623⟩,hx,hm⟩:=Qi hm
   have hq:=ZI _ _ hx []
   refine Qq hq ?_
   refine Qb 4 (Qf (Qo ?_))
   obtain rfl:=Qs hm
   exact ⟨rfl,Qr⟩
  refine Qp (Qd (R_G (Qb 3 ?_)))
  obtain ⟨v624,hx,hm⟩:=Qi hm
  refine QcJ 3 1 8 2 Qj v207 ([v620]:List Int) v624 (xs:=(List.map Qj) v207) (es:=(List.map Qj) ([v620]:List Int)) (L:=(List.map Qj)) (fun _=>rfl) rfl rfl (fun _=>rfl) hx ?_
  refine Qb 1 (Qf (Qd (R_G (Qb 2 (Qf ?_)))))
  refine Qx hm (rfl) (fun hm=>?_) (fun hm=>?_)
  ·refine R_G (Qb 3 ?_)
   refine Zt 1 Qj hm rfl (fun _=>rfl) (fun v625 hm=>?_)
   refine Qb 4 ?_
   obtain ⟨v626,hx,hm⟩:=Qi hm
   refine QcJ 3 1 8 3 Qj v208 ([(W (v625 - v620))]:List Int) v626 (xs:=(List.map Qj) v208) (es:=(List.map Qj) ([(W (v625 - v620))]:List Int)) (L:=(List.map Qj)) (fun _=>rfl) rfl rfl (fun _=>rfl) hx ?_
   refine Qb 1 (Qf (R_G (Qb 2 (Qf ?_))))
   exact J1 _ _ hm _ (by kernel_rfl)
  refine R_G (Qb 2 ?_)
  obtain ⟨v627,hx,hm⟩:=Qi hm
  refine QcJ 3 1 8 3 Qj v208 ([0]:List Int) v627 (xs:=(List.map Qj) v208) (es:=(List.map Qj) ([0]:List Int)) (L:=(List.map Qj)) (fun _=>rfl) rfl rfl (fun _=>rfl) hx ?_
  refine Qb 1 (Qf (R_G (Qb 2 (Qf ?_))))
  exact J1 _ _ hm _ (by kernel_rfl)
 refine Q7 ?_
 obtain rfl:=Qs hm
 exact ⟨rfl,Qr⟩
def Qbq (x:(QE × (List Int))):Option (Qm × Int) :=
 match x with
 | (p0,p1) =>
 JZ (p1,(p0.values.length:Int))>>=fun ((v1,v2):((List Int) × Int)) =>
 if v2≠0 then
  Zj v2>>=fun ((v3,v4):(Qm × Int)) =>
  some (v3,v4)
 else
 if (p0.values.length:Int)≠(v1.length:Int) then
  Zj 5>>=fun ((v5,v6):(Qm × Int)) =>
  some (v5,v6)
 else
 (
 Ye (p0,v1,([]:List Int),([]:List Int),0)>>=fun (out:((List Int) × (List Int) × (List Int) × (List Int) × Int × Int × (List Int) × Int × Nat × Nat) ⊕ ((List Int) × (List Int))) =>
 match out with
 | .inl (v607,v608,v609,v610,v611,v612,v613,v614,v615,v616) =>
  some ((⟨v607,v608,v609,v610,v611,v612,v613⟩:Qm),v614)
 | .inr ((v617,v618)) =>
  XR (v618,p0.values,p0.scalar,v617.length)>>=fun (_:Unit) =>
  (
  JI (v1,v617,p0.values,p0.scalar,v618)>>=fun (out:Int ⊕ ((List Int) × (List Int))) =>
  match out with
  | .inl v628 =>
   some ((⟨([]:(List Int)),([]:(List Int)),([]:(List Int)),([]:(List Int)),0,0,([]:(List Int))⟩:Qm),v628)
  | .inr ((v629,v630)) =>
   some ((⟨([]:(List Int)),v629,v630,v618,(-1),0,([]:(List Int))⟩:Qm),0)
  )
 )
def Qev:(QE × (List Int))→(Qm × Int)→Prop:=fun x r=>match x,r with
 | (p0,p1),(r0,r1)=>∀ H,PC prog env 120 ([(QE.toD p0),(Lb p1)].map .dat) H (.tup [(.dat (Qm.toD r0)),(Qe r1)]) H
theorem Qfv:∀ x r,Qbq x=some r→Qev x r:=by
 intro x r hm
 unfold Qbq at hm
 unfold Qev
 obtain ⟨p0,p1⟩:=x
 obtain ⟨r0,r1⟩:=r
 intro H
 refine PC_sx (ds:=[(QE.toD p0),(Lb p1)]) (fn:=f120) rfl ?_
 refine Qd (R_G (Qb 3 (Qf (Qd (R_G (Qb 3 ?_))))))
 refine QV Qj p0.values (es:=(List.map Qj) p0.values) rfl ?_
 obtain ⟨⟨v1,v2⟩,hx,hm⟩:=Qi hm
 have hq:=Qez _ _ hx []
 refine Qq hq ?_
 refine Qb 5 (Qf (Qd (Qd (R_G (Qb 2 (Qf ?_))))))
 refine Qx hm (ne_dec _ _) (fun hm=>?_) (fun hm=>?_)
 ·refine Qd (R_G (Qb 1 ?_))
  obtain ⟨⟨v3,v4⟩,hx,hm⟩:=Qi hm
  have hq:=ZI _ _ hx []
  refine Qq hq ?_
  refine Qb 4 (Qf (Qo ?_))
  obtain ⟨rfl,rfl⟩:=Q8 hm
  exact ⟨trivial,Qk⟩
 refine Qp (Qd (Qd (R_G (Qb 2 ?_))))
 refine QV Qj p0.values (es:=(List.map Qj) p0.values) rfl ?_
 refine Qb 1 ?_
 refine QV Qj v1 (es:=(List.map Qj) v1) rfl ?_
 refine Qb 1 (Qf ?_)
 refine Qx hm (ne_dec _ _) (fun hm=>?_) (fun hm=>?_)
 ·refine Qd (R_G ?_)
  obtain ⟨⟨v5,v6⟩,hx,hm⟩:=Qi hm
  have hq:=ZI _ _ hx []
  refine Qq hq ?_
  refine Qb 4 (Qf (Qo ?_))
  obtain ⟨rfl,rfl⟩:=Q8 hm
  exact ⟨trivial,Qk⟩
 refine Qp (Qd (R_G (Qb 2 (Qf (Qd (Qd (R_G (Qb 2 ?_))))))))
 refine QV Qj p0.values (es:=(List.map Qj) p0.values) rfl ?_
 refine Qb 1 (Qf (Qu ?_))
 obtain ⟨out,hs,hm⟩:=Qi hm
 refine Za ?_
 rcases out with ⟨v607,v608,v609,v610,v611,v612,v613,v614,v615,v616⟩|⟨v617,v618⟩
 ·refine RL_use (J1 _ _ hs) (by kernel_rfl) ?_
  clear hs
  intro e s hp
  obtain ⟨rfl,d,rfl⟩:=hp
  obtain ⟨rfl,rfl⟩:=Q8 hm
  exact ⟨trivial,Qk⟩
 ·refine RL_use (J1 _ _ hs) (by kernel_rfl) ?_
  clear hs
  intro e s hp
  obtain ⟨rfl,d,rfl⟩:=hp
  refine Qd (R_G (Qb 3 ?_))
  obtain ⟨_,hx,hm⟩:=Qi hm
  have hq:=Qdp _ _ hx
  dsimp only [Qak] at hq
  refine QX hq ?_
  refine Qb 1 ?_
  obtain ⟨out,hx,hm⟩:=Qi hm
  rcases out with v628|⟨v629,v630⟩
  ·have hq:=Qb9 _ _ hx
   dsimp only [JA] at hq
   refine QX hq ?_
   refine Qb 4 (Qf (Qo ?_))
   obtain ⟨rfl,rfl⟩:=Q8 hm
   exact ⟨trivial,Qk⟩
  ·have hq:=Qb9 _ _ hx
   dsimp only [JA] at hq
   refine QX hq ?_
   refine Qb 4 (Qf (Qo ?_))
   obtain ⟨rfl,rfl⟩:=Q8 hm
   exact ⟨trivial,YO [(.agg [Ea,(.ms 7 1 0 v629.length v629.length),(.ms 8 1 0 v630.length v630.length),(.vec 3 ((List.map Qj) v618)),(Qe (-1)),(Qe 0),Ea]),(Qe 0)] (by kernel_rfl) (po_tup (ps_cons (p1_agg (pc_cons (by kernel_rfl) (pc_cons (pc_ms (e:=3) Qj v629 rfl (fun _=>rfl) (by kernel_rfl)) (pc_cons (pc_ms (e:=3) Qj v630 rfl (fun _=>rfl) (by kernel_rfl)) (pc_cons (by kernel_rfl) (pc_cons (by kernel_rfl) (pc_cons (by kernel_rfl) (pc_cons (by kernel_rfl) pc_nil)))))))) (ps_cons (by kernel_rfl) ps_nil)))⟩
def Jn (x:(Qm × Qh)):Option Qh :=
 match x with
 | (p0,p1) =>
 JT (p1,p0.right)>>=fun (v1:Qh) =>
 some (⟨2,p0.shape,0,p0.starts,0,0,([]:(List Int)),([(⟨v1.kind,v1.shape,v1.buffer,v1.starts,v1.axis,v1.amount,v1.perm,v1.kids⟩:Qh)]:(List Qh))⟩:Qh)
def Qdu:(Qm × Qh)→Qh→Prop:=fun x r=>match x,r with
 | (p0,p1),r0=>∀ H,PC prog env 121 ([(Qm.toD p0),(Qh.ex p1)].map .dat) H (.dat (Qh.ex r0)) H
theorem QdO:∀ x r,Jn x=some r→Qdu x r:=by
 intro x r0 hm
 unfold Jn at hm
 unfold Qdu
 obtain ⟨p0,p1⟩:=x
 intro H
 refine PC_sx (ds:=[(Qm.toD p0),(Qh.ex p1)]) (fn:=f121) rfl ?_
 refine Qd (R_G (Qb 3 (Qf (Qd ?_))))
 refine Qbt ?_
 refine Qb 7 ?_
 obtain ⟨v1,hx,hm⟩:=Qi hm
 have hq:=Qdf _ _ hx []
 refine Qq hq ?_
 refine Qb 3 ?_
 refine Qf ⟨by kernel_rfl,?_⟩
 refine Qo ?_
 obtain rfl:=Qs hm
 exact ⟨trivial,Qk⟩
def JY (x:(Int × Int)):Option (Int × Int) :=
 match x with
 | (p0,p1) =>
 Xk p1>>=fun ((v1,v2):(Int × Int)) =>
 (if v2≠0 then
  some true
 else
 some (decide (v1 > p0))
 )>>=fun (v3:Bool) =>
 (if v3=true then
  some p0
 else
 some v1
 )>>=fun (v4:Int) =>
 if p1 < 0 then
  some ((W (p0 - v4)),0)
 else
 some ((W (p0 - v4)),v4)
def Qc7:(Int × Int)→(Int × Int)→Prop:=fun x r=>match x,r with
 | (p0,p1),(r0,r1)=>∀ H,PC prog env 145 ([(Qj p0),(Qj p1)].map .dat) H (.tup [(Qe r0),(Qe r1)]) H
theorem QeR:∀ x r,JY x=some r→Qc7 x r:=by
 intro x r hm
 unfold JY at hm
 unfold Qc7
 obtain ⟨p0,p1⟩:=x
 obtain ⟨r0,r1⟩:=r
 intro H
 refine PC_sx (ds:=[(Qj p0),(Qj p1)]) (fn:=f145) rfl ?_
 refine Qd (R_G (Qb 2 (Qf (Qd (R_G (Qb 1 ?_))))))
 obtain ⟨⟨v1,v2⟩,hx,hm⟩:=Qi hm
 have hq:=Qcv _ _ hx []
 refine Qq hq ?_
 refine Qb 5 (Qf (Qd (Qd ?_)))
 obtain ⟨v3,hs,hm⟩:=Qi hm
 refine Xc (fun d=>⟨sl d 30 [(0,(Qe p0)),(1,(Qe p1)),(6,(Qe v1)),(19,(Qn v3))],[]⟩) ?_ (fun d=>?_)
 ·replace hm:=hs
  clear hs
  refine R_G (Qb 3 ?_)
  refine Qz 15 hm (ne_dec _ _) (fun hm=>?_) (fun hm=>?_)
  ·refine Qb 4 (Qf ?_)
   obtain rfl:=Qs hm
   exact Qr
  refine Qb 4 (Qf ?_)
  obtain rfl:=Qs hm
  exact Qr
 clear hs
 obtain ⟨v4,hs,hm⟩:=Qi hm
 refine Xc (fun d=>⟨sl d 30 [(0,(Qe p0)),(1,(Qe p1)),(6,(Qe v4))],[]⟩) ?_ (fun d=>?_)
 ·replace hm:=hs
  clear hs
  refine Qx hm (QG _) (fun hm=>?_) (fun hm=>?_)
  ·refine R_G (Qb 2 (Qf ?_))
   obtain rfl:=Qs hm
   exact Qr
  refine Qp ?_
  obtain rfl:=Qs hm
  exact Qr
 clear hs
 refine Qd (Qd (R_G (Qb 2 (Qf ?_))))
 refine Qx hm (rfl) (fun hm=>?_) (fun hm=>?_)
 ·refine Qd (R_G (Qb 5 (Qf (Qo ?_))))
  obtain ⟨rfl,rfl⟩:=Q8 hm
  exact ⟨trivial,Qk⟩
 refine Qp (Qd (R_G (Qb 6 (Qf (Qo ?_)))))
 obtain ⟨rfl,rfl⟩:=Q8 hm
 exact ⟨trivial,Qk⟩
def XS (x:(Nat × (List Int) × Bool × (List Int) × (List Int))):Option (Unit) :=
 match x with
 | (q0,q1,q2,q3,q4) =>
 some ()
def Qal:(Nat × (List Int) × Bool × (List Int) × (List Int))→Unit→Prop:=fun x r=>match x with
 | (q0,q1,q2,q3,q4)=>PC prog env 144 [(.arr 3 0 q0 q0)] [(.box [(La q1),(Qn q2)]),Qv,(.mt 3 1 (cellsOf Qj q3)),(.box (cellsOf Qj q4))] (match r with|_=>(.fn 161 [(.ptr 4 0)])) (match r with|_=>[(.box [(La q1),(Qn q2)]),Qv,(.mt 3 1 (cellsOf Qj q3)),(.box (cellsOf Qj q4)),(.box [(.arr 3 0 q0 q0)])])
theorem Qdq:∀ x r,XS x=some r→Qal x r:=by
 intro x r hm
 unfold XS at hm
 unfold Qal
 obtain ⟨q0,q1,q2,q3,q4⟩:=x
 refine PC_sxB (fn:=f144) rfl ?_
 refine Qd (R_G (Qb 2 (Qf (Qd (R_G (Qb 2 (Qf (Qo ?_))))))))
 obtain rfl:=Qs hm
 exact ⟨trivial,QK (by kernel_rfl) (by kernel_rfl)⟩
def Xv (x:((List Int) × Bool × (List Int) × (List Int) × Nat × (List Int) × (List Int))):Option (Unit) :=
 match x with
 | (q0,q1,q2,q3,q4,q5,q6) =>
 some ()
def Jt:((List Int) × Bool × (List Int) × (List Int) × Nat × (List Int) × (List Int))→Unit→Prop:=fun x r=>match x with
 | (q0,q1,q2,q3,q4,q5,q6)=>PC prog env 161 [(.ptr 9 0),(.ptr 4 0)] [(.box [(La q0),(Qn q1)]),Qv,(.mt 3 1 (cellsOf Qj q2)),(.box (cellsOf Qj q3)),(.box [(.arr 3 0 q4 q4)]),Ju,Qv,(.mt 3 1 (cellsOf Qj q5)),(.mt 3 1 (cellsOf Qj q6)),(.box [Ea,(.ms 7 1 0 q5.length q5.length),(.ms 8 1 0 q6.length q6.length),Ea,(Qe (-1)),(Qe 0),Ea])] (match r with|_=>(.tup [])) (match r with|_=>[(.box [(La q0),(Qn q1)]),Qv,(.mt 3 1 (cellsOf Qj q2)),(.box (cellsOf Qj q3)),(.box [(.arr 3 0 q4 q4)]),Ju,Qv,(.mt 3 1 (cellsOf Qj q5)),(.mt 3 1 (cellsOf Qj q6)),(.box [Ea,(.ms 7 1 0 q5.length q5.length),(.ms 8 1 0 q6.length q6.length),(.arr 3 0 q4 q4),(Qe (-1)),(Qe 0),Ea])])
theorem QcV:∀ x r,Xv x=some r→Jt x r:=by
 intro x r hm
 unfold Xv at hm
 unfold Jt
 obtain ⟨q0,q1,q2,q3,q4,q5,q6⟩:=x
 refine PC_sxB (fn:=f161) rfl ?_
 refine R_G (Qb 5 (Qf ?_))
 obtain rfl:=Qs hm
 exact ⟨trivial,QK (by kernel_rfl) (by kernel_rfl)⟩
def JK (x:((List Int) × Nat × (List Int) × Bool × (List Int) × (List Int) × Nat)):Option (Int ⊕ ((List Int) × (List Int))) :=
 match x with
 | (q0,q1,q2,q3,q4,q5,q6) =>
 YI (q4.length=q1)>>=fun (_:Unit) =>
 Zg q4>>=fun (v2:Int) =>
 if v2≠0 then
  some (Sum.inl v2)
 else
 Qy q0>>=fun v3 =>
 YI (q4.length=q1)>>=fun (_:Unit) =>
 Qy q4>>=fun v5 =>
 Xv (q2,q3,q4,q5,q6,v3,v5)>>=fun (_:Unit) =>
 some (Sum.inr (v3,v5))
def JD:((List Int) × Nat × (List Int) × Bool × (List Int) × (List Int) × Nat)→(Int ⊕ ((List Int) × (List Int)))→Prop:=fun x r=>match x with
 | (q0,q1,q2,q3,q4,q5,q6)=>PC prog env 114 [(La q0),(.ms 2 1 0 q1 q1),(.arr 5 0 1 1)] [(.box [(La q2),(Qn q3)]),Qv,(.mt 3 1 (cellsOf Qj q4)),(.box (cellsOf Qj q5)),(.box [(.arr 3 0 q6 q6)]),Ju] (match r with|.inl v5001=>(.tup [(.dat (.agg [Eb,Eb,Eb,Eb,(Qj 0),(Qj 0),Eb])),(Qe v5001)])|.inr ((v5002,v5003))=>(.tup [(.agg [Ea,(.ms 7 1 0 v5002.length v5002.length),(.ms 8 1 0 v5003.length v5003.length),(.arr 3 0 q6 q6),(Qe (-1)),(Qe 0),Ea]),(Qe 0)])) (match r with|.inl v5001=>[(.box [(La q2),(Qn q3)]),Qv,(.mt 3 1 (cellsOf Qj q4)),(.box (cellsOf Qj q5)),(.box [(.arr 3 0 q6 q6)]),Ju,Qv]|.inr ((v5002,v5003))=>[(.box [(La q2),(Qn q3)]),Qv,(.mt 3 1 (cellsOf Qj q4)),(.box (cellsOf Qj q5)),(.box [(.arr 3 0 q6 q6)]),Ju,(.box [Ea,(.ms 7 1 0 v5002.length v5002.length),(.ms 8 1 0 v5003.length v5003.length),(.arr 3 0 q6 q6),(Qe (-1)),(Qe 0),Ea]),(.mt 3 1 (cellsOf Qj v5002)),(.mt 3 1 (cellsOf Qj v5003)),(.box [Ea,(.ms 7 1 0 v5002.length v5002.length),(.ms 8 1 0 v5003.length v5003.length),(.arr 3 0 q6 q6),(Qe (-1)),(Qe 0),Ea])])
theorem Qcc:∀ x r,JK x=some r→JD x r:=by
 intro x r hm
 unfold JK at hm
 unfold JD
 obtain ⟨q0,q1,q2,q3,q4,q5,q6⟩:=x
 refine PC_sxB (fn:=f114) rfl ?_
 refine Qd (R_G (Qb 2 (Qf (Qd (Qd (R_G (Qb 1 ?_)))))))
 obtain ⟨_,hl1,hm⟩:=Qi hm
 replace hl1:=YP hl1
 obtain ⟨v2,hx,hm⟩:=Qi hm
 have hq:=ZJ _ _ hx []
 refine QfM (args:=[(.ms 2 1 0 q1 q1)]) hq (ps_cons (p1_ms (pc_ms (e:=3) Qj q4 hl1 (fun _=>rfl) (by kernel_rfl))) ps_nil) ?_
 refine Qb 1 (Qf (Qd (R_G (Qb 2 (Qf ?_)))))
 refine Qx hm (ne_dec _ _) (fun hm=>?_) (fun hm=>?_)
 ·refine Qd (R_G (Qb 4 (Qf (Qo ?_))))
  obtain rfl:=Qs hm
  exact ⟨trivial,QK (by kernel_rfl) (by kernel_rfl)⟩
 refine Qp (Qd (R_G (Qb 1 ?_)))
 obtain ⟨v3,hx,hm⟩:=Qi hm
 have hq:=QF _ _ hx
 dsimp only [QA] at hq
 have hl9:mtOf [Blk.mt 3 (cgm_slices_Clone_int_int v3) (cellsOf Qj v3)] 0=some (3,cgm_slices_Clone_int_int v3,cellsOf Qj v3):=ZD (by kernel_rfl)
 refine ZB (v:=.ms 7 1 0 v3.length v3.length) (fun H=>H++[.mt 3 1 (cellsOf Qj v3)]) rfl (by kernel_rfl) ?_ ?_
 ·intro K hk
  refine Zp 7 (first:=#[]) (cap:=#[]) (j:=(0,3)) (ow':=[]) (f0:=Qj) (l:=v3) rfl ?_ ?_ ?_ (ds:=[.lst ((List.map Qj) q0)]) ?_ hq hl9 ?_ ?_ ?_
  ·kernel_rfl
  ·kernel_rfl
  ·kernel_rfl
  ·kernel_rfl
  ·exact hk
  ·kernel_rfl
  ·decide
 refine Qb 1 ?_
 obtain ⟨_,hl4,hm⟩:=Qi hm
 replace hl4:=YP hl4
 obtain ⟨v5,hx,hm⟩:=Qi hm
 have hq:=QF _ _ hx
 dsimp only [QA] at hq
 have hl9:mtOf [Blk.mt 3 (cgm_slices_Clone_int_int v5) (cellsOf Qj v5)] 0=some (3,cgm_slices_Clone_int_int v5,cellsOf Qj v5):=ZD (by kernel_rfl)
 refine ZB (v:=.ms 8 1 0 v5.length v5.length) (fun H=>H++[.mt 3 1 (cellsOf Qj v5)]) rfl (by kernel_rfl) ?_ ?_
 ·intro K hk
  refine Zp 8 (first:=#[]) (cap:=#[]) (j:=(0,3)) (ow':=[]) (f0:=Qj) (l:=v5) rfl ?_ ?_ ?_ (ds:=[.lst ((List.map Qj) q4)]) ?_ hq hl9 ?_ ?_ ?_
  ·kernel_rfl
  ·kernel_rfl
  ·exact plain_or (cellsOf_plain (fun _=>rfl) _)
  ·exact ps_one (v:=(.ms 2 1 0 q1 q1)) (by kernel_rfl) (p1_ms (pc_ms (e:=3) Qj q4 hl4 (fun _=>rfl) (by kernel_rfl)))
  ·exact hk
  ·kernel_rfl
  ·decide
 refine Qb 3 (Qf (Qd (Qd (R_G (Qb 1 (Qb 1 (Qb 1 (Qf (Qu ?_)))))))))
 refine Za ?_
 refine RL_at (st':=⟨kp 33 [(6,(.ptr 6 0)),(9,(.ptr 9 0)),(23,(.arr 5 0 1 1)),(24,(Qe 1)),(25,(Qe 0))],[(.box [(La q2),(Qn q3)]),Qv,(.mt 3 1 (cellsOf Qj q4)),(.box (cellsOf Qj q5)),(.box [(.arr 3 0 q6 q6)]),Ju,Qv,(.mt 3 1 (cellsOf Qj v3)),(.mt 3 1 (cellsOf Qj v5)),(.box [Ea,(.ms 7 1 0 v3.length v3.length),(.ms 8 1 0 v5.length v5.length),Ea,(Qe (-1)),(Qe 0),Ea])]⟩) (prune_of2 [(.box [(La q2),(Qn q3)]),Qv,(.mt 3 1 (cellsOf Qj q4)),(.box (cellsOf Qj q5)),(.box [(.arr 3 0 q6 q6)]),Ju,Qv,(.mt 3 1 (cellsOf Qj v3)),(.mt 3 1 (cellsOf Qj v5)),(.box [Ea,(.ms 7 1 0 v3.length v3.length),(.ms 8 1 0 v5.length v5.length),Ea,(Qe (-1)),(Qe 0),Ea])] (fun _=>(pg_cons (by kernel_rfl) (pg_cons (by kernel_rfl) (pg_cons (purge_mt Qj _ _ _ _ _) (pg_cons (purge_box Qj _ _ _) (pg_cons (by kernel_rfl) (pg_cons (by kernel_rfl) (pg_cons (by kernel_rfl) (pg_cons (purge_mt Qj _ _ _ _ _) (pg_cons (purge_mt Qj _ _ _ _ _) (pg_cons (by kernel_rfl) pg_nil))))))))))) rfl) ?_
 refine Qd (R_G (Qb 1 (Qf (Qd ?_))))
 refine QaA (by kernel_rfl) ?_
 refine Qp (Qd (Qu (Qd (R_G (Qb 1 (Qb 2 (Qf (R_G (Qb 1 ?_)))))))))
 obtain ⟨_,hx,hm⟩:=Qi hm
 have hq:=QcV _ _ hx
 dsimp only [Jt] at hq
 refine QX hq ?_
 refine Qf (R_G (Qb 2 (Qf ?_)))
 refine RL_at (st':=⟨kp 33 [(6,(.ptr 6 0)),(9,(.ptr 9 0)),(23,(.arr 5 0 1 1)),(24,(Qe 1)),(25,(Qe 1))],[(.box [(La q2),(Qn q3)]),Qv,(.mt 3 1 (cellsOf Qj q4)),(.box (cellsOf Qj q5)),(.box [(.arr 3 0 q6 q6)]),Ju,Qv,(.mt 3 1 (cellsOf Qj v3)),(.mt 3 1 (cellsOf Qj v5)),(.box [Ea,(.ms 7 1 0 v3.length v3.length),(.ms 8 1 0 v5.length v5.length),(.arr 3 0 q6 q6),(Qe (-1)),(Qe 0),Ea])]⟩) (prune_of2 [(.box [(La q2),(Qn q3)]),Qv,(.mt 3 1 (cellsOf Qj q4)),(.box (cellsOf Qj q5)),(.box [(.arr 3 0 q6 q6)]),Ju,Qv,(.mt 3 1 (cellsOf Qj v3)),(.mt 3 1 (cellsOf Qj v5)),(.box [Ea,(.ms 7 1 0 v3.length v3.length),(.ms 8 1 0 v5.length v5.length),(.arr 3 0 q6 q6),(Qe (-1)),(Qe 0),Ea])] (fun _=>(pg_cons (by kernel_rfl) (pg_cons (by kernel_rfl) (pg_cons (purge_mt Qj _ _ _ _ _) (pg_cons (purge_box Qj _ _ _) (pg_cons (by kernel_rfl) (pg_cons (by kernel_rfl) (pg_cons (by kernel_rfl) (pg_cons (purge_mt Qj _ _ _ _ _) (pg_cons (purge_mt Qj _ _ _ _ _) (pg_cons (by kernel_rfl) pg_nil))))))))))) rfl) ?_
 refine Qd (R_G (Qb 1 (Qf (Qd ?_))))
 refine YN (by kernel_rfl) ?_
 refine Q7 (Qd (R_G (Qb 3 (Qf (Qo ?_)))))
 obtain rfl:=Qs hm
 exact ⟨trivial,QK (by kernel_rfl) (by kernel_rfl)⟩
def Yt (x:(QE × (List Int) × (List Int) × (List Int) × (List Int) × (List Int) × Int)):Option (((List Int) × (List Int))) :=
 match x with
 | (p0,v1,v7,v8,v209,v210,v211) =>
 if v211 < (p0.values.length:Int) then
  idx p0.values v211>>=fun v611 =>
  idx v1 v211>>=fun v612 =>
  JY (v612,v611)>>=fun ((v613,v614):(Int × Int)) =>
  YI (v209.length=v7.length)>>=fun (_:Unit) =>
  idx v209 v211>>=fun v615 =>
  setM v209 v211 v613>>=fun v617 =>
  YI (v210.length=v8.length)>>=fun (_:Unit) =>
  idx v210 v211>>=fun v618 =>
  setM v210 v211 v614>>=fun v620 =>
  Yt (p0,v1,v7,v8,v617,v620,(W (v211+1)))
 else
 some (v209,v210)
 partial_fixpoint
def Qc2:(QE × (List Int) × (List Int) × (List Int) × (List Int) × (List Int) × Int)→((List Int) × (List Int))→Prop:=fun x r=>match x with
 | (p0,v1,v7,v8,v209,v210,v211)=>∀ st,prune 4 ((QB (QJ [1,1,1,1,1,0,1,0,0] (QO f122))).bind (env.hint 122).keepAt) st=⟨kp 72 [(4,(.ptr 1 0)),(6,(La v1)),(8,(.ms 2 1 0 v7.length v7.length)),(9,(.arr 3 0 v8.length v8.length)),(41,(La p0.values)),(42,(Qe (p0.values.length:Int))),(43,(Qe v211))],[(.box [(La p0.values),(Qn p0.scalar)]),Qv,(.mt 3 1 (cellsOf Qj v209)),(.box (cellsOf Qj v210))]⟩ →
  RL prog env (env.hint 122) true (QJ [1,1,1,1,1,0,1,0,0] (QO f122)) 4 st (fun e s=>match r with|(v609,v610)=>e=.exit 0∧∃ d,s=⟨sl d 72 [(4,(.ptr 1 0)),(6,(La v1)),(8,(.ms 2 1 0 v7.length v7.length)),(9,(.arr 3 0 v8.length v8.length))],[(.box [(La p0.values),(Qn p0.scalar)]),Qv,(.mt 3 1 (cellsOf Qj v609)),(.box (cellsOf Qj v610))]⟩)
theorem QbR:∀ x r,Yt x=some r→Qc2 x r:=by
 refine Yt.partial_correctness _ (fun Yt QbR x r hm=>?_)
 unfold Qc2
 obtain ⟨p0,v1,v7,v8,v209,v210,v211⟩:=x
 intro st hst
 refine RL_at hst ?_
 clear hst
 refine Qd (R_G (Qb 1 (Qf (Qd ?_))))
 refine Qx hm (rfl) (fun hm=>?_) (fun hm=>?_)
 ·refine Qp (Qd (Qu (Qd (R_G (Qb 1 ?_)))))
  refine Zt 1 Qj hm rfl (fun _=>rfl) (fun v611 hm=>?_)
  refine Qb 3 (Qf (R_G (Qb 6 ?_)))
  refine Zt 1 Qj hm rfl (fun _=>rfl) (fun v612 hm=>?_)
  refine Qb 2 ?_
  obtain ⟨⟨v613,v614⟩,hx,hm⟩:=Qi hm
  have hq:=QeR _ _ hx []
  refine Qq hq ?_
  refine Qb 3 ?_
  obtain ⟨_,hl616,hm⟩:=Qi hm
  replace hl616:=YP hl616
  obtain ⟨v615,hx,hm⟩:=Qi hm
  refine Zq rfl (fun _=>Qeg (e:=3) (n:=v211) (j:=(v211).toNat) (tt:=2) (g:=1) (lo:=0) (len:=v7.length) (cap:=v7.length) (k:=.i64) (by kernel_rfl) (by kernel_rfl) rfl (by kernel_rfl) (by kernel_rfl) (idx_nat hx) (Nat.lt_of_lt_of_eq (idx_lt hx) hl616)) ?_
  obtain ⟨v617,hx,hm⟩:=Qi hm
  refine ZB (fun H=>H.set 2 (.mt 3 1 (cellsOf Qj v617))) rfl (by kernel_rfl) (fun _=>Qf1 Qj (l:=v209) (n:=v211) (y:=v613) hx (fun _=>rfl) (by kernel_rfl) rfl (by kernel_rfl) (by kernel_rfl) (by kernel_rfl) (by kernel_rfl)) ?_
  obtain ⟨_,hl619,hm⟩:=Qi hm
  replace hl619:=YP hl619
  obtain ⟨v618,hx,hm⟩:=Qi hm
  refine Zq rfl (fun _=>Qf5 (e:=3) (l:=v210) (n:=v211) (i:=3) (cap:=v8.length) (m:=v8.length) hx hl619 (by kernel_rfl) (by kernel_rfl) rfl (by kernel_rfl) (by kernel_rfl)) ?_
  obtain ⟨v620,hx,hm⟩:=Qi hm
  refine ZB (fun H=>H.set 3 (.box (cellsOf Qj v620))) rfl (by kernel_rfl) (fun _=>Qf8 Qj (l:=v210) (n:=v211) (y:=v614) hx (fun _=>rfl) (by kernel_rfl) rfl (by kernel_rfl) (by kernel_rfl) (by kernel_rfl) (by kernel_rfl)) ?_
  refine Qf (R_G (Qb 2 (Qf ?_)))
  exact QbR _ _ hm _ (prune_of2 [(.box [(La p0.values),(Qn p0.scalar)]),Qv,(.mt 3 1 (cellsOf Qj v617)),(.box (cellsOf Qj v620))] (fun _=>(pg_cons (by kernel_rfl) (pg_cons (by kernel_rfl) (pg_cons (purge_mt Qj _ _ _ _ _) (pg_cons (purge_box Qj _ _ _) pg_nil))))) rfl)
 refine Q7 ?_
 obtain rfl:=Qs hm
 exact ⟨rfl,Qr⟩
def QaF (x:(QE × (List Int))):Option (Qm × Int) :=
 match x with
 | (p0,p1) =>
 JZ (p1,(p0.values.length:Int))>>=fun ((v1,v2):((List Int) × Int)) =>
 if v2≠0 then
  Zj v2>>=fun ((v3,v4):(Qm × Int)) =>
  some (v3,v4)
 else
 if (p0.values.length:Int) > (v1.length:Int) then
  Zj 5>>=fun ((v5,v6):(Qm × Int)) =>
  some (v5,v6)
 else
 Qy v1>>=fun v7 =>
 makeM 8 (v1.length:Int) 0>>=fun v8 =>
 Yt (p0,v1,v7,v8,v7,v8,0)>>=fun ((v609,v610):((List Int) × (List Int))) =>
 XS (v8.length,p0.values,p0.scalar,v609,v610)>>=fun (_:Unit) =>
 (
 JK (v1,v7.length,p0.values,p0.scalar,v609,v610,v8.length)>>=fun (out:Int ⊕ ((List Int) × (List Int))) =>
 match out with
 | .inl v621 =>
  some ((⟨([]:(List Int)),([]:(List Int)),([]:(List Int)),([]:(List Int)),0,0,([]:(List Int))⟩:Qm),v621)
 | .inr ((v622,v623)) =>
  YI (v610.length=v8.length)>>=fun (_:Unit) =>
  some ((⟨([]:(List Int)),v622,v623,v610,(-1),0,([]:(List Int))⟩:Qm),0)
 )
def Qet:(QE × (List Int))→(Qm × Int)→Prop:=fun x r=>match x,r with
 | (p0,p1),(r0,r1)=>∀ H,PC prog env 122 ([(QE.toD p0),(Lb p1)].map .dat) H (.tup [(.dat (Qm.toD r0)),(Qe r1)]) H
theorem Qft:∀ x r,QaF x=some r→Qet x r:=by
 intro x r hm
 unfold QaF at hm
 unfold Qet
 obtain ⟨p0,p1⟩:=x
 obtain ⟨r0,r1⟩:=r
 intro H
 refine PC_sx (ds:=[(QE.toD p0),(Lb p1)]) (fn:=f122) rfl ?_
 refine Qd (R_G (Qb 3 (Qf (Qd (R_G (Qb 3 ?_))))))
 refine QV Qj p0.values (es:=(List.map Qj) p0.values) rfl ?_
 obtain ⟨⟨v1,v2⟩,hx,hm⟩:=Qi hm
 have hq:=Qez _ _ hx []
 refine Qq hq ?_
 refine Qb 5 (Qf (Qd (Qd (R_G (Qb 2 (Qf ?_))))))
 refine Qx hm (ne_dec _ _) (fun hm=>?_) (fun hm=>?_)
 ·refine Qd (R_G (Qb 1 ?_))
  obtain ⟨⟨v3,v4⟩,hx,hm⟩:=Qi hm
  have hq:=ZI _ _ hx []
  refine Qq hq ?_
  refine Qb 4 (Qf (Qo ?_))
  obtain ⟨rfl,rfl⟩:=Q8 hm
  exact ⟨trivial,Qk⟩
 refine Qp (Qd (Qd (R_G (Qb 2 ?_))))
 refine QV Qj p0.values (es:=(List.map Qj) p0.values) rfl ?_
 refine Qb 1 ?_
 refine QV Qj v1 (es:=(List.map Qj) v1) rfl ?_
 refine Qb 1 (Qf ?_)
 refine Qx hm (rfl) (fun hm=>?_) (fun hm=>?_)
 ·refine Qd (R_G ?_)
  obtain ⟨⟨v5,v6⟩,hx,hm⟩:=Qi hm
  have hq:=ZI _ _ hx []
  refine Qq hq ?_
  refine Qb 4 (Qf (Qo ?_))
  obtain ⟨rfl,rfl⟩:=Q8 hm
  exact ⟨trivial,Qk⟩
 refine Qp (Qd ?_)
 refine Qbt ?_
 refine Qb 1 ?_
 obtain ⟨v7,hx,hm⟩:=Qi hm
 have hq:=QF _ _ hx
 dsimp only [QA] at hq
 have hl9:mtOf [Blk.mt 3 (cgm_slices_Clone_int_int v7) (cellsOf Qj v7)] 0=some (3,cgm_slices_Clone_int_int v7,cellsOf Qj v7):=ZD (by kernel_rfl)
 refine ZB (v:=.ms 2 1 0 v7.length v7.length) (fun H=>H++[.mt 3 1 (cellsOf Qj v7)]) rfl (by kernel_rfl) ?_ ?_
 ·intro K hk
  refine Zp 2 (first:=#[]) (cap:=#[]) (j:=(0,3)) (ow':=[]) (f0:=Qj) (l:=v7) rfl ?_ ?_ ?_ (ds:=[.lst ((List.map Qj) v1)]) ?_ hq hl9 ?_ ?_ ?_
  ·kernel_rfl
  ·kernel_rfl
  ·kernel_rfl
  ·kernel_rfl
  ·exact hk
  ·kernel_rfl
  ·decide
 refine Qb 1 ?_
 refine QV Qj v1 (es:=(List.map Qj) v1) rfl ?_
 obtain ⟨v8,hx,hm⟩:=Qi hm
 refine ZB (v:=.arr 3 0 v8.length v8.length) (fun H=>H++[.box (cellsOf Qj v8)]) rfl (by kernel_rfl) ?_ ?_
 ·intro K hk
  exact QeD 3 Qj (z:=0) (n:=(v1.length:Int)) (bytes:=8) hx (e:=3) (by kernel_rfl) (by kernel_rfl) (by kernel_rfl) (by kernel_rfl) rfl rfl (by kernel_rfl) (by kernel_rfl) hk
 refine Qb 2 ?_
 refine Qf ⟨by kernel_rfl,?_⟩
 refine Qd (Qd (R_G (Qb 2 ?_)))
 refine QV Qj p0.values (es:=(List.map Qj) p0.values) rfl ?_
 refine Qb 1 (Qf (Qu ?_))
 obtain ⟨⟨v609,v610⟩,hs,hm⟩:=Qi hm
 refine Za ?_
 refine RL_use (QbR _ _ hs) (prune_of2 [(.box [(La p0.values),(Qn p0.scalar)]),Qv,(.mt 3 1 (cellsOf Qj v7)),(.box (cellsOf Qj v8))] (fun _=>(pg_cons (by kernel_rfl) (pg_cons (by kernel_rfl) (pg_cons (purge_mt Qj _ _ _ _ _) (pg_cons (purge_box Qj _ _ _) pg_nil))))) rfl) ?_
 clear hs
 intro e s hp
 obtain ⟨rfl,d,rfl⟩:=hp
 refine Qd (R_G (Qb 3 ?_))
 obtain ⟨_,hx,hm⟩:=Qi hm
 have hq:=Qdq _ _ hx
 dsimp only [Qal] at hq
 refine QX hq ?_
 refine Qb 1 ?_
 obtain ⟨out,hx,hm⟩:=Qi hm
 rcases out with v621|⟨v622,v623⟩
 ·have hq:=Qcc _ _ hx
  dsimp only [JD] at hq
  refine QX hq ?_
  refine Qb 4 (Qf (Qo ?_))
  obtain ⟨rfl,rfl⟩:=Q8 hm
  exact ⟨trivial,Qk⟩
 ·have hq:=Qcc _ _ hx
  dsimp only [JD] at hq
  refine QX hq ?_
  refine Qb 4 (Qf (Qo ?_))
  obtain ⟨_,hl624,hm⟩:=Qi hm
  replace hl624:=YP hl624
  obtain ⟨rfl,rfl⟩:=Q8 hm
  exact ⟨trivial,YO [(.agg [Ea,(.ms 7 1 0 v622.length v622.length),(.ms 8 1 0 v623.length v623.length),(.arr 3 0 v8.length v8.length),(Qe (-1)),(Qe 0),Ea]),(Qe 0)] (by kernel_rfl) (po_tup (ps_cons (p1_agg (pc_cons (by kernel_rfl) (pc_cons (pc_ms (e:=3) Qj v622 rfl (fun _=>rfl) (by kernel_rfl)) (pc_cons (pc_ms (e:=3) Qj v623 rfl (fun _=>rfl) (by kernel_rfl)) (pc_cons (pc_arr Qj v610 hl624 (fun _=>rfl) (by kernel_rfl)) (pc_cons (by kernel_rfl) (pc_cons (by kernel_rfl) (pc_cons (by kernel_rfl) pc_nil)))))))) (ps_cons (by kernel_rfl) ps_nil)))⟩
def X3 (x:(QE × Int)):Option ((List Int) × Int) :=
 match x with
 | (p0,p1) =>
 if (p0.values.length:Int)≠p1 then
  some (([]:(List Int)),5)
 else
 Z0 p0.values>>=fun v1 =>
 some (v1,0)
def Qde:(QE × Int)→((List Int) × Int)→Prop:=fun x r=>match x,r with
 | (p0,p1),(r0,r1)=>∀ H,PC prog env 162 ([(QE.toD p0),(Qj p1)].map .dat) H (.tup [(La r0),(Qe r1)]) H
theorem Qdo:∀ x r,X3 x=some r→Qde x r:=by
 intro x r hm
 unfold X3 at hm
 unfold Qde
 obtain ⟨p0,p1⟩:=x
 obtain ⟨r0,r1⟩:=r
 intro H
 refine PC_sx (ds:=[(QE.toD p0),(Qj p1)]) (fn:=f162) rfl ?_
 refine Qd (R_G (Qb 3 (Qf (Qd (Qd (R_G (Qb 2 ?_)))))))
 refine QV Qj p0.values (es:=(List.map Qj) p0.values) rfl ?_
 refine Qb 2 (Qf ?_)
 refine Qx hm (ne_dec _ _) (fun hm=>?_) (fun hm=>?_)
 ·refine Qd (R_G (Qb 2 (Qf (Qo ?_))))
  obtain ⟨rfl,rfl⟩:=Q8 hm
  exact ⟨trivial,Qk⟩
 refine Qp (Qd (R_G (Qb 2 ?_)))
 obtain ⟨v1,hx,hm⟩:=Qi hm
 have hq:=J2 _ _ hx
 dsimp only [Yn] at hq
 have hl9:mtOf [Blk.mt 2 (cgm_slices_Clone_int64_int64 v1) (cellsOf Qj v1)] 0=some (2,cgm_slices_Clone_int64_int64 v1,cellsOf Qj v1):=ZD (by kernel_rfl)
 refine ZB (v:=.ms 1 1 0 v1.length v1.length) (fun H=>H++[.mt 2 1 (cellsOf Qj v1)]) rfl (by kernel_rfl) ?_ ?_
 ·intro K hk
  refine Zp 1 (first:=#[]) (cap:=#[]) (j:=(0,2)) (ow':=[]) (f0:=Qj) (l:=v1) rfl ?_ ?_ ?_ (ds:=[.lst ((List.map Qj) p0.values)]) ?_ hq hl9 ?_ ?_ ?_
  ·kernel_rfl
  ·kernel_rfl
  ·kernel_rfl
  ·kernel_rfl
  ·exact hk
  ·kernel_rfl
  ·decide
 refine Qb 2 (Qf (Qo ?_))
 obtain ⟨rfl,rfl⟩:=Q8 hm
 exact ⟨trivial,YO [(.ms 1 1 0 v1.length v1.length),(Qe 0)] (by kernel_rfl) (po_tup (ps_cons (p1_ms (pc_ms (e:=2) Qj v1 rfl (fun _=>rfl) (by kernel_rfl))) (ps_cons (by kernel_rfl) ps_nil)))⟩
def QcA (x:QE):Option (Int × Int) :=
 match x with
 | p0 =>
 X3 (p0,1)>>=fun ((v1,v2):((List Int) × Int)) =>
 if v2≠0 then
  some (0,v2)
 else
 idx v1 0>>=fun v3 =>
 some (v3,0)
def QeL:QE→(Int × Int)→Prop:=fun x r=>match x,r with
 | p0,(r0,r1)=>∀ H,PC prog env 146 ([(QE.toD p0)].map .dat) H (.tup [(Qe r0),(Qe r1)]) H
theorem QfH:∀ x r,QcA x=some r→QeL x r:=by
 intro p0 r hm
 unfold QcA at hm
 unfold QeL
 obtain ⟨r0,r1⟩:=r
 intro H
 refine PC_sx (ds:=[(QE.toD p0)]) (fn:=f146) rfl ?_
 refine Qd (R_G (Qb 3 (Qf (Qd (R_G (Qb 1 ?_))))))
 obtain ⟨⟨v1,v2⟩,hx,hm⟩:=Qi hm
 have hq:=Qdo _ _ hx []
 refine Qq hq ?_
 refine Qb 5 (Qf (Qd (Qd (R_G (Qb 2 (Qf ?_))))))
 refine Qx hm (ne_dec _ _) (fun hm=>?_) (fun hm=>?_)
 ·refine Qd (R_G (Qb 3 (Qf (Qo ?_))))
  obtain ⟨rfl,rfl⟩:=Q8 hm
  exact ⟨trivial,Qk⟩
 refine Qp (Qd (R_G (Qb 1 ?_)))
 refine Zt 1 Qj hm rfl (fun _=>rfl) (fun v3 hm=>?_)
 refine Qb 3 (Qf (Qo ?_))
 obtain ⟨rfl,rfl⟩:=Q8 hm
 exact ⟨trivial,Qk⟩
def YT (x:((List Int) × (List Int) × Bool)):Option (Int ⊕ ((List Int) × (List Int))) :=
 match x with
 | (q0,q1,q2) =>
 Zg q0>>=fun (v1:Int) =>
 if v1≠0 then
  some (Sum.inl v1)
 else
 Qy q0>>=fun v2 =>
 Qy q0>>=fun v3 =>
 some (Sum.inr (v2,v3))
def JC:((List Int) × (List Int) × Bool)→(Int ⊕ ((List Int) × (List Int)))→Prop:=fun x r=>match x with
 | (q0,q1,q2)=>PC prog env 114 [(La q0),(La q0),(.dat (.lst []))] [(.box [(La q1),(Qn q2)]),Qv] (match r with|.inl v5001=>(.tup [(.dat (.agg [Eb,Eb,Eb,Eb,(Qj 0),(Qj 0),Eb])),(Qe v5001)])|.inr ((v5002,v5003))=>(.tup [(.agg [Ea,(.ms 3 1 0 v5002.length v5002.length),(.ms 4 1 0 v5003.length v5003.length),Ea,(Qe (-1)),(Qe 0),Ea]),(Qe 0)])) (match r with|.inl v5001=>[(.box [(La q1),(Qn q2)]),Qv,Qv]|.inr ((v5002,v5003))=>[(.box [(La q1),(Qn q2)]),Qv,(.box [Ea,(.ms 3 1 0 v5002.length v5002.length),(.ms 4 1 0 v5003.length v5003.length),Ea,(Qe (-1)),(Qe 0),Ea]),(.mt 3 1 (cellsOf Qj v5002)),(.mt 3 1 (cellsOf Qj v5003)),(.box [Ea,(.ms 3 1 0 v5002.length v5002.length),(.ms 4 1 0 v5003.length v5003.length),Ea,(Qe (-1)),(Qe 0),Ea])])
theorem Qcb:∀ x r,YT x=some r→JC x r:=by
 intro x r hm
 unfold YT at hm
 unfold JC
 obtain ⟨q0,q1,q2⟩:=x
 refine PC_sxB (fn:=f114) rfl ?_
 refine Qd (R_G (Qb 2 (Qf (Qd (Qd (R_G (Qb 1 ?_)))))))
 obtain ⟨v1,hx,hm⟩:=Qi hm
 have hq:=ZJ _ _ hx []
 refine Qq hq ?_
 refine Qb 1 (Qf (Qd (R_G (Qb 2 (Qf ?_)))))
 refine Qx hm (ne_dec _ _) (fun hm=>?_) (fun hm=>?_)
 ·refine Qd (R_G (Qb 4 (Qf (Qo ?_))))
  obtain rfl:=Qs hm
  exact ⟨trivial,QK (by kernel_rfl) (by kernel_rfl)⟩
 refine Qp (Qd (R_G (Qb 1 ?_)))
 obtain ⟨v2,hx,hm⟩:=Qi hm
 have hq:=QF _ _ hx
 dsimp only [QA] at hq
 have hl9:mtOf [Blk.mt 3 (cgm_slices_Clone_int_int v2) (cellsOf Qj v2)] 0=some (3,cgm_slices_Clone_int_int v2,cellsOf Qj v2):=ZD (by kernel_rfl)
 refine ZB (v:=.ms 3 1 0 v2.length v2.length) (fun H=>H++[.mt 3 1 (cellsOf Qj v2)]) rfl (by kernel_rfl) ?_ ?_
 ·intro K hk
  refine Zp 3 (first:=#[]) (cap:=#[]) (j:=(0,3)) (ow':=[]) (f0:=Qj) (l:=v2) rfl ?_ ?_ ?_ (ds:=[.lst ((List.map Qj) q0)]) ?_ hq hl9 ?_ ?_ ?_
  ·kernel_rfl
  ·kernel_rfl
  ·kernel_rfl
  ·kernel_rfl
  ·exact hk
  ·kernel_rfl
  ·decide
 refine Qb 1 ?_
 obtain ⟨v3,hx,hm⟩:=Qi hm
 have hq:=QF _ _ hx
 dsimp only [QA] at hq
 have hl9:mtOf [Blk.mt 3 (cgm_slices_Clone_int_int v3) (cellsOf Qj v3)] 0=some (3,cgm_slices_Clone_int_int v3,cellsOf Qj v3):=ZD (by kernel_rfl)
 refine ZB (v:=.ms 4 1 0 v3.length v3.length) (fun H=>H++[.mt 3 1 (cellsOf Qj v3)]) rfl (by kernel_rfl) ?_ ?_
 ·intro K hk
  refine Zp 4 (first:=#[]) (cap:=#[]) (j:=(0,3)) (ow':=[]) (f0:=Qj) (l:=v3) rfl ?_ ?_ ?_ (ds:=[.lst ((List.map Qj) q0)]) ?_ hq hl9 ?_ ?_ ?_
  ·kernel_rfl
  ·kernel_rfl
  ·kernel_rfl
  ·kernel_rfl
  ·exact hk
  ·kernel_rfl
  ·decide
 refine Qb 3 (Qf (Qd (Qd (R_G (Qb 1 (Qb 1 (Qb 1 (Qf (Qu ?_)))))))))
 refine Za ?_
 refine RL_at (st':=⟨kp 33 [(6,(.ptr 2 0)),(9,(.ptr 5 0)),(23,(.dat (.lst []))),(24,(Qe 0)),(25,(Qe 0))],[(.box [(La q1),(Qn q2)]),Qv,Qv,(.mt 3 1 (cellsOf Qj v2)),(.mt 3 1 (cellsOf Qj v3)),(.box [Ea,(.ms 3 1 0 v2.length v2.length),(.ms 4 1 0 v3.length v3.length),Ea,(Qe (-1)),(Qe 0),Ea])]⟩) (prune_of2 [(.box [(La q1),(Qn q2)]),Qv,Qv,(.mt 3 1 (cellsOf Qj v2)),(.mt 3 1 (cellsOf Qj v3)),(.box [Ea,(.ms 3 1 0 v2.length v2.length),(.ms 4 1 0 v3.length v3.length),Ea,(Qe (-1)),(Qe 0),Ea])] (fun _=>(pg_cons (by kernel_rfl) (pg_cons (by kernel_rfl) (pg_cons (by kernel_rfl) (pg_cons (purge_mt Qj _ _ _ _ _) (pg_cons (purge_mt Qj _ _ _ _ _) (pg_cons (by kernel_rfl) pg_nil))))))) rfl) ?_
 refine Qd (R_G (Qb 1 (Qf (Qd ?_))))
 refine YN (by kernel_rfl) ?_
 refine Q7 (Qd (R_G (Qb 3 (Qf (Qo ?_)))))
 obtain rfl:=Qs hm
 exact ⟨trivial,QK (by kernel_rfl) (by kernel_rfl)⟩
def Qa1 (x:(Int × Int)):Option Int :=
 match x with
 | (p0,p1) =>
 if p1≤0 then
  some 0
 else
 remM p0 p1>>=fun v1 =>
 if v1 < 0 then
  some (W (v1+p1))
 else
 some v1
def QeI:(Int × Int)→Int→Prop:=fun x r=>match x,r with
 | (p0,p1),r0=>∀ H,PC prog env 147 ([(Qj p0),(Qj p1)].map .dat) H (Qe r0) H
theorem QfE:∀ x r,Qa1 x=some r→QeI x r:=by
 intro x r0 hm
 unfold Qa1 at hm
 unfold QeI
 obtain ⟨p0,p1⟩:=x
 intro H
 refine PC_sx (ds:=[(Qj p0),(Qj p1)]) (fn:=f147) rfl ?_
 refine Qd (R_G (Qb 1 (Qf (Qd (Qd (R_G (Qb 2 (Qf ?_))))))))
 refine Qx hm (rfl) (fun hm=>?_) (fun hm=>?_)
 ·refine Qd (R_G (Qb 1 (Qf (Qo ?_))))
  obtain rfl:=Qs hm
  exact ⟨trivial,Qk⟩
 refine Qp (Qd (R_G (Qb 2 ?_)))
 obtain ⟨v1,hx,hm⟩:=Qi hm
 refine Zq rfl (fun _=>Qgj (a:=p0) (b:=p1) hx rfl (by kernel_rfl) (by kernel_rfl)) ?_
 refine Qb 1 (Qf (Qd (Qd (R_G (Qb 2 (Qf ?_))))))
 refine Qx hm (rfl) (fun hm=>?_) (fun hm=>?_)
 ·refine R_G (Qb 4 (Qf (Qd (R_G (Qb 2 (Qf (Qo ?_)))))))
  obtain rfl:=Qs hm
  exact ⟨trivial,Qk⟩
 refine Qp (Qd (R_G (Qb 2 (Qf (Qo ?_)))))
 obtain rfl:=Qs hm
 exact ⟨trivial,Qk⟩
def JW (x:(Int × Int × (List Int) × Bool × (List Int) × (List Int))):Option (Unit) :=
 match x with
 | (q0,q1,q2,q3,q4,q5) =>
 some ()
def JP:(Int × Int × (List Int) × Bool × (List Int) × (List Int))→Unit→Prop:=fun x r=>match x with
 | (q0,q1,q2,q3,q4,q5)=>PC prog env 136 [(.ptr 6 0),(.iptr [(Qj q0)]),(.iptr [(Qj q1)])] [(.box [(La q2),(Qn q3)]),Qv,(.box [(.fn 136 [(.iptr [(Qj q0)]),(.iptr [(Qj q1)])])]),Qv,(.mt 3 1 (cellsOf Qj q4)),(.mt 3 1 (cellsOf Qj q5)),(.box [Ea,(.ms 4 1 0 q4.length q4.length),(.ms 5 1 0 q5.length q5.length),Ea,(Qe (-1)),(Qe 0),Ea])] (match r with|_=>(.tup [])) (match r with|_=>[(.box [(La q2),(Qn q3)]),Qv,(.box [(.fn 136 [(.iptr [(Qj q0)]),(.iptr [(Qj q1)])])]),Qv,(.mt 3 1 (cellsOf Qj q4)),(.mt 3 1 (cellsOf Qj q5)),(.box [Ea,(.ms 4 1 0 q4.length q4.length),(.ms 5 1 0 q5.length q5.length),Ea,(Qe q0),(Qe q1),Ea])])
theorem Qdj:∀ x r,JW x=some r→JP x r:=by
 intro x r hm
 unfold JW at hm
 unfold JP
 obtain ⟨q0,q1,q2,q3,q4,q5⟩:=x
 refine PC_sxB (fn:=f136) rfl ?_
 refine Qbt ?_
 refine Qb 10 ?_
 refine Qf ⟨by kernel_rfl,?_⟩
 obtain rfl:=Qs hm
 exact ⟨trivial,QK (by kernel_rfl) (by kernel_rfl)⟩
def YS (x:((List Int) × (List Int) × Bool × Int × Int)):Option (Int ⊕ ((List Int) × (List Int))) :=
 match x with
 | (q0,q1,q2,q3,q4) =>
 Zg q0>>=fun (v1:Int) =>
 if v1≠0 then
  some (Sum.inl v1)
 else
 Qy q0>>=fun v2 =>
 Qy q0>>=fun v3 =>
 JW (q3,q4,q1,q2,v2,v3)>>=fun (_:Unit) =>
 some (Sum.inr (v2,v3))
def Jy:((List Int) × (List Int) × Bool × Int × Int)→(Int ⊕ ((List Int) × (List Int)))→Prop:=fun x r=>match x with
 | (q0,q1,q2,q3,q4)=>PC prog env 114 [(La q0),(La q0),(.arr 2 0 1 1)] [(.box [(La q1),(Qn q2)]),Qv,(.box [(.fn 136 [(.iptr [(Qj q3)]),(.iptr [(Qj q4)])])])] (match r with|.inl v5001=>(.tup [(.dat (.agg [Eb,Eb,Eb,Eb,(Qj 0),(Qj 0),Eb])),(Qe v5001)])|.inr ((v5002,v5003))=>(.tup [(.agg [Ea,(.ms 4 1 0 v5002.length v5002.length),(.ms 5 1 0 v5003.length v5003.length),Ea,(Qe q3),(Qe q4),Ea]),(Qe 0)])) (match r with|.inl v5001=>[(.box [(La q1),(Qn q2)]),Qv,(.box [(.fn 136 [(.iptr [(Qj q3)]),(.iptr [(Qj q4)])])]),Qv]|.inr ((v5002,v5003))=>[(.box [(La q1),(Qn q2)]),Qv,(.box [(.fn 136 [(.iptr [(Qj q3)]),(.iptr [(Qj q4)])])]),(.box [Ea,(.ms 4 1 0 v5002.length v5002.length),(.ms 5 1 0 v5003.length v5003.length),Ea,(Qe q3),(Qe q4),Ea]),(.mt 3 1 (cellsOf Qj v5002)),(.mt 3 1 (cellsOf Qj v5003)),(.box [Ea,(.ms 4 1 0 v5002.length v5002.length),(.ms 5 1 0 v5003.length v5003.length),Ea,(Qe q3),(Qe q4),Ea])])
theorem Qb7:∀ x r,YS x=some r→Jy x r:=by
 intro x r hm
 unfold YS at hm
 unfold Jy
 obtain ⟨q0,q1,q2,q3,q4⟩:=x
 refine PC_sxB (fn:=f114) rfl ?_
 refine Qd (R_G (Qb 2 (Qf (Qd (Qd (R_G (Qb 1 ?_)))))))
 obtain ⟨v1,hx,hm⟩:=Qi hm
 have hq:=ZJ _ _ hx []
 refine Qq hq ?_
 refine Qb 1 (Qf (Qd (R_G (Qb 2 (Qf ?_)))))
 refine Qx hm (ne_dec _ _) (fun hm=>?_) (fun hm=>?_)
 ·refine Qd (R_G (Qb 4 (Qf (Qo ?_))))
  obtain rfl:=Qs hm
  exact ⟨trivial,QK (by kernel_rfl) (by kernel_rfl)⟩
 refine Qp (Qd (R_G (Qb 1 ?_)))
 obtain ⟨v2,hx,hm⟩:=Qi hm
 have hq:=QF _ _ hx
 dsimp only [QA] at hq
 have hl9:mtOf [Blk.mt 3 (cgm_slices_Clone_int_int v2) (cellsOf Qj v2)] 0=some (3,cgm_slices_Clone_int_int v2,cellsOf Qj v2):=ZD (by kernel_rfl)
 refine ZB (v:=.ms 4 1 0 v2.length v2.length) (fun H=>H++[.mt 3 1 (cellsOf Qj v2)]) rfl (by kernel_rfl) ?_ ?_
 ·intro K hk
  refine Zp 4 (first:=#[]) (cap:=#[]) (j:=(0,3)) (ow':=[]) (f0:=Qj) (l:=v2) rfl ?_ ?_ ?_ (ds:=[.lst ((List.map Qj) q0)]) ?_ hq hl9 ?_ ?_ ?_
  ·kernel_rfl
  ·kernel_rfl
  ·kernel_rfl
  ·kernel_rfl
  ·exact hk
  ·kernel_rfl
  ·decide
 refine Qb 1 ?_
 obtain ⟨v3,hx,hm⟩:=Qi hm
 have hq:=QF _ _ hx
 dsimp only [QA] at hq
 have hl9:mtOf [Blk.mt 3 (cgm_slices_Clone_int_int v3) (cellsOf Qj v3)] 0=some (3,cgm_slices_Clone_int_int v3,cellsOf Qj v3):=ZD (by kernel_rfl)
 refine ZB (v:=.ms 5 1 0 v3.length v3.length) (fun H=>H++[.mt 3 1 (cellsOf Qj v3)]) rfl (by kernel_rfl) ?_ ?_
 ·intro K hk
  refine Zp 5 (first:=#[]) (cap:=#[]) (j:=(0,3)) (ow':=[]) (f0:=Qj) (l:=v3) rfl ?_ ?_ ?_ (ds:=[.lst ((List.map Qj) q0)]) ?_ hq hl9 ?_ ?_ ?_
  ·kernel_rfl
  ·kernel_rfl
  ·kernel_rfl
  ·kernel_rfl
  ·exact hk
  ·kernel_rfl
  ·decide
 refine Qb 3 (Qf (Qd (Qd (R_G (Qb 1 (Qb 1 (Qb 1 (Qf (Qu ?_)))))))))
 refine Za ?_
 refine RL_at (st':=⟨kp 33 [(6,(.ptr 3 0)),(9,(.ptr 6 0)),(23,(.arr 2 0 1 1)),(24,(Qe 1)),(25,(Qe 0))],[(.box [(La q1),(Qn q2)]),Qv,(.box [(.fn 136 [(.iptr [(Qj q3)]),(.iptr [(Qj q4)])])]),Qv,(.mt 3 1 (cellsOf Qj v2)),(.mt 3 1 (cellsOf Qj v3)),(.box [Ea,(.ms 4 1 0 v2.length v2.length),(.ms 5 1 0 v3.length v3.length),Ea,(Qe (-1)),(Qe 0),Ea])]⟩) (prune_of2 [(.box [(La q1),(Qn q2)]),Qv,(.box [(.fn 136 [(.iptr [(Qj q3)]),(.iptr [(Qj q4)])])]),Qv,(.mt 3 1 (cellsOf Qj v2)),(.mt 3 1 (cellsOf Qj v3)),(.box [Ea,(.ms 4 1 0 v2.length v2.length),(.ms 5 1 0 v3.length v3.length),Ea,(Qe (-1)),(Qe 0),Ea])] (fun _=>(pg_cons (by kernel_rfl) (pg_cons (by kernel_rfl) (pg_cons (by kernel_rfl) (pg_cons (by kernel_rfl) (pg_cons (purge_mt Qj _ _ _ _ _) (pg_cons (purge_mt Qj _ _ _ _ _) (pg_cons (by kernel_rfl) pg_nil)))))))) rfl) ?_
 refine Qd (R_G (Qb 1 (Qf (Qd ?_))))
 refine QaA (by kernel_rfl) ?_
 refine Qp (Qd (Qu (Qd (R_G (Qb 1 (Qb 2 (Qf (R_G (Qb 1 ?_)))))))))
 obtain ⟨_,hx,hm⟩:=Qi hm
 have hq:=Qdj _ _ hx
 dsimp only [JP] at hq
 refine QX hq ?_
 refine Qf (R_G (Qb 2 (Qf ?_)))
 refine RL_at (st':=⟨kp 33 [(6,(.ptr 3 0)),(9,(.ptr 6 0)),(23,(.arr 2 0 1 1)),(24,(Qe 1)),(25,(Qe 1))],[(.box [(La q1),(Qn q2)]),Qv,(.box [(.fn 136 [(.iptr [(Qj q3)]),(.iptr [(Qj q4)])])]),Qv,(.mt 3 1 (cellsOf Qj v2)),(.mt 3 1 (cellsOf Qj v3)),(.box [Ea,(.ms 4 1 0 v2.length v2.length),(.ms 5 1 0 v3.length v3.length),Ea,(Qe q3),(Qe q4),Ea])]⟩) (prune_of2 [(.box [(La q1),(Qn q2)]),Qv,(.box [(.fn 136 [(.iptr [(Qj q3)]),(.iptr [(Qj q4)])])]),Qv,(.mt 3 1 (cellsOf Qj v2)),(.mt 3 1 (cellsOf Qj v3)),(.box [Ea,(.ms 4 1 0 v2.length v2.length),(.ms 5 1 0 v3.length v3.length),Ea,(Qe q3),(Qe q4),Ea])] (fun _=>(pg_cons (by kernel_rfl) (pg_cons (by kernel_rfl) (pg_cons (by kernel_rfl) (pg_cons (by kernel_rfl) (pg_cons (purge_mt Qj _ _ _ _ _) (pg_cons (purge_mt Qj _ _ _ _ _) (pg_cons (by kernel_rfl) pg_nil)))))))) rfl) ?_
 refine Qd (R_G (Qb 1 (Qf (Qd ?_))))
 refine YN (by kernel_rfl) ?_
 refine Q7 (Qd (R_G (Qb 3 (Qf (Qo ?_)))))
 obtain rfl:=Qs hm
 exact ⟨trivial,QK (by kernel_rfl) (by kernel_rfl)⟩
def Qat (x:(QE × Int × (List Int))):Option (Qm × Int) :=
 match x with
 | (p0,p1,p2) =>
 QcA p0>>=fun ((v1,v2):(Int × Int)) =>
 if v2≠0 then
  Zj v2>>=fun ((v3,v4):(Qm × Int)) =>
  some (v3,v4)
 else
 Jp (p1,p2)>>=fun ((v5,v6):(Int × Int)) =>
 if v6≠0 then
  Zj v6>>=fun ((v7,v8):(Qm × Int)) =>
  some (v7,v8)
 else
 if v5 < 0 then
  (
  YT (p2,p0.values,p0.scalar)>>=fun (out:Int ⊕ ((List Int) × (List Int))) =>
  match out with
  | .inl v9 =>
   some ((⟨([]:(List Int)),([]:(List Int)),([]:(List Int)),([]:(List Int)),0,0,([]:(List Int))⟩:Qm),v9)
  | .inr ((v10,v11)) =>
   some ((⟨([]:(List Int)),v10,v11,([]:(List Int)),(-1),0,([]:(List Int))⟩:Qm),0)
  )
 else
 idx p2 v5>>=fun v12 =>
 Qa1 (v1,v12)>>=fun (v13:Int) =>
 YE (v5,v13)>>=fun ((v14,v15):(Int × Int)) =>
 (
 YS (p2,p0.values,p0.scalar,v14,v15)>>=fun (out:Int ⊕ ((List Int) × (List Int))) =>
 match out with
 | .inl v16 =>
  some ((⟨([]:(List Int)),([]:(List Int)),([]:(List Int)),([]:(List Int)),0,0,([]:(List Int))⟩:Qm),v16)
 | .inr ((v17,v18)) =>
  some ((⟨([]:(List Int)),v17,v18,([]:(List Int)),v14,v15,([]:(List Int))⟩:Qm),0)
 )
def QdF:(QE × Int × (List Int))→(Qm × Int)→Prop:=fun x r=>match x,r with
 | (p0,p1,p2),(r0,r1)=>∀ H,PC prog env 123 ([(QE.toD p0),(Qj p1),(Lb p2)].map .dat) H (.tup [(.dat (Qm.toD r0)),(Qe r1)]) H
theorem Qe4:∀ x r,Qat x=some r→QdF x r:=by
 intro x r hm
 unfold Qat at hm
 unfold QdF
 obtain ⟨p0,p1,p2⟩:=x
 obtain ⟨r0,r1⟩:=r
 intro H
 refine PC_sx (ds:=[(QE.toD p0),(Qj p1),(Lb p2)]) (fn:=f123) rfl ?_
 refine Qd (R_G (Qb 3 (Qf (Qd (R_G (Qb 1 ?_))))))
 obtain ⟨⟨v1,v2⟩,hx,hm⟩:=Qi hm
 have hq:=QfH _ _ hx []
 refine Qq hq ?_
 refine Qb 5 (Qf (Qd (Qd (R_G (Qb 2 (Qf ?_))))))
 refine Qx hm (ne_dec _ _) (fun hm=>?_) (fun hm=>?_)
 ·refine Qd (R_G (Qb 1 ?_))
  obtain ⟨⟨v3,v4⟩,hx,hm⟩:=Qi hm
  have hq:=ZI _ _ hx []
  refine Qq hq ?_
  refine Qb 4 (Qf (Qo ?_))
  obtain ⟨rfl,rfl⟩:=Q8 hm
  exact ⟨trivial,Qk⟩
 refine Qp (Qd (R_G (Qb 2 ?_)))
 obtain ⟨⟨v5,v6⟩,hx,hm⟩:=Qi hm
 have hq:=QdS _ _ hx []
 refine Qq hq ?_
 refine Qb 5 (Qf (Qd (Qd (R_G (Qb 2 (Qf ?_))))))
 refine Qx hm (ne_dec _ _) (fun hm=>?_) (fun hm=>?_)
 ·refine Qd (R_G (Qb 1 ?_))
  obtain ⟨⟨v7,v8⟩,hx,hm⟩:=Qi hm
  have hq:=ZI _ _ hx []
  refine Qq hq ?_
  refine Qb 4 (Qf (Qo ?_))
  obtain ⟨rfl,rfl⟩:=Q8 hm
  exact ⟨trivial,Qk⟩
 refine Qp (Qd (Qd (R_G (Qb 2 (Qf ?_)))))
 refine Qx hm (rfl) (fun hm=>?_) (fun hm=>?_)
 ·refine Qd (R_G (Qb 2 ?_))
  obtain ⟨out,hx,hm⟩:=Qi hm
  rcases out with v9|⟨v10,v11⟩
  ·have hq:=Qcb _ _ hx
   dsimp only [JC] at hq
   refine QX hq ?_
   refine Qb 4 (Qf (Qo ?_))
   obtain ⟨rfl,rfl⟩:=Q8 hm
   exact ⟨trivial,Qk⟩
  ·have hq:=Qcb _ _ hx
   dsimp only [JC] at hq
   refine QX hq ?_
   refine Qb 4 (Qf (Qo ?_))
   obtain ⟨rfl,rfl⟩:=Q8 hm
   exact ⟨trivial,YO [(.agg [Ea,(.ms 3 1 0 v10.length v10.length),(.ms 4 1 0 v11.length v11.length),Ea,(Qe (-1)),(Qe 0),Ea]),(Qe 0)] (by kernel_rfl) (po_tup (ps_cons (p1_agg (pc_cons (by kernel_rfl) (pc_cons (pc_ms (e:=3) Qj v10 rfl (fun _=>rfl) (by kernel_rfl)) (pc_cons (pc_ms (e:=3) Qj v11 rfl (fun _=>rfl) (by kernel_rfl)) (pc_cons (by kernel_rfl) (pc_cons (by kernel_rfl) (pc_cons (by kernel_rfl) (pc_cons (by kernel_rfl) pc_nil)))))))) (ps_cons (by kernel_rfl) ps_nil)))⟩
 refine Qp (Qd (R_G (Qb 6 ?_)))
 refine Zt 1 Qj hm rfl (fun _=>rfl) (fun v12 hm=>?_)
 refine Qb 1 ?_
 obtain ⟨v13,hx,hm⟩:=Qi hm
 have hq:=QfE _ _ hx []
 refine Qq hq ?_
 obtain ⟨⟨v14,v15⟩,hx,hm⟩:=Qi hm
 have hq:=QcE _ _ hx []
 refine Qq hq ?_
 refine Qb 1 ?_
 obtain ⟨out,hx,hm⟩:=Qi hm
 rcases out with v16|⟨v17,v18⟩
 ·have hq:=Qb7 _ _ hx
  dsimp only [Jy] at hq
  refine QX hq ?_
  refine Qb 4 (Qf (Qo ?_))
  obtain ⟨rfl,rfl⟩:=Q8 hm
  exact ⟨trivial,Qk⟩
 ·have hq:=Qb7 _ _ hx
  dsimp only [Jy] at hq
  refine QX hq ?_
  refine Qb 4 (Qf (Qo ?_))
  obtain ⟨rfl,rfl⟩:=Q8 hm
  exact ⟨trivial,YO [(.agg [Ea,(.ms 4 1 0 v17.length v17.length),(.ms 5 1 0 v18.length v18.length),Ea,(Qe v14),(Qe v15),Ea]),(Qe 0)] (by kernel_rfl) (po_tup (ps_cons (p1_agg (pc_cons (by kernel_rfl) (pc_cons (pc_ms (e:=3) Qj v17 rfl (fun _=>rfl) (by kernel_rfl)) (pc_cons (pc_ms (e:=3) Qj v18 rfl (fun _=>rfl) (by kernel_rfl)) (pc_cons (by kernel_rfl) (pc_cons (by kernel_rfl) (pc_cons (by kernel_rfl) (pc_cons (by kernel_rfl) pc_nil)))))))) (ps_cons (by kernel_rfl) ps_nil)))⟩
def Yw (x:(Int × (List Int) × Bool × Int × (List Int) × Nat)):Option (((List Int) × Int × Int)) :=
 match x with
 | (q0,q1,q2,q3,q4,q5) =>
 (if q0 < 0 then
  some true
 else
 some (decide (q0≥q3))
 )>>=fun (v1:Bool) =>
 if v1=true then
  some (q4,0,6)
 else
 some ((insK q4 q0),q0,0)
def Xm:(Int × (List Int) × Bool × Int × (List Int) × Nat)→((List Int) × Int × Int)→Prop:=fun x r=>match x with
 | (q0,q1,q2,q3,q4,q5)=>PC prog env 164 [(Qe q0),(.ptr 1 0),(.ptr 3 0)] [(.box [(La q1),(Qn q2)]),(.box [(Qe q3)]),(.map (setE .i64 (Qam true) q4)),(.box [(.mapv 2)]),(.tok 3 q5)] (match r with|(v5001,v5002,v5003)=>(.tup [(Qe v5002),(Qe v5003)])) (match r with|(v5001,v5002,v5003)=>[(.box [(La q1),(Qn q2)]),(.box [(Qe q3)]),(.map (setE .i64 (Qam true) v5001)),(.box [(.mapv 2)]),(.tok 3 q5)])
theorem QbV:∀ x r,Yw x=some r→Xm x r:=by
 intro x r hm
 unfold Yw at hm
 unfold Xm
 obtain ⟨q0,q1,q2,q3,q4,q5⟩:=x
 refine PC_sxB (fn:=f164) rfl ?_
 refine Qd (R_G (Qb 2 (Qf (Qd (Qd ?_)))))
 obtain ⟨v1,hs,hm⟩:=Qi hm
 refine Xc (fun d=>⟨sl d 16 [(0,(Qe q0)),(2,(.ptr 3 0)),(12,(Qn v1))],[(.box [(La q1),(Qn q2)]),(.box [(Qe q3)]),(.map (setE .i64 (Qam true) q4)),(.box [(.mapv 2)]),(.tok 3 q5)]⟩) ?_ (fun d=>?_)
 ·replace hm:=hs
  clear hs
  refine R_G (Qb 3 ?_)
  refine Qz 8 hm (rfl) (fun hm=>?_) (fun hm=>?_)
  ·refine Qb 4 (Qf ?_)
   obtain rfl:=Qs hm
   exact Qr
  refine Qb 4 (Qf ?_)
  obtain rfl:=Qs hm
  exact Qr
 clear hs
 refine Qx hm (QG _) (fun hm=>?_) (fun hm=>?_)
 ·refine Qd (R_G (Qb 2 (Qf (Qo ?_))))
  obtain rfl:=Qs hm
  exact ⟨trivial,QK (by kernel_rfl) (by kernel_rfl)⟩
 refine Qp (Qd (R_G (Qb 2 ?_)))
 refine ZB (fun H=>H.set 2 (.map (setE .i64 (Qam true) (insK q4 q0)))) rfl (by kernel_rfl) (fun _=>Qf0 (i:=2) (kt:=3) (e:=4) (ik:=.i64) (l:=q4) (n:=q0) (v:=(Qam true)) (by kernel_rfl) (by kernel_rfl) rfl (by kernel_rfl) (by kernel_rfl) (by kernel_rfl) (by kernel_rfl)) ?_
 refine Qf (Qd (R_G (Qb 3 (Qf (Qo ?_)))))
 obtain rfl:=Qs hm
 exact ⟨trivial,QK (by kernel_rfl) (by kernel_rfl)⟩
def QN (x:((List Int) × (List Int) × Bool × Int × (List Int) × (List Int) × Int)):Option (((List Int) × Int × Nat) ⊕ ((List Int) × (List Int))) :=
 match x with
 | (q0,q1,q2,q3,v201,v202,v203) =>
 if v203 < (q0.length:Int) then
  idx q0 v203>>=fun v606 =>
  Yw (v606,q1,q2,q3,v201,v202.length)>>=fun ((v607,v608,v609):((List Int) × Int × Int)) =>
  if v609≠0 then
   some (Sum.inl (v607,v609,v202.length))
  else
  app 8 v202 ([v608]:List Int)>>=fun v610 =>
  QN (q0,q1,q2,q3,v607,v610,(W (v203+1)))
 else
 some (Sum.inr (v201,v202))
 partial_fixpoint
def Xb:((List Int) × (List Int) × Bool × Int × (List Int) × (List Int) × Int)→(((List Int) × Int × Nat) ⊕ ((List Int) × (List Int)))→Prop:=fun x r=>match x with
 | (q0,q1,q2,q3,v201,v202,v203)=>∀ st,prune 5 ((QB (QJ [1,1,0,1,0,0] (QO f163))).bind (env.hint 163).keepAt) st=⟨kp 35 [(1,(.fn 164 [(.ptr 1 0),(.ptr 3 0)])),(6,(.vec 4 ((List.map Qj) v202))),(14,(La q0)),(15,(Qe (q0.length:Int))),(16,(Qe v203))],[(.box [(La q1),(Qn q2)]),(.box [(Qe q3)]),(.map (setE .i64 (Qam true) v201)),(.box [(.mapv 2)]),(.tok 3 v202.length)]⟩ →
  RL prog env (env.hint 163) true (QJ [1,1,0,1,0,0] (QO f163)) 5 st (fun e s=>match r with|.inl (v601,v602,v603)=>e=.ret∧∃ d,s=⟨sl d 35 [(4,Ea),(5,(Qe v602))],[(.box [(La q1),(Qn q2)]),(.box [(Qe q3)]),(.map (setE .i64 (Qam true) v601)),(.box [(.mapv 2)]),(.tok 3 v603)]⟩|.inr ((v604,v605))=>e=.exit 0∧∃ d,s=⟨sl d 35 [(6,(.vec 4 ((List.map Qj) v605)))],[(.box [(La q1),(Qn q2)]),(.box [(Qe q3)]),(.map (setE .i64 (Qam true) v604)),(.box [(.mapv 2)]),(.tok 3 v605.length)]⟩)
theorem Zx:∀ x r,QN x=some r→Xb x r:=by
 refine QN.partial_correctness _ (fun QN Zx x r hm=>?_)
 unfold Xb
 obtain ⟨q0,q1,q2,q3,v201,v202,v203⟩:=x
 intro st hst
 refine RL_at hst ?_
 clear hst
 refine Qd (R_G (Qb 1 (Qf (Qd ?_))))
 refine Qx hm (rfl) (fun hm=>?_) (fun hm=>?_)
 ·refine Qp (Qd (Qu (Qd (R_G ?_))))
  refine Zt 1 Qj hm rfl (fun _=>rfl) (fun v606 hm=>?_)
  refine Qb 2 (Qf (Qd (R_G (Qb 2 ?_))))
  obtain ⟨⟨v607,v608,v609⟩,hx,hm⟩:=Qi hm
  have hq:=QbV _ _ hx
  dsimp only [Xm] at hq
  refine QX hq ?_
  refine Qb 5 (Qf (Qd (Qd (R_G (Qb 2 (Qf ?_))))))
  refine Qx hm (ne_dec _ _) (fun hm=>?_) (fun hm=>?_)
  ·refine Qd (R_G (Qb 3 (Qf (Qo ?_))))
   obtain rfl:=Qs hm
   exact ⟨rfl,Qr⟩
  refine Qp (R_G (Qb 3 ?_))
  obtain ⟨v610,hx,hm⟩:=Qi hm
  refine QcJ 3 1 8 4 Qj v202 ([v608]:List Int) v610 (xs:=(List.map Qj) v202) (es:=(List.map Qj) ([v608]:List Int)) (L:=(List.map Qj)) (fun _=>rfl) rfl rfl (fun _=>rfl) hx ?_
  refine Qb 1 (Qf (R_G (Qb 2 (Qf ?_))))
  exact Zx _ _ hm _ (prune_of2 [(.box [(La q1),(Qn q2)]),(.box [(Qe q3)]),(.map (setE .i64 (Qam true) v607)),(.box [(.mapv 2)]),(.tok 3 v610.length)] (fun _=>(pg_cons (by kernel_rfl) (pg_cons (by kernel_rfl) (pg_cons (purge_set _ _ _ _ _) (pg_cons (by kernel_rfl) (pg_cons (by kernel_rfl) pg_nil)))))) rfl)
 refine Q7 ?_
 obtain rfl:=Qs hm
 exact ⟨rfl,Qr⟩
def ZQ (x:((List Int) × (List Int) × Bool × Int)):Option (((List Int) × Int × Nat) ⊕ ((List Int) × (List Int))) :=
 match x with
 | (q0,q1,q2,q3) =>
 YI (0≤(q0.length:Int)∧(q0.length:Int) * (8:Int)≤(room:Int)∧(q0.length:Int)≤9223372036854775807)>>=fun (_:Unit) =>
 (
 QN (q0,q1,q2,q3,([]:List Int),([]:List Int),0)>>=fun (out:((List Int) × Int × Nat) ⊕ ((List Int) × (List Int))) =>
 match out with
 | .inl (v601,v602,v603) =>
  some (Sum.inl (v601,v602,v603))
 | .inr ((v604,v605)) =>
  some (Sum.inr (v604,v605))
 )
def ZM:((List Int) × (List Int) × Bool × Int)→(((List Int) × Int × Nat) ⊕ ((List Int) × (List Int)))→Prop:=fun x r=>match x with
 | (q0,q1,q2,q3)=>PC prog env 163 [(La q0),(.fn 164 [(.ptr 1 0),(.ptr 3 0)])] [(.box [(La q1),(Qn q2)]),(.box [(Qe q3)]),(.map (setE .i64 (Qam true) ([]:List Int))),(.box [(.mapv 2)])] (match r with|.inl (v5001,v5002,v5003)=>(.tup [Ea,(Qe v5002)])|.inr ((v5004,v5005))=>(.tup [(.vec 4 ((List.map Qj) v5005)),(Qe 0)])) (match r with|.inl (v5001,v5002,v5003)=>[(.box [(La q1),(Qn q2)]),(.box [(Qe q3)]),(.map (setE .i64 (Qam true) v5001)),(.box [(.mapv 2)]),(.tok 3 v5003)]|.inr ((v5004,v5005))=>[(.box [(La q1),(Qn q2)]),(.box [(Qe q3)]),(.map (setE .i64 (Qam true) v5004)),(.box [(.mapv 2)]),(.tok 3 v5005.length)])
theorem XJ:∀ x r,ZQ x=some r→ZM x r:=by
 intro x r hm
 unfold ZQ at hm
 unfold ZM
 obtain ⟨q0,q1,q2,q3⟩:=x
 refine PC_sxB (fn:=f163) rfl ?_
 refine Qd (R_G (Qb 2 (Qf (Qd (R_G (Qb 1 ?_))))))
 refine QV Qj q0 (es:=(List.map Qj) q0) rfl ?_
 obtain ⟨_,hx,hm⟩:=Qi hm
 replace hx:=YP hx
 refine ZB (v:=.vec 4 []) (fun H=>H++[.tok 3 0]) rfl (by kernel_rfl) ?_ ?_
 ·intro K hk
  exact Qfj 4 (n:=(q0.length:Int)) (j:=0) (os:=[]) (bytes:=8) (z:=(Qj 0)) hx (by kernel_rfl) (by kernel_rfl) (by kernel_rfl) (by kernel_rfl) (by kernel_rfl) (by kernel_rfl) rfl (by kernel_rfl) (by kernel_rfl) hk
 refine Qb 1 (Qf (Qd (Qd (R_G (Qb 1 ?_)))))
 refine QV Qj q0 (es:=(List.map Qj) q0) rfl ?_
 refine Qb 1 (Qf (Qu ?_))
 obtain ⟨out,hs,hm⟩:=Qi hm
 refine Za ?_
 rcases out with ⟨v601,v602,v603⟩|⟨v604,v605⟩
 ·refine RL_use (Zx _ _ hs) (prune_of2 [(.box [(La q1),(Qn q2)]),(.box [(Qe q3)]),(.map (setE .i64 (Qam true) ([]:List Int))),(.box [(.mapv 2)]),(.tok 3 (([]:List Int).length))] (fun _=>(pg_cons (by kernel_rfl) (pg_cons (by kernel_rfl) (pg_cons (purge_set _ _ _ _ _) (pg_cons (by kernel_rfl) (pg_cons (by kernel_rfl) pg_nil)))))) rfl) ?_
  clear hs
  intro e s hp
  obtain ⟨rfl,d,rfl⟩:=hp
  obtain rfl:=Qs hm
  exact ⟨trivial,QK (by kernel_rfl) (by kernel_rfl)⟩
 ·refine RL_use (Zx _ _ hs) (prune_of2 [(.box [(La q1),(Qn q2)]),(.box [(Qe q3)]),(.map (setE .i64 (Qam true) ([]:List Int))),(.box [(.mapv 2)]),(.tok 3 (([]:List Int).length))] (fun _=>(pg_cons (by kernel_rfl) (pg_cons (by kernel_rfl) (pg_cons (purge_set _ _ _ _ _) (pg_cons (by kernel_rfl) (pg_cons (by kernel_rfl) pg_nil)))))) rfl) ?_
  clear hs
  intro e s hp
  obtain ⟨rfl,d,rfl⟩:=hp
  refine Qd (R_G (Qb 3 (Qf (Qo ?_))))
  obtain rfl:=Qs hm
  exact ⟨trivial,QK (by kernel_rfl) (by kernel_rfl)⟩
def Q9 (x:((List Int) × Int × Int)):Option (Int) :=
 match x with
 | (p0,v202,v203) =>
 if v203 < (p0.length:Int) then
  idx p0 v203>>=fun v603 =>
  Q9 (p0,(if v202 < v603 then v603 else v202),(W (v203+1)))
 else
 some v202
 partial_fixpoint
def QaE:((List Int) × Int × Int)→Int→Prop:=fun x r=>match x with
 | (p0,v202,v203)=>∀ st,prune 0 ((QB (QJ [1,1,1,0,1,0,0] (QO f165))).bind (env.hint 165).keepAt) st=⟨kp 25 [(0,(La p0)),(3,(Qe v202)),(4,(Qe v203))],[]⟩ →
  RL prog env (env.hint 165) true (QJ [1,1,1,0,1,0,0] (QO f165)) 0 st (fun e s=>match r with|v602=>e=.exit 0∧∃ d,s=⟨sl d 25 [(3,(Qe v602))],[]⟩)
theorem X6:∀ x r,Q9 x=some r→QaE x r:=by
 refine Q9.partial_correctness _ (fun Q9 X6 x r hm=>?_)
 unfold QaE
 obtain ⟨p0,v202,v203⟩:=x
 intro st hst
 refine RL_at hst ?_
 clear hst
 refine Qd (Qd (R_G (Qb 2 ?_)))
 refine QV Qj p0 (es:=(List.map Qj) p0) rfl ?_
 refine Qb 1 (Qf ?_)
 refine Qx hm (rfl) (fun hm=>?_) (fun hm=>?_)
 ·refine Qp (Qd (Qu (R_G (Qb 3 ?_))))
  refine Zt 1 Qj hm rfl (fun _=>rfl) (fun v603 hm=>?_)
  refine Qb 1 ?_
  refine Zq rfl (fun _=>QfZ (k:=.i64) (m:=v202) (n:=v603) rfl (by kernel_rfl) (by kernel_rfl)) ?_
  refine Qb 1 (Qf (R_G (Qb 3 (Qf ?_))))
  exact X6 _ _ hm _ (by kernel_rfl)
 refine Q7 ?_
 obtain rfl:=Qs hm
 exact ⟨rfl,Qr⟩
def Yl (x:(List Int)):Option Int :=
 match x with
 | p0 =>
 if (p0.length:Int) < 1 then
  none
 else
 idx p0 0>>=fun v1 =>
 Q9 (p0,v1,1)>>=fun (v602:Int) =>
 some v602
def Qbj:(List Int)→Int→Prop:=fun x r=>match x,r with
 | p0,r0=>∀ H,PC prog env 165 ([(Lb p0)].map .dat) H (Qe r0) H
theorem Qbs:∀ x r,Yl x=some r→Qbj x r:=by
 intro p0 r0 hm
 unfold Yl at hm
 unfold Qbj
 intro H
 refine PC_sx (ds:=[(Lb p0)]) (fn:=f165) rfl ?_
 refine Qd (R_G (Qb 1 (Qf (Qd (Qd (R_G (Qb 1 ?_)))))))
 refine QV Qj p0 (es:=(List.map Qj) p0) rfl ?_
 refine Qb 1 (Qf ?_)
 refine Qx hm (rfl) (fun hm=>?_) (fun hm=>?_)
 ·refine R_G ?_
  exact (Qf4 hm).elim
 refine Qp (Qd (R_G (Qb 1 ?_)))
 refine Zt 1 Qj hm rfl (fun _=>rfl) (fun v1 hm=>?_)
 refine Qb 2 (Qf (Qd (Qd (R_G (Qb 1 (Qf (Qu ?_)))))))
 obtain ⟨v602,hs,hm⟩:=Qi hm
 refine Za ?_
 refine RL_use (X6 _ _ hs) (by kernel_rfl) ?_
 clear hs
 intro e s hp
 obtain ⟨rfl,d,rfl⟩:=hp
 refine Qd (R_G (Qb 2 (Qf (Qo ?_))))
 obtain rfl:=Qs hm
 exact ⟨trivial,Qk⟩
def Xr (x:(QE × Int)):Option ((List Int) × Int) :=
 match x with
 | (p0,p1) =>
 X3 (p0,p1)>>=fun ((v1,v2):((List Int) × Int)) =>
 if v2≠0 then
  some (([]:(List Int)),v2)
 else
 (
 ZQ (v1,p0.values,p0.scalar,p1)>>=fun (out:((List Int) × Int × Nat) ⊕ ((List Int) × (List Int))) =>
 match out with
 | .inl (v3,v4,v5) =>
  ((if v4=0 then
   some (decide (p1 > 0))
  else
  some false
  )>>=fun (v9:Bool) =>
  if v9=true then
   Yl ([]:(List Int))>>=fun (v10:Int) =>
   some ((v3.length:Int) != (W (v10+1)))
  else
  some false
  )>>=fun (v8:Bool) =>
  if v8=true then
   some (([]:(List Int)),6)
  else
  some (([]:(List Int)),v4)
 | .inr ((v6,v7)) =>
  (if p1 > 0 then
   Yl v7>>=fun (v12:Int) =>
   some ((v6.length:Int) != (W (v12+1)))
  else
  some false
  )>>=fun (v11:Bool) =>
  if v11=true then
   some (([]:(List Int)),6)
  else
  some (v7,0)
 )
def QbK:(QE × Int)→((List Int) × Int)→Prop:=fun x r=>match x,r with
 | (p0,p1),(r0,r1)=>∀ H,PC prog env 148 ([(QE.toD p0),(Qj p1)].map .dat) H (.tup [(La r0),(Qe r1)]) H
theorem QdZ:∀ x r,Xr x=some r→QbK x r:=by
 intro x r hm
 unfold Xr at hm
 unfold QbK
 obtain ⟨p0,p1⟩:=x
 obtain ⟨r0,r1⟩:=r
 intro H
 refine PC_sx (ds:=[(QE.toD p0),(Qj p1)]) (fn:=f148) rfl ?_
 refine Qd (R_G (Qb 4 (Qf (Qd (R_G (Qb 2 ?_))))))
 obtain ⟨⟨v1,v2⟩,hx,hm⟩:=Qi hm
 have hq:=Qdo _ _ hx []
 refine Qq hq ?_
 refine Qb 5 (Qf (Qd (Qd (R_G (Qb 2 (Qf ?_))))))
 refine Qx hm (ne_dec _ _) (fun hm=>?_) (fun hm=>?_)
 ·refine Qd (R_G (Qb 3 (Qf (Qo ?_))))
  obtain ⟨rfl,rfl⟩:=Q8 hm
  exact ⟨trivial,Qk⟩
 refine Qp (Qd (R_G (Qb 1 (Qb 2 (Qf (Qd (R_G (Qb 2 ?_))))))))
 obtain ⟨out,hx,hm⟩:=Qi hm
 rcases out with ⟨v3,v4,v5⟩|⟨v6,v7⟩
 ·have hq:=XJ _ _ hx
  dsimp only [ZM] at hq
  refine QX hq ?_
  refine Qb 5 (Qf (Qd (Qd ?_)))
  obtain ⟨v8,hs,hm⟩:=Qi hm
  refine Xc (fun d=>⟨sl d 42 [(7,(Qe v4)),(9,Ea),(39,(Qn v8))],[(.box [(La p0.values),(Qn p0.scalar)]),(.box [(Qe p1)]),(.map (setE .i64 (Qam true) v3)),(.box [(.mapv 2)]),(.tok 3 v5)]⟩) ?_ (fun d=>?_)
  ·replace hm:=hs
   clear hs
   refine Qcx ?_
   refine Qb 3 ?_
   obtain ⟨v9,hs,hm⟩:=Qi hm
   refine Y1 (j:=6) (fun d=>⟨sl d 42 [(7,(Qe v4)),(8,(.ptr 3 0)),(9,Ea),(31,(Qn v9))],[(.box [(La p0.values),(Qn p0.scalar)]),(.box [(Qe p1)]),(.map (setE .i64 (Qam true) v3)),(.box [(.mapv 2)]),(.tok 3 v5)]⟩) (fun d=>?_) (fun hJ=>?_)
   ·clear hs
    refine Qb 1 ?_
    refine Qz 32 hm (QG _) (fun hm=>?_) (fun hm=>?_)
    ·refine Qb 1 ?_
     refine Zq rfl (fun _=>Qfk (kt:=3) (e:=4) (i:=2) (kk:=.i64) (v:=(Qam true)) (l:=v3) (by kernel_rfl) rfl (by kernel_rfl) (by kernel_rfl)) ?_
     refine Qb 1 ?_
     obtain ⟨v10,hx,hm⟩:=Qi hm
     have hq:=Qbs _ _ hx []
     refine Qq hq ?_
     refine Qb 3 ?_
     refine Qf ⟨by kernel_rfl,?_⟩
     obtain rfl:=Qs hm
     exact Qr
    refine Qb 7 ?_
    refine Qf ⟨by kernel_rfl,?_⟩
    obtain rfl:=Qs hm
    exact Qr
   clear hm
   refine Qz 28 hs (ZW _ _) (fun hm=>?_) (fun hm=>?_)
   ·refine Qb 3 ?_
    obtain rfl:=Qs hm
    exact hJ _ _
   refine Qb 3 ?_
   obtain rfl:=Qs hm
   exact hJ _ _
  clear hs
  refine Qx hm (QG _) (fun hm=>?_) (fun hm=>?_)
  ·refine Qd (R_G (Qb 2 (Qf (Qo ?_))))
   obtain ⟨rfl,rfl⟩:=Q8 hm
   exact ⟨trivial,Qk⟩
  refine Qp (Qd (R_G (Qb 4 (Qf (Qo ?_)))))
  obtain ⟨rfl,rfl⟩:=Q8 hm
  exact ⟨trivial,Qk⟩
 ·have hq:=XJ _ _ hx
  dsimp only [ZM] at hq
  refine QX hq ?_
  refine Qb 5 (Qf (Qd (Qd ?_)))
  obtain ⟨v11,hs,hm⟩:=Qi hm
  refine Xc (fun d=>⟨sl d 42 [(7,(Qe 0)),(9,(.vec 4 ((List.map Qj) v7))),(39,(Qn v11))],[(.box [(La p0.values),(Qn p0.scalar)]),(.box [(Qe p1)]),(.map (setE .i64 (Qam true) v6)),(.box [(.mapv 2)]),(.tok 3 v7.length)]⟩) ?_ (fun d=>?_)
  ·replace hm:=hs
   clear hs
   refine Qcx ?_
   refine Qb 7 ?_
   refine Qz 32 hm (rfl) (fun hm=>?_) (fun hm=>?_)
   ·refine Qb 1 ?_
    refine Zq rfl (fun _=>Qfk (kt:=3) (e:=4) (i:=2) (kk:=.i64) (v:=(Qam true)) (l:=v6) (by kernel_rfl) rfl (by kernel_rfl) (by kernel_rfl)) ?_
    refine Qb 1 ?_
    obtain ⟨v12,hx,hm⟩:=Qi hm
    have hq:=Qbs _ _ hx []
    refine Qq hq ?_
    refine Qb 3 ?_
    refine Qf ⟨by kernel_rfl,?_⟩
    obtain rfl:=Qs hm
    exact Qr
   refine Qb 7 ?_
   refine Qf ⟨by kernel_rfl,?_⟩
   obtain rfl:=Qs hm
   exact Qr
  clear hs
  refine Qx hm (QG _) (fun hm=>?_) (fun hm=>?_)
  ·refine Qd (R_G (Qb 2 (Qf (Qo ?_))))
   obtain ⟨rfl,rfl⟩:=Q8 hm
   exact ⟨trivial,Qk⟩
  refine Qp (Qd (R_G (Qb 4 (Qf (Qo ?_)))))
  obtain ⟨rfl,rfl⟩:=Q8 hm
  exact ⟨trivial,Qk⟩
def X1 (x:(QE × (List Int))):Option (Qm × Int) :=
 match x with
 | (p0,p1) =>
 Xr ((⟨p0.values,p0.scalar⟩:QE),(p1.length:Int))>>=fun ((v1,v2):((List Int) × Int)) =>
 if v2≠0 then
  Zj v2>>=fun ((v3,v4):(Qm × Int)) =>
  some (v3,v4)
 else
 XA (v1,p1)>>=fun ((v5,v6):(Qm × Int)) =>
 some (v5,v6)
def Qcm:(QE × (List Int))→(Qm × Int)→Prop:=fun x r=>match x,r with
 | (p0,p1),(r0,r1)=>∀ H,PC prog env 124 ([(QE.toD p0),(Lb p1)].map .dat) H (.tup [(.dat (Qm.toD r0)),(Qe r1)]) H
theorem Qeh:∀ x r,X1 x=some r→Qcm x r:=by
 intro x r hm
 unfold X1 at hm
 unfold Qcm
 obtain ⟨p0,p1⟩:=x
 obtain ⟨r0,r1⟩:=r
 intro H
 refine PC_sx (ds:=[(QE.toD p0),(Lb p1)]) (fn:=f124) rfl ?_
 refine Qd (R_G (Qb 3 (Qf (Qd (R_G (Qb 2 ?_))))))
 refine QV Qj p1 (es:=(List.map Qj) p1) rfl ?_
 obtain ⟨⟨v1,v2⟩,hx,hm⟩:=Qi hm
 have hq:=QdZ _ _ hx []
 refine Qq hq ?_
 refine Qb 5 (Qf (Qd (Qd (R_G (Qb 2 (Qf ?_))))))
 refine Qx hm (ne_dec _ _) (fun hm=>?_) (fun hm=>?_)
 ·refine Qd (R_G (Qb 1 ?_))
  obtain ⟨⟨v3,v4⟩,hx,hm⟩:=Qi hm
  have hq:=ZI _ _ hx []
  refine Qq hq ?_
  refine Qb 4 (Qf (Qo ?_))
  obtain ⟨rfl,rfl⟩:=Q8 hm
  exact ⟨trivial,Qk⟩
 refine Qp (Qd (R_G (Qb 2 ?_)))
 obtain ⟨⟨v5,v6⟩,hx,hm⟩:=Qi hm
 have hq:=QcR _ _ hx []
 refine Qq hq ?_
 refine Qb 4 (Qf (Qo ?_))
 obtain ⟨rfl,rfl⟩:=Q8 hm
 exact ⟨trivial,Qk⟩
def XT (x:Int):Option Bool :=
 match x with
 | p0 =>
 some (decide (p0 < 0))
def Qbx:Int→Bool→Prop:=fun x r=>match x,r with
 | p0,r0=>∀ H,PC prog env 167 ([(Qj p0)].map .dat) H (Qn r0) H
theorem Qdr:∀ x r,XT x=some r→Qbx x r:=by
 intro p0 r0 hm
 unfold XT at hm
 unfold Qbx
 intro H
 refine PC_sx (ds:=[(Qj p0)]) (fn:=f167) rfl ?_
 refine Qd (R_G (Qb 1 (Qf (Qd (R_G (Qb 3 (Qf (Qo ?_))))))))
 obtain rfl:=Qs hm
 exact ⟨trivial,Qk⟩
def QD (x:((List Int) × Int)):Option (Int ⊕ Unit) :=
 match x with
 | (p0,v201) =>
 if v201 < (p0.length:Int) then
  idx p0 v201>>=fun v602 =>
  XT v602>>=fun (v603:Bool) =>
  if v603=true then
   some (Sum.inl v201)
  else
  QD (p0,(W (v201+1)))
 else
 some (Sum.inr ())
 partial_fixpoint
def ZT:((List Int) × Int)→(Int ⊕ Unit)→Prop:=fun x r=>match x with
 | (p0,v201)=>∀ st,prune 0 ((QB (QJ [1,0,1,0,0] (QO f179))).bind (env.hint 179).keepAt) st=⟨kp 19 [(0,(La p0)),(1,(.dat (.raw (.func (.func 167) #[] #[])))),(7,(Qe (p0.length:Int))),(8,(Qe v201))],[]⟩ →
  RL prog env (env.hint 179) true (QJ [1,0,1,0,0] (QO f179)) 0 st (fun e s=>match r with|.inl v601=>e=.ret∧∃ d,s=⟨sl d 19 [(4,(Qe v601))],[]⟩|.inr (_)=>e=.exit 0∧∃ d,s=⟨sl d 19 [],[]⟩)
theorem QZ:∀ x r,QD x=some r→ZT x r:=by
 refine QD.partial_correctness _ (fun QD QZ x r hm=>?_)
 unfold ZT
 obtain ⟨p0,v201⟩:=x
 intro st hst
 refine RL_at hst ?_
 clear hst
 refine Qd (R_G (Qb 1 (Qf (Qd ?_))))
 refine Qx hm (rfl) (fun hm=>?_) (fun hm=>?_)
 ·refine Qp (Qd (Qu (Qd (R_G (Qb 2 (Qf (Qd (R_G (Qb 3 ?_)))))))))
  refine Zt 1 Qj hm rfl (fun _=>rfl) (fun v602 hm=>?_)
  refine Qb 1 ?_
  obtain ⟨v603,hx,hm⟩:=Qi hm
  have hq:=Qdr _ _ hx []
  refine Qq hq ?_
  refine Qf ?_
  refine Qx hm (QG _) (fun hm=>?_) (fun hm=>?_)
  ·refine Qd (R_G (Qb 2 (Qf (Qo ?_))))
   obtain rfl:=Qs hm
   exact ⟨rfl,Qr⟩
  refine Qp (R_G (Qb 2 (Qf ?_)))
  exact QZ _ _ hm _ (by kernel_rfl)
 refine Q7 ?_
 obtain rfl:=Qs hm
 exact ⟨rfl,Qr⟩
def Q5 (x:(List Int)):Option Int :=
 match x with
 | p0 =>
 (
 QD (p0,0)>>=fun (out:Int ⊕ Unit) =>
 match out with
 | .inl v601 =>
  some v601
 | .inr (_) =>
  some (-1)
 )
def Z8:(List Int)→Int→Prop:=fun x r=>match x,r with
 | p0,r0=>∀ H,PC prog env 179 ([(Lb p0),(.raw (.func (.func 167) #[] #[]))].map .dat) H (Qe r0) H
theorem Xy:∀ x r,Q5 x=some r→Z8 x r:=by
 intro p0 r0 hm
 unfold Q5 at hm
 unfold Z8
 intro H
 refine PC_sx (ds:=[(Lb p0),(.raw (.func (.func 167) #[] #[]))]) (fn:=f179) rfl ?_
 refine Qd (R_G (Qb 1 (Qf (Qd (Qd (R_G (Qb 1 ?_)))))))
 refine QV Qj p0 (es:=(List.map Qj) p0) rfl ?_
 refine Qb 1 (Qf (Qu ?_))
 obtain ⟨out,hs,hm⟩:=Qi hm
 refine Za ?_
 rcases out with v601|_
 ·refine RL_use (QZ _ _ hs) (by kernel_rfl) ?_
  clear hs
  intro e s hp
  obtain ⟨rfl,d,rfl⟩:=hp
  obtain rfl:=Qs hm
  exact ⟨trivial,Qk⟩
 ·refine RL_use (QZ _ _ hs) (by kernel_rfl) ?_
  clear hs
  intro e s hp
  obtain ⟨rfl,d,rfl⟩:=hp
  refine Qd (R_G (Qb 1 (Qf (Qo ?_))))
  obtain rfl:=Qs hm
  exact ⟨trivial,Qk⟩
def QR (x:(List Int)):Option Bool :=
 match x with
 | p0 =>
 Q5 p0>>=fun (v1:Int) =>
 some (decide (v1≥0))
def ZR:(List Int)→Bool→Prop:=fun x r=>match x,r with
 | p0,r0=>∀ H,PC prog env 166 ([(Lb p0),(.raw (.func (.func 167) #[] #[]))].map .dat) H (Qn r0) H
theorem Xl:∀ x r,QR x=some r→ZR x r:=by
 intro p0 r0 hm
 unfold QR at hm
 unfold ZR
 intro H
 refine PC_sx (ds:=[(Lb p0),(.raw (.func (.func 167) #[] #[]))]) (fn:=f166) rfl ?_
 refine Qd (R_G (Qb 1 (Qf (Qd (R_G (Qb 2 ?_))))))
 obtain ⟨v1,hx,hm⟩:=Qi hm
 have hq:=Xy _ _ hx []
 refine Qq hq ?_
 refine Qb 2 (Qf (Qo ?_))
 obtain rfl:=Qs hm
 exact ⟨trivial,Qk⟩
def J9 (x:Int):Option (Int × Int) :=
 match x with
 | p0 =>
 if p0 < 0 then
  some (0,6)
 else
 if p0 > 65536 then
  some (0,7)
 else
 some (p0,0)
def Qco:Int→(Int × Int)→Prop:=fun x r=>match x,r with
 | p0,(r0,r1)=>∀ H,PC prog env 168 ([(Qj p0)].map .dat) H (.tup [(Qe r0),(Qe r1)]) H
theorem Qej:∀ x r,J9 x=some r→Qco x r:=by
 intro p0 r hm
 unfold J9 at hm
 unfold Qco
 obtain ⟨r0,r1⟩:=r
 intro H
 refine PC_sx (ds:=[(Qj p0)]) (fn:=f168) rfl ?_
 refine Qd (R_G (Qb 2 (Qf (Qd (Qu (Qd (R_G (Qb 3 (Qf ?_)))))))))
 refine Qx hm (rfl) (fun hm=>?_) (fun hm=>?_)
 ·refine Qd (R_G (Qb 2 (Qf (Qo ?_))))
  obtain ⟨rfl,rfl⟩:=Q8 hm
  exact ⟨trivial,Qk⟩
 refine Qd (R_G (Qb 3 (Qf ?_)))
 refine Qx hm (rfl) (fun hm=>?_) (fun hm=>?_)
 ·refine Qd (R_G (Qb 2 (Qf (Qo ?_))))
  obtain ⟨rfl,rfl⟩:=Q8 hm
  exact ⟨trivial,Qk⟩
 refine Qp (Qd (R_G (Qb 3 (Qf (Qo ?_)))))
 obtain ⟨rfl,rfl⟩:=Q8 hm
 exact ⟨trivial,Qk⟩
def QM (x:((List Int) × Bool × (List Int) × Int)):Option ((Int × Nat) ⊕ (List Int)) :=
 match x with
 | (q0,q1,v201,v202) =>
 if v202 < (q0.length:Int) then
  idx q0 v202>>=fun v604 =>
  J9 v604>>=fun ((v605,v606):(Int × Int)) =>
  if v606≠0 then
   some (Sum.inl (v606,v201.length))
  else
  app 8 v201 ([v605]:List Int)>>=fun v607 =>
  QM (q0,q1,v607,(W (v202+1)))
 else
 some (Sum.inr v201)
 partial_fixpoint
def Xa:((List Int) × Bool × (List Int) × Int)→((Int × Nat) ⊕ (List Int))→Prop:=fun x r=>match x with
 | (q0,q1,v201,v202)=>∀ st,prune 2 ((QB (QJ [1,1,0,1,0,0] (QO f163))).bind (env.hint 163).keepAt) st=⟨kp 35 [(1,(.dat (.raw (.func (.func 168) #[] #[])))),(6,(.vec 1 ((List.map Qj) v201))),(14,(La q0)),(15,(Qe (q0.length:Int))),(16,(Qe v202))],[(.box [(La q0),(Qn q1)]),(.tok 3 v201.length)]⟩ →
  RL prog env (env.hint 163) true (QJ [1,1,0,1,0,0] (QO f163)) 2 st (fun e s=>match r with|.inl (v601,v602)=>e=.ret∧∃ d,s=⟨sl d 35 [(4,Ea),(5,(Qe v601))],[(.box [(La q0),(Qn q1)]),(.tok 3 v602)]⟩|.inr (v603)=>e=.exit 0∧∃ d,s=⟨sl d 35 [(6,(.vec 1 ((List.map Qj) v603)))],[(.box [(La q0),(Qn q1)]),(.tok 3 v603.length)]⟩)
theorem Zw:∀ x r,QM x=some r→Xa x r:=by
 refine QM.partial_correctness _ (fun QM Zw x r hm=>?_)
 unfold Xa
 obtain ⟨q0,q1,v201,v202⟩:=x
 intro st hst
 refine RL_at hst ?_
 clear hst
 refine Qd (R_G (Qb 1 (Qf (Qd ?_))))
 refine Qx hm (rfl) (fun hm=>?_) (fun hm=>?_)
 ·refine Qp (Qd (Qu (Qd (R_G ?_))))
  refine Zt 1 Qj hm rfl (fun _=>rfl) (fun v604 hm=>?_)
  refine Qb 2 (Qf (Qd (R_G (Qb 2 ?_))))
  obtain ⟨⟨v605,v606⟩,hx,hm⟩:=Qi hm
  have hq:=Qej _ _ hx []
  refine Qq hq ?_
  refine Qb 5 (Qf (Qd (Qd (R_G (Qb 2 (Qf ?_))))))
  refine Qx hm (ne_dec _ _) (fun hm=>?_) (fun hm=>?_)
  ·refine Qd (R_G (Qb 3 (Qf (Qo ?_))))
   obtain rfl:=Qs hm
   exact ⟨rfl,Qr⟩
  refine Qp (R_G (Qb 3 ?_))
  obtain ⟨v607,hx,hm⟩:=Qi hm
  refine QcJ 3 1 8 1 Qj v201 ([v605]:List Int) v607 (xs:=(List.map Qj) v201) (es:=(List.map Qj) ([v605]:List Int)) (L:=(List.map Qj)) (fun _=>rfl) rfl rfl (fun _=>rfl) hx ?_
  refine Qb 1 (Qf (R_G (Qb 2 (Qf ?_))))
  exact Zw _ _ hm _ (by kernel_rfl)
 refine Q7 ?_
 obtain rfl:=Qs hm
 exact ⟨rfl,Qr⟩
def ZP (x:((List Int) × Bool)):Option ((Int × Nat) ⊕ (List Int)) :=
 match x with
 | (q0,q1) =>
 YI (0≤(q0.length:Int)∧(q0.length:Int) * (8:Int)≤(room:Int)∧(q0.length:Int)≤9223372036854775807)>>=fun (_:Unit) =>
 (
 QM (q0,q1,([]:List Int),0)>>=fun (out:(Int × Nat) ⊕ (List Int)) =>
 match out with
 | .inl (v601,v602) =>
  some (Sum.inl (v601,v602))
 | .inr (v603) =>
  some (Sum.inr v603)
 )
def ZL:((List Int) × Bool)→((Int × Nat) ⊕ (List Int))→Prop:=fun x r=>match x with
 | (q0,q1)=>PC prog env 163 [(La q0),(.dat (.raw (.func (.func 168) #[] #[])))] [(.box [(La q0),(Qn q1)])] (match r with|.inl (v5001,v5002)=>(.tup [Ea,(Qe v5001)])|.inr (v5003)=>(.tup [(.vec 1 ((List.map Qj) v5003)),(Qe 0)])) (match r with|.inl (v5001,v5002)=>[(.box [(La q0),(Qn q1)]),(.tok 3 v5002)]|.inr (v5003)=>[(.box [(La q0),(Qn q1)]),(.tok 3 v5003.length)])
theorem XI:∀ x r,ZP x=some r→ZL x r:=by
 intro x r hm
 unfold ZP at hm
 unfold ZL
 obtain ⟨q0,q1⟩:=x
 refine PC_sxB (fn:=f163) rfl ?_
 refine Qd (R_G (Qb 2 (Qf (Qd (R_G (Qb 1 ?_))))))
 refine QV Qj q0 (es:=(List.map Qj) q0) rfl ?_
 obtain ⟨_,hx,hm⟩:=Qi hm
 replace hx:=YP hx
 refine ZB (v:=.vec 1 []) (fun H=>H++[.tok 3 0]) rfl (by kernel_rfl) ?_ ?_
 ·intro K hk
  exact Qfj 1 (n:=(q0.length:Int)) (j:=0) (os:=[]) (bytes:=8) (z:=(Qj 0)) hx (by kernel_rfl) (by kernel_rfl) (by kernel_rfl) (by kernel_rfl) (by kernel_rfl) (by kernel_rfl) rfl (by kernel_rfl) (by kernel_rfl) hk
 refine Qb 1 (Qf (Qd (Qd (R_G (Qb 1 ?_)))))
 refine QV Qj q0 (es:=(List.map Qj) q0) rfl ?_
 refine Qb 1 (Qf (Qu ?_))
 obtain ⟨out,hs,hm⟩:=Qi hm
 refine Za ?_
 rcases out with ⟨v601,v602⟩|v603
 ·refine RL_use (Zw _ _ hs) (by kernel_rfl) ?_
  clear hs
  intro e s hp
  obtain ⟨rfl,d,rfl⟩:=hp
  obtain rfl:=Qs hm
  exact ⟨trivial,QK (by kernel_rfl) (by kernel_rfl)⟩
 ·refine RL_use (Zw _ _ hs) (by kernel_rfl) ?_
  clear hs
  intro e s hp
  obtain ⟨rfl,d,rfl⟩:=hp
  refine Qd (R_G (Qb 3 (Qf (Qo ?_))))
  obtain rfl:=Qs hm
  exact ⟨trivial,QK (by kernel_rfl) (by kernel_rfl)⟩
def XF (x:QE):Option ((List Int) × Int) :=
 match x with
 | p0 =>
 QR p0.values>>=fun (v1:Bool) =>
 if v1=true then
  some (([]:(List Int)),6)
 else
 (
 ZP (p0.values,p0.scalar)>>=fun (out:(Int × Nat) ⊕ (List Int)) =>
 match out with
 | .inl (v2,v3) =>
  (if v2=0 then
   Zg ([]:(List Int))>>=fun (v6:Int) =>
   some v6
  else
  some v2
  )>>=fun (v5:Int) =>
  if v5≠0 then
   some (([]:(List Int)),v5)
  else
  some (([]:(List Int)),0)
 | .inr (v4) =>
  Zg v4>>=fun (v7:Int) =>
  if v7≠0 then
   some (([]:(List Int)),v7)
  else
  some (v4,0)
 )
def QbZ:QE→((List Int) × Int)→Prop:=fun x r=>match x,r with
 | p0,(r0,r1)=>∀ H,PC prog env 149 ([(QE.toD p0)].map .dat) H (.tup [(La r0),(Qe r1)]) H
theorem Qee:∀ x r,XF x=some r→QbZ x r:=by
 intro p0 r hm
 unfold XF at hm
 unfold QbZ
 obtain ⟨r0,r1⟩:=r
 intro H
 refine PC_sx (ds:=[(QE.toD p0)]) (fn:=f149) rfl ?_
 refine Qd (R_G (Qb 3 (Qf (Qd (Qd (R_G (Qb 2 ?_)))))))
 obtain ⟨v1,hx,hm⟩:=Qi hm
 have hq:=Xl _ _ hx []
 refine Qq hq ?_
 refine Qf ?_
 refine Qx hm (QG _) (fun hm=>?_) (fun hm=>?_)
 ·refine Qd (R_G (Qb 2 (Qf (Qo ?_))))
  obtain ⟨rfl,rfl⟩:=Q8 hm
  exact ⟨trivial,Qk⟩
 refine Qp (Qd (R_G (Qb 2 ?_)))
 obtain ⟨out,hx,hm⟩:=Qi hm
 rcases out with ⟨v2,v3⟩|v4
 ·have hq:=XI _ _ hx
  dsimp only [ZL] at hq
  refine QX hq ?_
  refine Qb 5 (Qf (Qd (Qd (R_G (Qb 2 (Qf ?_))))))
  obtain ⟨v5,hs,hm⟩:=Qi hm
  refine Xc (fun d=>⟨sl d 23 [(4,Ea),(5,(Qe v5))],[(.box [(La p0.values),(Qn p0.scalar)]),(.tok 3 v3)]⟩) ?_ (fun d=>?_)
  ·replace hm:=hs
   clear hs
   refine Qx hm (ZW _ _) (fun hm=>?_) (fun hm=>?_)
   ·refine R_G (Qb 1 ?_)
    obtain ⟨v6,hx,hm⟩:=Qi hm
    have hq:=ZJ _ _ hx []
    refine Qq hq ?_
    refine Qb 1 (Qf ?_)
    obtain rfl:=Qs hm
    exact Qr
   refine Qp ?_
   obtain rfl:=Qs hm
   exact Qr
  clear hs
  refine Qd (Qd (R_G (Qb 2 (Qf ?_))))
  refine Qx hm (ne_dec _ _) (fun hm=>?_) (fun hm=>?_)
  ·refine Qd (R_G (Qb 3 (Qf (Qo ?_))))
   obtain ⟨rfl,rfl⟩:=Q8 hm
   exact ⟨trivial,Qk⟩
  refine Qp (Qd (R_G (Qb 3 (Qf (Qo ?_)))))
  obtain ⟨rfl,rfl⟩:=Q8 hm
  exact ⟨trivial,Qk⟩
 ·have hq:=XI _ _ hx
  dsimp only [ZL] at hq
  refine QX hq ?_
  refine Qb 5 (Qf (Qd (Qd (R_G (Qb 2 (Qf ?_))))))
  refine QaA (by kernel_rfl) ?_
  refine R_G (Qb 1 ?_)
  obtain ⟨v7,hx,hm⟩:=Qi hm
  have hq:=ZJ _ _ hx []
  refine Qq hq ?_
  refine Qb 1 (Qf (Qd (Qd (R_G (Qb 2 (Qf ?_))))))
  refine Qx hm (ne_dec _ _) (fun hm=>?_) (fun hm=>?_)
  ·refine Qd (R_G (Qb 3 (Qf (Qo ?_))))
   obtain ⟨rfl,rfl⟩:=Q8 hm
   exact ⟨trivial,Qk⟩
  refine Qp (Qd (R_G (Qb 3 (Qf (Qo ?_)))))
  obtain ⟨rfl,rfl⟩:=Q8 hm
  exact ⟨trivial,Qk⟩
def JJ (x:((List Int) × (List Int) × (List Int) × Bool)):Option (Int ⊕ ((List Int) × (List Int))) :=
 match x with
 | (q0,q1,q2,q3) =>
 Zg q1>>=fun (v1:Int) =>
 if v1≠0 then
  some (Sum.inl v1)
 else
 Qy q0>>=fun v2 =>
 Qy q1>>=fun v3 =>
 some (Sum.inr (v2,v3))
def JB:((List Int) × (List Int) × (List Int) × Bool)→(Int ⊕ ((List Int) × (List Int)))→Prop:=fun x r=>match x with
 | (q0,q1,q2,q3)=>PC prog env 114 [(La q0),(La q1),(.dat (.lst []))] [(.box [(La q2),(Qn q3)]),Qv] (match r with|.inl v5001=>(.tup [(.dat (.agg [Eb,Eb,Eb,Eb,(Qj 0),(Qj 0),Eb])),(Qe v5001)])|.inr ((v5002,v5003))=>(.tup [(.agg [Ea,(.ms 3 1 0 v5002.length v5002.length),(.ms 4 1 0 v5003.length v5003.length),Ea,(Qe (-1)),(Qe 0),Ea]),(Qe 0)])) (match r with|.inl v5001=>[(.box [(La q2),(Qn q3)]),Qv,Qv]|.inr ((v5002,v5003))=>[(.box [(La q2),(Qn q3)]),Qv,(.box [Ea,(.ms 3 1 0 v5002.length v5002.length),(.ms 4 1 0 v5003.length v5003.length),Ea,(Qe (-1)),(Qe 0),Ea]),(.mt 3 1 (cellsOf Qj v5002)),(.mt 3 1 (cellsOf Qj v5003)),(.box [Ea,(.ms 3 1 0 v5002.length v5002.length),(.ms 4 1 0 v5003.length v5003.length),Ea,(Qe (-1)),(Qe 0),Ea])])
theorem Qca:∀ x r,JJ x=some r→JB x r:=by
 intro x r hm
 unfold JJ at hm
 unfold JB
 obtain ⟨q0,q1,q2,q3⟩:=x
 refine PC_sxB (fn:=f114) rfl ?_
 refine Qd (R_G (Qb 2 (Qf (Qd (Qd (R_G (Qb 1 ?_)))))))
 obtain ⟨v1,hx,hm⟩:=Qi hm
 have hq:=ZJ _ _ hx []
 refine Qq hq ?_
 refine Qb 1 (Qf (Qd (R_G (Qb 2 (Qf ?_)))))
 refine Qx hm (ne_dec _ _) (fun hm=>?_) (fun hm=>?_)
 ·refine Qd (R_G (Qb 4 (Qf (Qo ?_))))
  obtain rfl:=Qs hm
  exact ⟨trivial,QK (by kernel_rfl) (by kernel_rfl)⟩
 refine Qp (Qd (R_G (Qb 1 ?_)))
 obtain ⟨v2,hx,hm⟩:=Qi hm
 have hq:=QF _ _ hx
 dsimp only [QA] at hq
 have hl9:mtOf [Blk.mt 3 (cgm_slices_Clone_int_int v2) (cellsOf Qj v2)] 0=some (3,cgm_slices_Clone_int_int v2,cellsOf Qj v2):=ZD (by kernel_rfl)
 refine ZB (v:=.ms 3 1 0 v2.length v2.length) (fun H=>H++[.mt 3 1 (cellsOf Qj v2)]) rfl (by kernel_rfl) ?_ ?_
 ·intro K hk
  refine Zp 3 (first:=#[]) (cap:=#[]) (j:=(0,3)) (ow':=[]) (f0:=Qj) (l:=v2) rfl ?_ ?_ ?_ (ds:=[.lst ((List.map Qj) q0)]) ?_ hq hl9 ?_ ?_ ?_
  ·kernel_rfl
  ·kernel_rfl
  ·kernel_rfl
  ·kernel_rfl
  ·exact hk
  ·kernel_rfl
  ·decide
 refine Qb 1 ?_
 obtain ⟨v3,hx,hm⟩:=Qi hm
 have hq:=QF _ _ hx
 dsimp only [QA] at hq
 have hl9:mtOf [Blk.mt 3 (cgm_slices_Clone_int_int v3) (cellsOf Qj v3)] 0=some (3,cgm_slices_Clone_int_int v3,cellsOf Qj v3):=ZD (by kernel_rfl)
 refine ZB (v:=.ms 4 1 0 v3.length v3.length) (fun H=>H++[.mt 3 1 (cellsOf Qj v3)]) rfl (by kernel_rfl) ?_ ?_
 ·intro K hk
  refine Zp 4 (first:=#[]) (cap:=#[]) (j:=(0,3)) (ow':=[]) (f0:=Qj) (l:=v3) rfl ?_ ?_ ?_ (ds:=[.lst ((List.map Qj) q1)]) ?_ hq hl9 ?_ ?_ ?_
  ·kernel_rfl
  ·kernel_rfl
  ·kernel_rfl
  ·kernel_rfl
  ·exact hk
  ·kernel_rfl
  ·decide
 refine Qb 3 (Qf (Qd (Qd (R_G (Qb 1 (Qb 1 (Qb 1 (Qf (Qu ?_)))))))))
 refine Za ?_
 refine RL_at (st':=⟨kp 33 [(6,(.ptr 2 0)),(9,(.ptr 5 0)),(23,(.dat (.lst []))),(24,(Qe 0)),(25,(Qe 0))],[(.box [(La q2),(Qn q3)]),Qv,Qv,(.mt 3 1 (cellsOf Qj v2)),(.mt 3 1 (cellsOf Qj v3)),(.box [Ea,(.ms 3 1 0 v2.length v2.length),(.ms 4 1 0 v3.length v3.length),Ea,(Qe (-1)),(Qe 0),Ea])]⟩) (prune_of2 [(.box [(La q2),(Qn q3)]),Qv,Qv,(.mt 3 1 (cellsOf Qj v2)),(.mt 3 1 (cellsOf Qj v3)),(.box [Ea,(.ms 3 1 0 v2.length v2.length),(.ms 4 1 0 v3.length v3.length),Ea,(Qe (-1)),(Qe 0),Ea])] (fun _=>(pg_cons (by kernel_rfl) (pg_cons (by kernel_rfl) (pg_cons (by kernel_rfl) (pg_cons (purge_mt Qj _ _ _ _ _) (pg_cons (purge_mt Qj _ _ _ _ _) (pg_cons (by kernel_rfl) pg_nil))))))) rfl) ?_
 refine Qd (R_G (Qb 1 (Qf (Qd ?_))))
 refine YN (by kernel_rfl) ?_
 refine Q7 (Qd (R_G (Qb 3 (Qf (Qo ?_)))))
 obtain rfl:=Qs hm
 exact ⟨trivial,QK (by kernel_rfl) (by kernel_rfl)⟩
def JU (x:(QE × (List Int))):Option (Qm × Int) :=
 match x with
 | (p0,p1) =>
 XF (⟨p0.values,p0.scalar⟩:QE)>>=fun ((v1,v2):((List Int) × Int)) =>
 if v2≠0 then
  Zj v2>>=fun ((v3,v4):(Qm × Int)) =>
  some (v3,v4)
 else
 (
 JJ (p1,v1,p0.values,p0.scalar)>>=fun (out:Int ⊕ ((List Int) × (List Int))) =>
 match out with
 | .inl v5 =>
  some ((⟨([]:(List Int)),([]:(List Int)),([]:(List Int)),([]:(List Int)),0,0,([]:(List Int))⟩:Qm),v5)
 | .inr ((v6,v7)) =>
  some ((⟨([]:(List Int)),v6,v7,([]:(List Int)),(-1),0,([]:(List Int))⟩:Qm),0)
 )
def Qc4:(QE × (List Int))→(Qm × Int)→Prop:=fun x r=>match x,r with
 | (p0,p1),(r0,r1)=>∀ H,PC prog env 125 ([(QE.toD p0),(Lb p1)].map .dat) H (.tup [(.dat (Qm.toD r0)),(Qe r1)]) H
theorem QeP:∀ x r,JU x=some r→Qc4 x r:=by
 intro x r hm
 unfold JU at hm
 unfold Qc4
 obtain ⟨p0,p1⟩:=x
 obtain ⟨r0,r1⟩:=r
 intro H
 refine PC_sx (ds:=[(QE.toD p0),(Lb p1)]) (fn:=f125) rfl ?_
 refine Qd (R_G (Qb 3 (Qf (Qd (R_G (Qb 1 ?_))))))
 obtain ⟨⟨v1,v2⟩,hx,hm⟩:=Qi hm
 have hq:=Qee _ _ hx []
 refine Qq hq ?_
 refine Qb 5 (Qf (Qd (Qd (R_G (Qb 2 (Qf ?_))))))
 refine Qx hm (ne_dec _ _) (fun hm=>?_) (fun hm=>?_)
 ·refine Qd (R_G (Qb 1 ?_))
  obtain ⟨⟨v3,v4⟩,hx,hm⟩:=Qi hm
  have hq:=ZI _ _ hx []
  refine Qq hq ?_
  refine Qb 4 (Qf (Qo ?_))
  obtain ⟨rfl,rfl⟩:=Q8 hm
  exact ⟨trivial,Qk⟩
 refine Qp (Qd (R_G (Qb 2 ?_)))
 obtain ⟨out,hx,hm⟩:=Qi hm
 rcases out with v5|⟨v6,v7⟩
 ·have hq:=Qca _ _ hx
  dsimp only [JB] at hq
  refine QX hq ?_
  refine Qb 4 (Qf (Qo ?_))
  obtain ⟨rfl,rfl⟩:=Q8 hm
  exact ⟨trivial,Qk⟩
 ·have hq:=Qca _ _ hx
  dsimp only [JB] at hq
  refine QX hq ?_
  refine Qb 4 (Qf (Qo ?_))
  obtain ⟨rfl,rfl⟩:=Q8 hm
  exact ⟨trivial,YO [(.agg [Ea,(.ms 3 1 0 v6.length v6.length),(.ms 4 1 0 v7.length v7.length),Ea,(Qe (-1)),(Qe 0),Ea]),(Qe 0)] (by kernel_rfl) (po_tup (ps_cons (p1_agg (pc_cons (by kernel_rfl) (pc_cons (pc_ms (e:=3) Qj v6 rfl (fun _=>rfl) (by kernel_rfl)) (pc_cons (pc_ms (e:=3) Qj v7 rfl (fun _=>rfl) (by kernel_rfl)) (pc_cons (by kernel_rfl) (pc_cons (by kernel_rfl) (pc_cons (by kernel_rfl) (pc_cons (by kernel_rfl) pc_nil)))))))) (ps_cons (by kernel_rfl) ps_nil)))⟩
def ZO (x:(Int × Int × Int × ByteArray × (List Int) × (List Qc) × Int × (List Int) × Int × (List Int) × Int × Int × (List Int) × (List Qh) × (List (ByteArray × Int)) × (List Qa) × (List Qa) × (List Qg))):Option ((Int × (List Int) × Int × (List Int) × Int × Int × (List Int) × (List Qh) × Int)) :=
 match x with
 | (q0,q1,q2,q3,q4,q5,q6,q7,q8,q9,q10,q11,q12,q13,q14,q15,q16,q17) =>
 idx q5 0>>=fun v1 =>
 XG (v1.kind,v1.fn,v1.axis,v1.name,v1.nums,v1.kids,q14,q15,q16)>>=fun ((v2,v3,v4):((List Int) × Bool × Int)) =>
 if v4≠0 then
  some (0,([]:List Int),0,([]:List Int),0,0,([]:List Int),([]:List Qh),v4)
 else
 if q1=1 then
  Qbq ((⟨v2,v3⟩:QE),q7)>>=fun ((v5,v6):(Qm × Int)) =>
  Jn (v5,(⟨q6,q7,q8,q9,q10,q11,q12,q13⟩:Qh))>>=fun (v7:Qh) =>
  some (v7.kind,v7.shape,v7.buffer,v7.starts,v7.axis,v7.amount,v7.perm,v7.kids,v6)
 else
 if q1=2 then
  QaF ((⟨v2,v3⟩:QE),q7)>>=fun ((v8,v9):(Qm × Int)) =>
  Jn (v8,(⟨q6,q7,q8,q9,q10,q11,q12,q13⟩:Qh))>>=fun (v10:Qh) =>
  some (v10.kind,v10.shape,v10.buffer,v10.starts,v10.axis,v10.amount,v10.perm,v10.kids,v9)
 else
 if q1=3 then
  Qat ((⟨v2,v3⟩:QE),q2,q7)>>=fun ((v11,v12):(Qm × Int)) =>
  Jm (4,v11,(⟨q6,q7,q8,q9,q10,q11,q12,q13⟩:Qh))>>=fun (v13:Qh) =>
  some (v13.kind,v13.shape,v13.buffer,v13.starts,v13.axis,v13.amount,v13.perm,v13.kids,v12)
 else
 if q1=4 then
  X1 ((⟨v2,v3⟩:QE),q7)>>=fun ((v14,v15):(Qm × Int)) =>
  YQ (v14,(⟨q6,q7,q8,q9,q10,q11,q12,q13⟩:Qh))>>=fun (v16:Qh) =>
  some (v16.kind,v16.shape,v16.buffer,v16.starts,v16.axis,v16.amount,v16.perm,v16.kids,v15)
 else
 JU ((⟨v2,v3⟩:QE),q7)>>=fun ((v17,v18):(Qm × Int)) =>
 YY ((⟨q6,q7,q8,q9,q10,q11,q12,q13⟩:Qh),v17.shape)>>=fun (v19:Qh) =>
 some (v19.kind,v19.shape,v19.buffer,v19.starts,v19.axis,v19.amount,v19.perm,v19.kids,v18)
def Y4:(Int × Int × Int × ByteArray × (List Int) × (List Qc) × Int × (List Int) × Int × (List Int) × Int × Int × (List Int) × (List Qh) × (List (ByteArray × Int)) × (List Qa) × (List Qa) × (List Qg))→(Int × (List Int) × Int × (List Int) × Int × Int × (List Int) × (List Qh) × Int)→Prop:=fun x r=>match x with
 | (q0,q1,q2,q3,q4,q5,q6,q7,q8,q9,q10,q11,q12,q13,q14,q15,q16,q17)=>PCX prog env 86 [(.ptr 7 0),(.dat (.agg [(Qj q0),(Qj q1),(Qj q2),(strD q3),(Lb q4),(.lst (Qc.toDs q5))])),(.dat (.agg [(Qj q6),(Lb q7),(Qj q8),(Lb q9),(Qj q10),(Qj q11),(Lb q12),(.lst (Qh.toDs q13))]))] [(.map (smE q14)),(.tok 39 q15.length),(.box [(.vec 1 ((List.map Qa.toD) q15)),(.mapv 0)]),(.tok 39 (([]:List Qa).length)),(.box [(.vec 1 ((List.map Qa.toD) q16)),(.mapv 0)]),Xn,(.tok 65 q17.length),(.box [(.ptr 4 0),(.vec 6 ((List.map Qg.toD) q17))])] (match r with|(v5001,v5002,v5003,v5004,v5005,v5006,v5007,v5008,v5009)=>(.tup [(.dat (.agg [(Qj v5001),(Lb v5002),(Qj v5003),(Lb v5004),(Qj v5005),(Qj v5006),(Lb v5007),(.lst (Qh.toDs v5008))])),(Qe v5009)])) (match r with|(v5001,v5002,v5003,v5004,v5005,v5006,v5007,v5008,v5009)=>[(.map (smE q14)),(.tok 39 q15.length),(.box [(.vec 1 ((List.map Qa.toD) q15)),(.mapv 0)]),(.tok 39 (([]:List Qa).length)),(.box [(.vec 1 ((List.map Qa.toD) q16)),(.mapv 0)]),Xn,(.tok 65 q17.length),(.box [(.ptr 4 0),(.vec 6 ((List.map Qg.toD) q17))])])
theorem QbC:∀ x r,ZO x=some r→Y4 x r:=by
 intro x r hm
 unfold ZO at hm
 unfold Y4
 obtain ⟨q0,q1,q2,q3,q4,q5,q6,q7,q8,q9,q10,q11,q12,q13,q14,q15,q16,q17⟩:=x
 refine PCX_sxB (fn:=f86) rfl ?_
 refine Qd (R_G (Qb 4 (Qf (Qd ?_))))
 refine Qbt ?_
 refine Qb 6 ?_
 obtain ⟨v1,hx,hm⟩:=Qi hm
 refine Qbg 6 Qc.toD q5 0 v1 (es:=Qc.toDs q5) (d:=(Qc.ex v1)) (Qc.toDs_eq _) hx (Qc.toD_eq v1) rfl ?_
 refine Qb 1 ?_
 obtain ⟨⟨v2,v3,v4⟩,hx,hm⟩:=Qi hm
 have hq:=Qef _ _ hx
 dsimp only [QaP] at hq
 refine QfN (n:=5) hq ?_ (hi:=und_hi 0)
 refine Qb 6 ?_
 refine Qf ⟨by kernel_rfl,?_⟩
 refine Qd (Qd (R_G (Qb 2 (Qf ?_))))
 refine Qx hm (ne_dec _ _) (fun hm=>?_) (fun hm=>?_)
 ·refine Qd (R_G (Qb 4 (Qf (Qo ?_))))
  obtain rfl:=Qs hm
  exact ⟨trivial,fin_bodyX 8 (by kernel_rfl) (by kernel_rfl)⟩
 refine Qp (Qd (R_G (Qb 1 (Qf (Qd (Qd (R_G (Qb 2 (Qf (Qu (Qd ?_)))))))))))
 refine R_G (Qb 2 (Qf ?_))
 refine Qx hm (ZW _ _) (fun hm=>?_) (fun hm=>?_)
 ·refine Qd (R_G (Qb 3 ?_))
  obtain ⟨⟨v5,v6⟩,hx,hm⟩:=Qi hm
  have hq:=Qfv _ _ hx []
  refine Qq hq ?_
  refine Qb 5 (Qf (Qd (R_G (Qb 2 ?_))))
  obtain ⟨v7,hx,hm⟩:=Qi hm
  have hq:=QdO _ _ hx []
  refine Qq hq ?_
  refine Qb 3 (Qf (Qo ?_))
  obtain rfl:=Qs hm
  exact ⟨trivial,fin_bodyX 8 (by kernel_rfl) (by kernel_rfl)⟩
 refine Qd (R_G (Qb 2 (Qf ?_)))
 refine Qx hm (ZW _ _) (fun hm=>?_) (fun hm=>?_)
 ·refine Qd (R_G (Qb 3 ?_))
  obtain ⟨⟨v8,v9⟩,hx,hm⟩:=Qi hm
  have hq:=Qft _ _ hx []
  refine Qq hq ?_
  refine Qb 5 (Qf (Qd (R_G (Qb 2 ?_))))
  obtain ⟨v10,hx,hm⟩:=Qi hm
  have hq:=QdO _ _ hx []
  refine Qq hq ?_
  refine Qb 3 (Qf (Qo ?_))
  obtain rfl:=Qs hm
  exact ⟨trivial,fin_bodyX 8 (by kernel_rfl) (by kernel_rfl)⟩
 refine Qd (R_G (Qb 2 (Qf ?_)))
 refine Qx hm (ZW _ _) (fun hm=>?_) (fun hm=>?_)
 ·refine Qd (R_G (Qb 5 ?_))
  obtain ⟨⟨v11,v12⟩,hx,hm⟩:=Qi hm
  have hq:=Qe4 _ _ hx []
  refine Qq hq ?_
  refine Qb 5 (Qf (Qd (R_G (Qb 2 ?_))))
  obtain ⟨v13,hx,hm⟩:=Qi hm
  have hq:=QdN _ _ hx []
  refine Qq hq ?_
  refine Qb 3 (Qf (Qo ?_))
  obtain rfl:=Qs hm
  exact ⟨trivial,fin_bodyX 8 (by kernel_rfl) (by kernel_rfl)⟩
 refine Qd (R_G (Qb 2 (Qf ?_)))
 refine Qx hm (ZW _ _) (fun hm=>?_) (fun hm=>?_)
 ·refine Qd (R_G (Qb 3 ?_))
  obtain ⟨⟨v14,v15⟩,hx,hm⟩:=Qi hm
  have hq:=Qeh _ _ hx []
  refine Qq hq ?_
  refine Qb 5 (Qf (Qd (R_G (Qb 2 ?_))))
  obtain ⟨v16,hx,hm⟩:=Qi hm
  have hq:=Qb3 _ _ hx []
  refine Qq hq ?_
  refine Qb 3 (Qf (Qo ?_))
  obtain rfl:=Qs hm
  exact ⟨trivial,fin_bodyX 8 (by kernel_rfl) (by kernel_rfl)⟩
 refine Qp (Qd (R_G (Qb 3 ?_)))
 obtain ⟨⟨v17,v18⟩,hx,hm⟩:=Qi hm
 have hq:=QeP _ _ hx []
 refine Qq hq ?_
 refine Qb 5 (Qf (Qd (R_G (Qb 3 ?_))))
 obtain ⟨v19,hx,hm⟩:=Qi hm
 have hq:=Qbu _ _ hx []
 refine Qq hq ?_
 refine Qb 3 (Qf (Qo ?_))
 obtain rfl:=Qs hm
 exact ⟨trivial,fin_bodyX 8 (by kernel_rfl) (by kernel_rfl)⟩
mutual
def Zb (x:(Int × Int × Int × ByteArray × (List Int) × (List Qc) × Int × (List Int) × Int × (List Int) × Int × Int × (List Int) × (List Qh) × (List (ByteArray × Int)) × (List Qa) × (List Qa) × (List Qg))):Option (((List Qg) × Int × (List Int) × Int × (List Qh) × Int)) :=
 match x with
 | (q0,q1,q2,q3,q4,q5,q6,q7,q8,q9,q10,q11,q12,q13,q14,q15,q16,q17) =>
 idx q5 0>>=fun v1 =>
 QL (v1.kind,v1.fn,v1.axis,v1.name,v1.nums,v1.kids,q14,q15,q16,q17)>>=fun ((v2,v3,v4,v5,v6,v7,v8,v9,v10,v11):((List Qg) × Int × (List Int) × Int × (List Int) × Int × Int × (List Int) × (List Qh) × Int)) =>
 if v11≠0 then
  some (v2,0,([]:List Int),0,([]:List Qh),v11)
 else
 Yz (q2,v4,q7)>>=fun ((v12,v13):(Qm × Int)) =>
 JT ((⟨v3,v4,v5,v6,v7,v8,v9,v10⟩:Qh),v12.left)>>=fun (v14:Qh) =>
 JT ((⟨q6,q7,q8,q9,q10,q11,q12,q13⟩:Qh),v12.right)>>=fun (v15:Qh) =>
 some (v2,7,v12.shape,v12.axis,([(⟨v14.kind,v14.shape,v14.buffer,v14.starts,v14.axis,v14.amount,v14.perm,v14.kids⟩:Qh),(⟨v15.kind,v15.shape,v15.buffer,v15.starts,v15.axis,v15.amount,v15.perm,v15.kids⟩:Qh)]:List Qh),v13)
 partial_fixpoint
def QL (x:(Int × Int × Int × ByteArray × (List Int) × (List Qc) × (List (ByteArray × Int)) × (List Qa) × (List Qa) × (List Qg))):Option (((List Qg) × Int × (List Int) × Int × (List Int) × Int × Int × (List Int) × (List Qh) × Int)) :=
 match x with
 | (q0,q1,q2,q3,q4,q5,q6,q7,q8,q9) =>
 if (q5.length:Int)=0 then
  Yi (q0,q1,q2,q3,q4,q5,q6,q7,q8,q9)>>=fun ((v1,v2,v3,v4,v5):((List Qg) × Int × (List Int) × Int × Int)) =>
  some (v1,v2,v3,v4,([]:List Int),0,0,([]:List Int),([]:List Qh),v5)
 else
 idx q5 (W ((q5.length:Int) - 1))>>=fun v6 =>
 QL (v6.kind,v6.fn,v6.axis,v6.name,v6.nums,v6.kids,q6,q7,q8,q9)>>=fun ((v7,v8,v9,v10,v11,v12,v13,v14,v15,v16):((List Qg) × Int × (List Int) × Int × (List Int) × Int × Int × (List Int) × (List Qh) × Int)) =>
 if v16≠0 then
  some (v7,0,([]:List Int),0,([]:List Int),0,0,([]:List Int),([]:List Qh),v16)
 else
 if q0=3 then
  QaS ((⟨q0,q1,q2,q3,q4,q5⟩:Qc),(⟨v8,v9,v10,v11,v12,v13,v14,v15⟩:Qh))>>=fun ((v17,v18):(Qh × Int)) =>
  some (v7,v17.kind,v17.shape,v17.buffer,v17.starts,v17.axis,v17.amount,v17.perm,v17.kids,v18)
 else
 Xp ()>>=fun (_:Unit) =>
 if q1=6 then
  Zb (q0,q1,q2,q3,q4,q5,v8,v9,v10,v11,v12,v13,v14,v15,q6,q7,q8,v7)>>=fun ((v19,v20,v21,v22,v23,v24):((List Qg) × Int × (List Int) × Int × (List Qh) × Int)) =>
  some (v19,v20,v21,0,([]:List Int),v22,0,([]:List Int),v23,v24)
 else
 ZO (q0,q1,q2,q3,q4,q5,v8,v9,v10,v11,v12,v13,v14,v15,q6,q7,q8,v7)>>=fun ((v25,v26,v27,v28,v29,v30,v31,v32,v33):(Int × (List Int) × Int × (List Int) × Int × Int × (List Int) × (List Qh) × Int)) =>
 some (v7,v25,v26,v27,v28,v29,v30,v31,v32,v33)
 partial_fixpoint
end
def ZK:(Int × Int × Int × ByteArray × (List Int) × (List Qc) × Int × (List Int) × Int × (List Int) × Int × Int × (List Int) × (List Qh) × (List (ByteArray × Int)) × (List Qa) × (List Qa) × (List Qg))→((List Qg) × Int × (List Int) × Int × (List Qh) × Int)→Prop:=fun x r=>match x with
 | (q0,q1,q2,q3,q4,q5,q6,q7,q8,q9,q10,q11,q12,q13,q14,q15,q16,q17)=>PCX prog env 85 [(.ptr 7 0),(.dat (.agg [(Qj q0),(Qj q1),(Qj q2),(strD q3),(Lb q4),(.lst (Qc.toDs q5))])),(.dat (.agg [(Qj q6),(Lb q7),(Qj q8),(Lb q9),(Qj q10),(Qj q11),(Lb q12),(.lst (Qh.toDs q13))]))] [(.map (smE q14)),(.tok 39 q15.length),(.box [(.vec 1 ((List.map Qa.toD) q15)),(.mapv 0)]),(.tok 39 (([]:List Qa).length)),(.box [(.vec 1 ((List.map Qa.toD) q16)),(.mapv 0)]),Xn,(.tok 65 q17.length),(.box [(.ptr 4 0),(.vec 6 ((List.map Qg.toD) q17))])] (match r with|(v5001,v5002,v5003,v5004,v5005,v5006)=>(.tup [(.dat (.agg [(Qj v5002),(Lb v5003),(Qj 0),Eb,(Qj v5004),(Qj 0),Eb,(.lst (Qh.toDs v5005))])),(Qe v5006)])) (match r with|(v5001,v5002,v5003,v5004,v5005,v5006)=>[(.map (smE q14)),(.tok 39 q15.length),(.box [(.vec 1 ((List.map Qa.toD) q15)),(.mapv 0)]),(.tok 39 (([]:List Qa).length)),(.box [(.vec 1 ((List.map Qa.toD) q16)),(.mapv 0)]),Xn,(.tok 65 v5001.length),(.box [(.ptr 4 0),(.vec 6 ((List.map Qg.toD) v5001))])])
def Zu:(Int × Int × Int × ByteArray × (List Int) × (List Qc) × (List (ByteArray × Int)) × (List Qa) × (List Qa) × (List Qg))→((List Qg) × Int × (List Int) × Int × (List Int) × Int × Int × (List Int) × (List Qh) × Int)→Prop:=fun x r=>match x with
 | (q0,q1,q2,q3,q4,q5,q6,q7,q8,q9)=>PCX prog env 27 [(.ptr 7 0),(.dat (.agg [(Qj q0),(Qj q1),(Qj q2),(strD q3),(Lb q4),(.lst (Qc.toDs q5))]))] [(.map (smE q6)),(.tok 39 q7.length),(.box [(.vec 1 ((List.map Qa.toD) q7)),(.mapv 0)]),(.tok 39 (([]:List Qa).length)),(.box [(.vec 1 ((List.map Qa.toD) q8)),(.mapv 0)]),Xn,(.tok 65 q9.length),(.box [(.ptr 4 0),(.vec 6 ((List.map Qg.toD) q9))])] (match r with|(v5001,v5002,v5003,v5004,v5005,v5006,v5007,v5008,v5009,v5010)=>(.tup [(.dat (.agg [(Qj v5002),(Lb v5003),(Qj v5004),(Lb v5005),(Qj v5006),(Qj v5007),(Lb v5008),(.lst (Qh.toDs v5009))])),(Qe v5010)])) (match r with|(v5001,v5002,v5003,v5004,v5005,v5006,v5007,v5008,v5009,v5010)=>[(.map (smE q6)),(.tok 39 q7.length),(.box [(.vec 1 ((List.map Qa.toD) q7)),(.mapv 0)]),(.tok 39 (([]:List Qa).length)),(.box [(.vec 1 ((List.map Qa.toD) q8)),(.mapv 0)]),Xn,(.tok 65 v5001.length),(.box [(.ptr 4 0),(.vec 6 ((List.map Qg.toD) v5001))])])
theorem g_elab_maker_catenate_f318e:(∀ x r,Zb x=some r→ZK x r)∧(∀ x r,QL x=some r→Zu x r):=by
 refine Zb.mutual_partial_correctness ZK Zu ?_ ?_
 ·intro QL Ym x r hm
  unfold ZK
  obtain ⟨q0,q1,q2,q3,q4,q5,q6,q7,q8,q9,q10,q11,q12,q13,q14,q15,q16,q17⟩:=x
  refine PCX_sxB (fn:=f85) rfl ?_
  refine Qd (R_G (Qb 4 (Qf (Qd (R_G (Qb 3 ?_))))))
  obtain ⟨v1,hx,hm⟩:=Qi hm
  refine Qbg 6 Qc.toD q5 0 v1 (es:=Qc.toDs q5) (d:=(Qc.ex v1)) (Qc.toDs_eq _) hx (Qc.toD_eq v1) rfl ?_
  refine Qb 1 ?_
  obtain ⟨⟨v2,v3,v4,v5,v6,v7,v8,v9,v10,v11⟩,hx,hm⟩:=Qi hm
  have hq:=Ym _ _ hx
  dsimp only [Zu] at hq
  refine Qa5 (n:=8) hq ?_ (hi:=und_hi 0) (hq:=und_hq 0)
  refine Qb 6 (Qf (Qd (Qd (R_G (Qb 2 (Qf ?_))))))
  refine Qx hm (ne_dec _ _) (fun hm=>?_) (fun hm=>?_)
  ·refine Qd (R_G (Qb 4 (Qf (Qo ?_))))
   obtain rfl:=Qs hm
   exact ⟨trivial,fin_bodyX 8 (by kernel_rfl) (by kernel_rfl)⟩
  refine Qp (Qd (R_G (Qb 6 ?_)))
  obtain ⟨⟨v12,v13⟩,hx,hm⟩:=Qi hm
  have hq:=QeB _ _ hx []
  refine Qq hq ?_
  refine Qb 6 (Qf (Qd ?_))
  refine Qbt ?_
  refine Qb 7 ?_
  obtain ⟨v14,hx,hm⟩:=Qi hm
  have hq:=Qdf _ _ hx []
  refine Qq hq ?_
  refine Qb 3 ?_
  obtain ⟨v15,hx,hm⟩:=Qi hm
  have hq:=Qdf _ _ hx []
  refine Qq hq ?_
  refine Qb 5 ?_
  refine Qf ⟨by kernel_rfl,?_⟩
  refine Qo ?_
  obtain rfl:=Qs hm
  exact ⟨trivial,fin_bodyX 8 (by kernel_rfl) (by kernel_rfl)⟩
 ·intro Zb QL JL Ym x r hm
  unfold Zu
  obtain ⟨q0,q1,q2,q3,q4,q5,q6,q7,q8,q9⟩:=x
  refine PCX_sxB (fn:=f27) rfl ?_
  refine Qd (R_G (Qb 3 (Qf (Qd (Qd (R_G (Qb 2 ?_)))))))
  refine QV Qc.toD q5 (es:=Qc.toDs q5) (Qc.toDs_eq _) ?_
  refine Qb 1 (Qf ?_)
  refine Qx hm (ZW _ _) (fun hm=>?_) (fun hm=>?_)
  ·refine Qd (R_G (Qb 2 ?_))
   obtain ⟨⟨v1,v2,v3,v4,v5⟩,hx,hm⟩:=Qi hm
   have hq:=Qcs _ _ hx
   dsimp only [XV] at hq
   refine Qa5 (n:=8) hq ?_ (hi:=und_hi 0) (hq:=und_hq 0)
   refine Qb 4 (Qf (Qo ?_))
   obtain rfl:=Qs hm
   exact ⟨trivial,fin_bodyX 8 (by kernel_rfl) (by kernel_rfl)⟩
  refine Qp (Qd (R_G (Qb 5 ?_)))
  refine QV Qc.toD q5 (es:=Qc.toDs q5) (Qc.toDs_eq _) ?_
  refine Qb 1 ?_
  obtain ⟨v6,hx,hm⟩:=Qi hm
  refine Qbg 6 Qc.toD q5 (W ((q5.length:Int) - 1)) v6 (es:=Qc.toDs q5) (d:=(Qc.ex v6)) (Qc.toDs_eq _) hx (Qc.toD_eq v6) rfl ?_
  refine Qb 1 ?_
  obtain ⟨⟨v7,v8,v9,v10,v11,v12,v13,v14,v15,v16⟩,hx,hm⟩:=Qi hm
  have hq:=Ym _ _ hx
  dsimp only [Zu] at hq
  refine Qa5 (n:=8) hq ?_ (hi:=und_hi 0) (hq:=und_hq 0)
  refine Qb 6 (Qf (Qd (Qd (R_G (Qb 2 (Qf ?_))))))
  refine Qx hm (ne_dec _ _) (fun hm=>?_) (fun hm=>?_)
  ·refine Qd (R_G (Qb 4 (Qf (Qo ?_))))
   obtain rfl:=Qs hm
   exact ⟨trivial,fin_bodyX 8 (by kernel_rfl) (by kernel_rfl)⟩
  refine Qp (Qd (Qd (R_G (Qb 3 (Qf ?_)))))
  refine Qx hm (ZW _ _) (fun hm=>?_) (fun hm=>?_)
  ·refine Qd (R_G (Qb 2 ?_))
   obtain ⟨⟨v17,v18⟩,hx,hm⟩:=Qi hm
   have hq:=Qe8 _ _ hx []
   refine Qq hq ?_
   refine Qb 4 (Qf (Qo ?_))
   obtain rfl:=Qs hm
   exact ⟨trivial,fin_bodyX 8 (by kernel_rfl) (by kernel_rfl)⟩
  refine Qp (Qd ?_)
  refine Qbt ?_
  obtain ⟨_,hx,hm⟩:=Qi hm
  have hq:=QdY _ _ hx
  dsimp only [Qaz] at hq
  refine ZB (v:=.mapv 10) (fun H=>H++[(.map [(.bool true,(.dat (.raw (.func (.func 85) #[] #[])))),(.bool false,(.dat (.raw (.func (.func 86) #[] #[]))))])]) rfl (by kernel_rfl) ?_ ?_
  ·intro K hK
   refine QfQ 10 (f:=53) (first:=#[]) (cap:=#[]) (j:=(0,3)) (ow':=[]) rfl ?_ ?_ ?_ hq ?_ ?_ ?_
   ·kernel_rfl
   ·kernel_rfl
   ·kernel_rfl
   ·kernel_rfl
   ·exact hK
   ·kernel_rfl
  refine Qb 3 ?_
  refine Qz 45 hm (ZW _ _) (fun hm=>?_) (fun hm=>?_)
  ·refine Qb 1 (Qb 3 ?_)
   obtain ⟨⟨v19,v20,v21,v22,v23,v24⟩,hx,hm⟩:=Qi hm
   have hq:=JL _ _ hx
   dsimp only [ZK] at hq
   refine Qa5 (n:=8) hq ?_ (hi:=und_hi 0) (hq:=und_hq 0)
   refine Qb 4 ?_
   refine Qf ⟨by kernel_rfl,?_⟩
   refine Qo ?_
   obtain rfl:=Qs hm
   exact ⟨trivial,fin_bodyX 8 (by kernel_rfl) (by kernel_rfl)⟩
  refine Qb 1 (Qb 3 ?_)
  obtain ⟨⟨v25,v26,v27,v28,v29,v30,v31,v32,v33⟩,hx,hm⟩:=Qi hm
  have hq:=QbC _ _ hx
  dsimp only [Y4] at hq
  refine Qa5 (n:=8) hq ?_ (hi:=und_hi 0) (hq:=und_hq 0)
  refine Qb 4 ?_
  refine Qf ⟨by kernel_rfl,?_⟩
  refine Qo ?_
  obtain rfl:=Qs hm
  exact ⟨trivial,fin_bodyX 8 (by kernel_rfl) (by kernel_rfl)⟩
theorem JL:∀ x r,Zb x=some r→ZK x r:=g_elab_maker_catenate_f318e.1
theorem Ym:∀ x r,QL x=some r→Zu x r:=g_elab_maker_catenate_f318e.2
def JE (x:(Int × Int × Int × ByteArray × (List Int) × (List Qc) × (List (ByteArray × Int)) × (List Qa) × (List Qa))):Option ((Int × (List Int) × Int × (List Int) × Int × Int × (List Int) × (List Qh) × (List Qg) × (List Qg) × Int × (List Int) × Int × (List Int) × Int × Int × (List Int) × (List Qh) × Int × (List Int) × Int × (List Int) × Int × Int × (List Int) × (List Qh) × (List Qg) × Int)) :=
 match x with
 | (q0,q1,q2,q3,q4,q5,q6,q7,q8) =>
 QL (q0,q1,q2,q3,q4,q5,q6,q7,q8,([]:List Qg))>>=fun ((v1,v2,v3,v4,v5,v6,v7,v8,v9,v10):((List Qg) × Int × (List Int) × Int × (List Int) × Int × Int × (List Int) × (List Qh) × Int)) =>
 if v10≠0 then
  some (0,([]:List Int),0,([]:List Int),0,0,([]:List Int),([]:List Qh),([]:List Qg),v1,v2,v3,v4,v5,v6,v7,v8,v9,0,([]:List Int),0,([]:List Int),0,0,([]:List Int),([]:List Qh),([]:List Qg),v10)
 else
 some (v2,v3,v4,v5,v6,v7,v8,v9,v1,v1,v2,v3,v4,v5,v6,v7,v8,v9,v2,v3,v4,v5,v6,v7,v8,v9,v1,0)
def QaI:(Int × Int × Int × ByteArray × (List Int) × (List Qc) × (List (ByteArray × Int)) × (List Qa) × (List Qa))→(Int × (List Int) × Int × (List Int) × Int × Int × (List Int) × (List Qh) × (List Qg) × (List Qg) × Int × (List Int) × Int × (List Int) × Int × Int × (List Int) × (List Qh) × Int × (List Int) × Int × (List Int) × Int × Int × (List Int) × (List Qh) × (List Qg) × Int)→Prop:=fun x r=>match x with
 | (q0,q1,q2,q3,q4,q5,q6,q7,q8)=>PC prog env 12 [(.ptr 4 0),(.dat (.agg [(Qj q0),(Qj q1),(Qj q2),(strD q3),(Lb q4),(.lst (Qc.toDs q5))]))] [(.map (smE q6)),(.tok 39 q7.length),(.box [(.vec 1 ((List.map Qa.toD) q7)),(.mapv 0)]),(.tok 39 (([]:List Qa).length)),(.box [(.vec 1 ((List.map Qa.toD) q8)),(.mapv 0)])] (match r with|(v5001,v5002,v5003,v5004,v5005,v5006,v5007,v5008,v5009,v5010,v5011,v5012,v5013,v5014,v5015,v5016,v5017,v5018,v5019,v5020,v5021,v5022,v5023,v5024,v5025,v5026,v5027,v5028)=>(.tup [(.dat (.agg [(Qj v5019),(Lb v5020),(Qj v5021),(Lb v5022),(Qj v5023),(Qj v5024),(Lb v5025),(.lst (Qh.toDs v5026)),(.lst ((List.map Qg.toD) v5027))])),(Qe v5028)])) (match r with|(v5001,v5002,v5003,v5004,v5005,v5006,v5007,v5008,v5009,v5010,v5011,v5012,v5013,v5014,v5015,v5016,v5017,v5018,v5019,v5020,v5021,v5022,v5023,v5024,v5025,v5026,v5027,v5028)=>[(.map (smE q6)),(.tok 39 q7.length),(.box [(.vec 1 ((List.map Qa.toD) q7)),(.mapv 0)]),(.tok 39 (([]:List Qa).length)),(.box [(.vec 1 ((List.map Qa.toD) q8)),(.mapv 0)]),(.box [(Qe v5001),(La v5002),(Qe v5003),(La v5004),(Qe v5005),(Qe v5006),(La v5007),(.dat (.lst (Qh.toDs v5008))),(.dat (.lst ((List.map Qg.toD) v5009)))]),(.tok 65 v5010.length),(.box [(.ptr 4 0),(.vec 6 ((List.map Qg.toD) v5010))]),(.box [(Qe v5011),(La v5012),(Qe v5013),(La v5014),(Qe v5015),(Qe v5016),(La v5017),(.dat (.lst (Qh.toDs v5018)))])])
theorem Qeb:∀ x r,JE x=some r→QaI x r:=by
 intro x r hm
 unfold JE at hm
 unfold QaI
 obtain ⟨q0,q1,q2,q3,q4,q5,q6,q7,q8⟩:=x
 refine PC_sxB (fn:=f12) rfl ?_
 refine Qd (R_G (Qb 3 (Qf (Qd (R_G (Qb 4 (Qf (Qd (R_G (Qb 2 ?_))))))))))
 obtain ⟨⟨v1,v2,v3,v4,v5,v6,v7,v8,v9,v10⟩,hx,hm⟩:=Qi hm
 have hq:=Ym _ _ hx
 dsimp only [Zu] at hq
 refine Qa5 (n:=8) hq ?_ (hi:=und_hi 0) (hq:=und_hq 0)
 refine Qb 6 (Qf (Qd (Qd (R_G (Qb 2 (Qf ?_))))))
 refine Qx hm (ne_dec _ _) (fun hm=>?_) (fun hm=>?_)
 ·refine Qd (R_G (Qb 4 (Qf (Qo ?_))))
  obtain rfl:=Qs hm
  exact ⟨trivial,QK (by kernel_rfl) (by kernel_rfl)⟩
 refine Qp (Qd ?_)
 refine Qbt ?_
 refine Qb 8 ?_
 refine Qf ⟨by kernel_rfl,?_⟩
 refine Qo ?_
 obtain rfl:=Qs hm
 exact ⟨trivial,QK (by kernel_rfl) (by kernel_rfl)⟩
end Go.Proofs.Tryz
