/-
 Models of functions, their walks, and plain laws.
-/
import Derived.Test.YtjcfpjpdopfefaaGreatKDnfCountsA
namespace Go.Proofs.Tryz
open Go Go.Pm
set_option linter.unusedVariables false
set_option maxHeartbeats 2000000
set_option maxRecDepth 2000
def Zr (x:((List Qc) × Int × Int × Int × Int)):Option ((Int × Int × Int)) :=
 match x with
 | (p0,v201,v202,v203,v204) =>
 if v204 < (p0.length:Int) then
  idx p0 v204>>=fun v604 =>
  if (W (v604.access.kind - 1))=0 then
   Zr (p0,(W (v201+1)),v202,v203,(W (v204+1)))
  else
  if (W (v604.access.kind - 1))=1 then
   Zr (p0,v201,(W (v202+1)),v203,(W (v204+1)))
  else
  if (W (v604.access.kind - 1))=2 then
   Zr (p0,v201,v202,(W (v203+1)),(W (v204+1)))
  else
  none
 else
 some (v201,v202,v203)
 partial_fixpoint
theorem YZ:∀ x r,Zr x=some r→match x with|(p0,v201,v202,v203,v204)=>LQ f21 21 [1,1,0,1,0,0] 2 ⟨kp 22 [(2,(.ptr 0 0)),(3,(.ptr 1 0)),(6,(JB p0)),(7,(Qd (p0.length:Int))),(8,(Qd v204))],[(.box [(Qd 0),(Qd 0),(Qd 0)]),(.box [(Qd v201),(Qd v202),(Qd v203)])]⟩ (P1 (.exit 0) (fun (v601,v602,v603) d=>⟨sl d 22 [(2,(.ptr 0 0)),(3,(.ptr 1 0))],[(.box [(Qd 0),(Qd 0),(Qd 0)]),(.box [(Qd v601),(Qd v602),(Qd v603)])]⟩) r):=by
 refine Zr.partial_correctness _ (fun Zr YZ x r hm=>?_);obtain ⟨p0,v201,v202,v203,v204⟩:=x
 exact lp (ge 1 (Qj (ri hm (fun hm=>Qp (Qj (Qo (Qj (R_G (QA 9 Qc.toD hm fun v604 hm=>re 3 (R_G (Qf 4 (kc (n:=(W (v604.access.kind - 1))) (K:=0) hm (fun hc605 hm=>Zi (v:=.ptr 1 0) rfl (fun _=>Jz (n:=(W (v604.access.kind - 1))) (K:=0) (len:=3) (e:=3) (size:=1) (i:=1) (off:=0) hc605 kr kr kr kr rfl kr kr) (Qf 2 (Zi (v:=.ptr 1 0) rfl (fun _=>Jz (n:=(W (v604.access.kind - 1))) (K:=0) (len:=3) (e:=3) (size:=1) (i:=1) (off:=0) hc605 kr kr kr kr rfl kr kr) (re 1 (R_G (re 2 (YZ _ _ hm _ kr))))))) (fun hm=>kc (n:=(W (v604.access.kind - 1))) (K:=1) hm (fun hc605 hm=>Zi (v:=.ptr 1 1) rfl (fun _=>Jz (n:=(W (v604.access.kind - 1))) (K:=1) (len:=3) (e:=3) (size:=1) (i:=1) (off:=0) hc605 kr kr kr kr rfl kr kr) (Qf 2 (Zi (v:=.ptr 1 1) rfl (fun _=>Jz (n:=(W (v604.access.kind - 1))) (K:=1) (len:=3) (e:=3) (size:=1) (i:=1) (off:=0) hc605 kr kr kr kr rfl kr kr) (re 1 (R_G (re 2 (YZ _ _ hm _ kr))))))) (fun hm=>kc (n:=(W (v604.access.kind - 1))) (K:=2) hm (fun hc605 hm=>Zi (v:=.ptr 1 2) rfl (fun _=>Jz (n:=(W (v604.access.kind - 1))) (K:=2) (len:=3) (e:=3) (size:=1) (i:=1) (off:=0) hc605 kr kr kr kr rfl kr kr) (Qf 2 (Zi (v:=.ptr 1 2) rfl (fun _=>Jz (n:=(W (v604.access.kind - 1))) (K:=2) (len:=3) (e:=3) (size:=1) (i:=1) (off:=0) hc605 kr kr kr kr rfl kr kr) (re 1 (R_G (re 2 (YZ _ _ hm _ kr))))))) (fun hm=>(Qbo hm).elim)))))))))))) (fun hm=>QC zf))))
def Jb (x:(List Qc)):Option S50 :=
 match x with
 | p0 =>
 Zr (p0,0,0,0,0)>>=fun (v601,v602,v603) =>
 some (⟨v601,v602,v603⟩:S50)
theorem QaM {p0 r0} (hm:Jb p0=some r0):FQ 21 [(.lst ((List.map Qc.toD) p0))] (.dat (S50.toD r0)):=by
 unfold Jb at hm;exact fp (fn:=f21) rfl (ge 1 (ge 1 (Qj (gr 1 (QR Qc.toD p0 (re 1 (Qo (ru1 hm (YZ _) fun ⟨v601,v602,v603⟩ d hm=>ge 2 (Qs zf)))))))))
def Z8 (x:(List Int)):Option Qi :=
 match x with
 | p0 =>
 makeM 8 (p0.length:Int) 0>>=fun v1 =>
 some (⟨v1,p0⟩:Qi)
theorem JW {p0 r0} (hm:Z8 p0=some r0):FQ 80 [(Lb p0)] (.dat (Qi.toD r0)):=by
 unfold Z8 at hm;exact fp (fn:=f80) rfl (ge 1 (gr 1 (QR Qh p0 (bi hm fun v1 hx hm=>YM (v:=.arr 1 0 v1.length v1.length) (fun H=>H++[.box (cellsOf Qh v1)]) rfl kr (by intro K hk; exact Qa6 1 Qh (z:=0) (n:=(p0.length:Int)) (bytes:=8) hx (e:=3) kr kr kr kr rfl rfl kr kr hk) (re 3 (Qs (by obtain rfl:=Qbj hm; exact ⟨trivial,JT [(.agg [(.arr 1 0 v1.length v1.length),(La p0)])] kr (po_agg (pc_cons (pc_arr Qh v1 rfl y8 kr) (pc_cons kr pc_nil)))⟩)))))))
def QE (x:((List Int) × Nat × (List Int) × Int × Int × Int)):Option (Int) :=
 match x with
 | (q0,v202,v203,v204,v806,v807) =>
 (if v807 < (q0.length:Int) then
  some (decide (v806 > 0))
 else
 some false
 )>>=fun (v1207:Bool) =>
 if v1207=true then
  idx q0 v807>>=fun v1208 =>
  QE (q0,v202,v203,v204,(W (v806 * v1208)),(W (v807+1)))
 else
 some v806
 partial_fixpoint
theorem Ys:∀ x r,QE x=some r→match x with|(q0,v202,v203,v204,v806,v807)=>LQ f126 126 [1,1,1,0,1,0,0,1,0,0,1,1,0,1,0,0] 2 ⟨kp 42 [(0,(La q0)),(3,(.ms 1 v202 0 v203.length v203.length)),(4,(Qd v204)),(5,(Qd v806)),(6,(Qd v807))],(XA v202 v203)⟩ (P1 (.exit 2) (fun v1206 d=>⟨sl d 42 [(0,(La q0)),(3,(.ms 1 v202 0 v203.length v203.length)),(4,(Qd v204)),(5,(Qd v1206))],(XA v202 v203)⟩) r):=by
 refine QE.partial_correctness _ (fun QE Ys x r hm=>?_);obtain ⟨q0,v202,v203,v204,v806,v807⟩:=x;exact lp (Qj (Qj (bi hm fun v1207 hs hm=>Zq (fun d=>⟨sl d 42 [(0,(La q0)),(3,(.ms 1 v202 0 v203.length v203.length)),(4,(Qd v204)),(5,(Qd v806)),(6,(Qd v807)),(28,(Qq v1207))],(XA v202 v203)⟩) (have hm:=hs;R_G (Qf 2 (QR Qh q0 (Qf 2 (gs 25 hm (fun hm=>re 3 zf) (fun hm=>re 3 zf)))))) (fun d=>rib hm (fun hm=>Qp (Qj (Qo (R_G (Qf 3 (QA 1 Qh hm fun v1208 hm=>re 3 (R_G (re 3 (Ys _ _ hm _ (prune_of2 (XA v202 v203) (fun _=>(pg_cons kr (pg_cons (purge_mt Qh _ _ _ _ _) pg_nil))) rfl)))))))))) (fun hm=>QC zf)))))
def Qz (x:((List Int) × Nat × (List Int) × Int)):Option ((Nat × (List Int))) :=
 match x with
 | (q0,v202,v203,v204) =>
 if v204 < (q0.length:Int) then
  Zs q0>>=fun v604 =>
  (if v604=0 then
   some 0
  else
  some 1
  )>>=fun (v605:Int) =>
  QE (q0,v202,v203,v204,v605,(W (v204+1)))>>=fun v1206 =>
  app 8 v203 ([v1206]:List Int)>>=fun v1209 =>
  Qz (q0,(gb v202 ([v1206]:List Int).isEmpty),v1209,(W (v204+1)))
 else
 some (v202,v203)
 partial_fixpoint
theorem Yr:∀ x r,Qz x=some r→match x with|(q0,v202,v203,v204)=>LQ f126 126 [1,1,1,0,1,0,0] 2 ⟨kp 42 [(0,(La q0)),(3,(.ms 1 v202 0 v203.length v203.length)),(4,(Qd v204))],(XA v202 v203)⟩ (P1 (.exit 0) (fun (v602,v603) d=>⟨sl d 42 [(3,(.ms 1 v602 0 v603.length v603.length))],(XA v602 v603)⟩) r):=by
 refine Qz.partial_correctness _ (fun Qz Yr x r hm=>?_);obtain ⟨q0,v202,v203,v204⟩:=x
 exact lp (Qj (gr 2 (QR Qh q0 (re 1 (ri hm (fun hm=>Qp (Qj (Qo (ge 1 (Qj (gr 1 (bi hm fun v604 hx hm=>cp (Xk hx) (re 1 (bi hm fun v605 hs hm=>Zq (fun d=>⟨sl d 42 [(0,(La q0)),(3,(.ms 1 v202 0 v203.length v203.length)),(4,(Qd v204)),(5,(Qd v605))],(XA v202 v203)⟩) (have hm:=hs;riq hm (fun hm=>R_G (re 1 zf)) (fun hm=>Qp zf)) (fun d=>Qj (ge 3 (Qo (ru1 hm (Ys _) (fun v1206 d hm=>R_G (Qf 3 (bi hm fun v1209 hx hm=>YM (v:=.ms 1 (gb v202 ([v1206]:List Int).isEmpty) 0 v1209.length v1209.length) (fun H=>H.set 1 (J2 v202 v1206 v1209)) rfl kr (fun _ hk=>Qaz Qh (l:=v203) (es:=([v1206]:List Int)) (bytes:=8) (e:=3) (tt:=1) (g:=v202) (m:=v203.length) hx y8 kr kr kr kr rfl rfl kr rfl kr kr hk) (re 1 (R_G (re 3 (Yr _ _ hm _ (prune_of2 [XB,(J2 v202 v1206 v1209)] (fun _=>(pg_cons kr (pg_cons (purge_mt Qh _ _ _ _ _) pg_nil))) rfl)))))))) (hst:=(prune_of2 (XA v202 v203) (fun _=>(pg_cons kr (pg_cons (purge_mt Qh _ _ _ _ _) pg_nil))) rfl))))))))))))))) (fun hm=>QC zf))))))
def Zj (x:(List Int)):Option ((Nat × (List Int))) :=
 match x with
 | q0 =>
 ZU q0>>=fun v1 =>
 if v1≠0 then
  some (0,([]:List Int))
 else
 Qz (q0,0,([]:List Int),0)>>=fun (v602,v603) =>
 some (v602,v603)
theorem JK {q0 v5001 v5002} (hm:Zj q0=some (v5001,v5002)):PC prog env 126 [(La q0)] [XB] (.ms 1 v5001 0 v5002.length v5002.length) (XA v5001 v5002):=by
 unfold Zj at hm;exact PC_sxB (fn:=f126) rfl (ge 1 (Qj (gr 1 (bi hm fun v1 hx hm=>cp (Xl hx) (re 1 (rix hm (fun hm=>ge 1 (Qs zf)) (fun hm=>Qp (ge 1 (Qj (ge 1 (Qo (ru1 hm (Yr _) (fun ⟨v602,v603⟩ d hm=>ge 2 (Qs zf)) (hst:=(prune_of2 [XB,JA] (fun _=>(pg_cons kr (pg_cons (purge_mt Qh _ _ _ _ _) pg_nil))) rfl))))))))))))))
def YW (x:(Int × (List Int))):Option Qm :=
 match x with
 | (p0,p1) =>
 Zj p1>>=fun (v1,v2) =>
 some (⟨2,p0,0,v2,0,0,0⟩:Qm)
theorem Qak {p0 p1 r0} (hm:YW (p0,p1)=some r0):FQ 81 [(Qh p0),(Lb p1)] (.dat (Qm.toD r0)):=by
 unfold YW at hm;exact fp (fn:=f81) rfl (ge 1 (gr 2 (bi2 hm fun v1 v2 hx hm=>QaA (JK hx) (re 2 (Qs (by obtain rfl:=Qbj hm; exact ⟨trivial,JT [(.agg [(Qd 2),(Qd p0),(Qd 0),(.ms 1 v1 0 v2.length v2.length),(Qd 0),(Qd 0),(Qd 0)])] kr (po_agg (pc_cons kr (pc_cons kr (pc_cons kr (pc_cons (pc_ms (e:=3) Qh v2 rfl y8 kr) (pc_cons kr (pc_cons kr (pc_cons kr pc_nil))))))))⟩))))))
def ZL (x:(Qi × Int)):Option (Unit ⊕ Unit) :=
 match x with
 | (p0,v201) =>
 if v201 < (p0.lo.length:Int) then
  idx p0.lo v201>>=fun v601 =>
  idx p0.hi v201>>=fun v602 =>
  if v601≥v602 then
   some (Sum.inl ())
  else
  ZL (p0,(W (v201+1)))
 else
 some (Sum.inr ())
 partial_fixpoint
theorem XX:∀ x r,ZL x=some r→match x with|(p0,v201)=>LQ f44 44 [1,0,1,0,0] 1 ⟨kp 22 [(1,(.ptr 0 0)),(3,(Qd v201))],[(ZF p0.lo p0.hi)]⟩ (P2 .ret (fun _ d=>⟨sl d 22 [(2,(Qq true))],[(ZF p0.lo p0.hi)]⟩) (.exit 0) (fun _ d=>⟨sl d 22 [],[(ZF p0.lo p0.hi)]⟩) r):=by
 refine ZL.partial_correctness _ (fun ZL XX x r hm=>?_);obtain ⟨p0,v201⟩:=x;exact lp (Qj (gr 3 (QR Qh p0.lo (re 1 (ri hm (fun hm=>Qp (Qj (Qo (Qj (Ya (Qf 3 (QA 1 Qh hm fun v601 hm=>Qf 4 (QA 1 Qh hm fun v602 hm=>re 2 ⟨kr,ri hm (fun hm=>ge 1 (Qs zf)) (fun hm=>Qp (R_G (re 3 (XX _ _ hm _ kr))))⟩)))))))) (fun hm=>QC zf))))))
def YK (x:Qi):Option Bool :=
 match x with
 | p0 =>
 (
 ZL (p0,0)>>=fun out =>
 match out with
 | .inl _ =>
  some true
 | .inr (_) =>
  some false
 )
theorem Qaw {p0 r0} (hm:YK p0=some r0):FQ 44 [(Qi.toD p0)] (Qq r0):=by
 unfold YK at hm;exact fp (fn:=f44) rfl (ge 2 (Qj (ge 1 (Qo (ru2 hm (XX _) (fun _ d hm=>zf) fun _ d hm=>ge 1 (Qs zf))))))
def ZQ (x:((List Int) × (List Int) × Int)):Option (Bool ⊕ Unit) :=
 match x with
 | (p0,p1,v201) =>
 (if v201 < (p0.length:Int) then
  some (decide (v201 < (p1.length:Int)))
 else
 some false
 )>>=fun (v602:Bool) =>
 if v602=true then
  idx p0 v201>>=fun v603 =>
  idx p1 v201>>=fun v604 =>
  if v603≠v604 then
   idx p0 v201>>=fun v605 =>
   idx p1 v201>>=fun v606 =>
   some (Sum.inl (decide (v605 < v606)))
  else
  ZQ (p0,p1,(W (v201+1)))
 else
 some (Sum.inr ())
 partial_fixpoint
theorem Je:∀ x r,ZQ x=some r→match x with|(p0,p1,v201)=>LQ f46 46 [1,0,1,0,0] 0 ⟨kp 41 [(0,(La p0)),(1,(La p1)),(5,(Qd v201))],[]⟩ (P2 .ret (fun v601 d=>⟨sl d 41 [(4,(Qq v601))],[]⟩) (.exit 0) (fun _ d=>⟨sl d 41 [(0,(La p0)),(1,(La p1))],[]⟩) r):=by
 refine ZQ.partial_correctness _ (fun ZQ Je x r hm=>?_);obtain ⟨p0,p1,v201⟩:=x;exact lp (Qj (Qj (bi hm fun v602 hs hm=>Zq (fun d=>⟨sl d 41 [(0,(La p0)),(1,(La p1)),(5,(Qd v201)),(15,(Qq v602))],[]⟩) (have hm:=hs;R_G (Qf 2 (QR Qh p0 (Qf 2 (gs 10 hm (fun hm=>Qf 2 (QR Qh p1 (re 2 zf))) (fun hm=>re 5 zf)))))) (fun d=>rib hm (fun hm=>Qp (Qj (Qo (Qj (Ya (Qf 2 (QA 1 Qh hm fun v603 hm=>Qf 3 (QA 1 Qh hm fun v604 hm=>re 2 ⟨kr,rix hm (fun hm=>Qj (Ya (Qf 2 (QA 1 Qh hm fun v605 hm=>Qf 3 (QA 1 Qh hm fun v606 hm=>re 3 ⟨kr,Qs zf⟩))))) (fun hm=>Qp (R_G (re 3 (Je _ _ hm _ kr))))⟩)))))))) (fun hm=>QC zf)))))
def XD (x:((List Int) × (List Int))):Option Bool :=
 match x with
 | (p0,p1) =>
 (
 ZQ (p0,p1,0)>>=fun out =>
 match out with
 | .inl v601 =>
  some v601
 | .inr (_) =>
  some (decide ((p0.length:Int) < (p1.length:Int)))
 )
theorem QaD {p0 p1 r0} (hm:XD (p0,p1)=some r0):FQ 46 [(Lb p0),(Lb p1)] (Qq r0):=by
 unfold XD at hm;exact fp (fn:=f46) rfl (ge 1 (Qj (ge 1 (Qo (ru2 hm (Je _) (fun v601 d hm=>zf) fun _ d hm=>gr 1 (QR Qh p0 (Qf 1 (QR Qh p1 (re 2 (Qs zf))))))))))
def Z2 (x:((List Qb) × Qb × Int)):Option (Int) :=
 match x with
 | (p0,p1,v202) =>
 (if v202 < (p0.length:Int) then
  idx p0 v202>>=fun v604 =>
  XD (v604.box.lo,p1.box.lo)>>=fun v605 =>
  some v605
 else
 some false
 )>>=fun (v603:Bool) =>
 if v603=true then
  Z2 (p0,p1,(W (v202+1)))
 else
 some v202
 partial_fixpoint
theorem Jo:∀ x r,Z2 x=some r→match x with|(p0,p1,v202)=>LQ f79 79 [1,1,1,0,0,0] 1 ⟨kp 40 [(0,(Qu p0)),(3,(.ptr 0 0)),(5,(Qd v202))],[(Qag p1.box.lo p1.box.hi p1.access.kind p1.access.buffer p1.access.base p1.access.strides p1.access.start p1.access.step p1.access.mod)]⟩ (P1 (.exit 0) (fun v602 d=>⟨sl d 40 [(0,(Qu p0)),(3,(.ptr 0 0)),(5,(Qd v602))],[(Qag p1.box.lo p1.box.hi p1.access.kind p1.access.buffer p1.access.base p1.access.strides p1.access.start p1.access.step p1.access.mod)]⟩) r):=by
 refine Z2.partial_correctness _ (fun Z2 Jo x r hm=>?_);obtain ⟨p0,p1,v202⟩:=x;exact lp (Qj (Qj (bi hm fun v603 hs hm=>Zq (fun d=>⟨sl d 40 [(0,(Qu p0)),(3,(.ptr 0 0)),(5,(Qd v202)),(25,(Qq v603))],[(Qag p1.box.lo p1.box.hi p1.access.kind p1.access.buffer p1.access.base p1.access.strides p1.access.start p1.access.step p1.access.mod)]⟩) (have hm:=hs;Ya (Qf 2 (QR Qb.toD p0 (Qf 2 (gs 14 hm (fun hm=>Qf 2 (QA 9 Qb.toD hm fun v604 hm=>Qf 6 (bi hm fun v605 hx hm=>cp (QaD hx) (re 1 ⟨kr,zf⟩)))) (fun hm=>re 11 ⟨kr,zf⟩)))))) (fun d=>rib hm (fun hm=>Qp (Qo (R_G (re 3 (Jo _ _ hm _ kr))))) (fun hm=>QC zf)))))
def QJ (x:((List Qb) × Qb)):Option (List Qb) :=
 match x with
 | (p0,p1) =>
 YK p1.box>>=fun v1 =>
 if v1=true then
  some p0
 else
 Z2 (p0,p1,0)>>=fun v602 =>
 sub p0 0 v602>>=fun v606 =>
 app 120 ([]:List Qb) v606>>=fun v607 =>
 app 120 v607 ([(⟨(⟨p1.box.lo,p1.box.hi⟩:Qi),(⟨p1.access.kind,p1.access.buffer,p1.access.base,p1.access.strides,p1.access.start,p1.access.step,p1.access.mod⟩:Qm)⟩:Qb)]:List Qb)>>=fun v608 =>
 sub p0 v602 (p0.length:Int)>>=fun v609 =>
 app 120 v608 v609>>=fun v610 =>
 some v610
theorem Yi {p0 p1 r0} (hm:QJ (p0,p1)=some r0):FQ 79 [(.lst ((List.map Qb.toD) p0)),(Qb.toD p1)] (Qu r0):=by
 unfold QJ at hm
 exact fp (fn:=f79) rfl (ge 2 (Qj (gr 2 (bi hm fun v1 hx hm=>cp (Qaw hx) (Jh (rib hm (fun hm=>ge 2 (Qs zf)) (fun hm=>Qp (ge 1 (Qj (Qo (ru1 hm (Jo _) fun v602 d hm=>Qj (Ya (Qf 3 (bi hm fun v606 hx hm=>Qbb 9 Qb.toD p0 v606 0 v602 (es:=(List.map Qb.toD) p0) (L:=(List.map Qb.toD)) (a:=natI 0) (b:=natI v602) y8 rfl (fun _=>by first|rfl|exact num_of_fit (Qb.fit _)) hx rfl (Or.inl rfl) (bi hm fun v607 hx hm=>YP 83 9 120 1 Qb.toD ([]:List Qb) v606 v607 (xs:=(List.map Qb.toD) ([]:List Qb)) (es:=(List.map Qb.toD) v606) (L:=(List.map Qb.toD)) y8 rfl rfl Qb.fit hx (Qf 2 (bi hm fun v608 hx hm=>YP 83 9 120 1 Qb.toD v607 ([(⟨(⟨p1.box.lo,p1.box.hi⟩:Qi),(⟨p1.access.kind,p1.access.buffer,p1.access.base,p1.access.strides,p1.access.start,p1.access.step,p1.access.mod⟩:Qm)⟩:Qb)]:List Qb) v608 (xs:=(List.map Qb.toD) v607) (es:=(List.map Qb.toD) ([(⟨(⟨p1.box.lo,p1.box.hi⟩:Qi),(⟨p1.access.kind,p1.access.buffer,p1.access.base,p1.access.strides,p1.access.start,p1.access.step,p1.access.mod⟩:Qm)⟩:Qb)]:List Qb)) (L:=(List.map Qb.toD)) y8 rfl rfl Qb.fit hx (Qf 2 (bi hm fun v609 hx hm=>Qbb 9 Qb.toD p0 v609 v602 (p0.length:Int) (es:=(List.map Qb.toD) p0) (L:=(List.map Qb.toD)) (a:=natI v602) (b:=some ((List.map Qb.toD) p0).length) y8 rfl (fun _=>by first|rfl|exact num_of_fit (Qb.fit _)) hx rfl (Or.inr ⟨rfl,rfl⟩) (bi hm fun v610 hx hm=>YP 83 9 120 1 Qb.toD v608 v609 v610 (xs:=(List.map Qb.toD) v608) (es:=(List.map Qb.toD) v609) (L:=(List.map Qb.toD)) y8 rfl rfl Qb.fit hx (re 1 ⟨kr,Qs zf⟩)))))))))))))))))))))
def YJ (x:(Int × (List Int))):Option (List Qb) :=
 match x with
 | (p0,p1) =>
 Z8 p1>>=fun v1 =>
 YW (p0,p1)>>=fun v2 =>
 QJ (([]:(List Qb)),(⟨(⟨v1.lo,v1.hi⟩:Qi),(⟨v2.kind,v2.buffer,v2.base,v2.strides,v2.start,v2.step,v2.mod⟩:Qm)⟩:Qb))>>=fun v3 =>
 some v3
theorem Qav {p0 p1 r0} (hm:YJ (p0,p1)=some r0):FQ 33 [(Qh p0),(Lb p1)] (Qu r0):=by
 unfold YJ at hm;exact fp (fn:=f33) rfl (ge 1 (gr 1 (bi hm fun v1 hx hm=>cp (JW hx) (Qf 2 (bi hm fun v2 hx hm=>cp (Qak hx) (Qf 1 (bi hm fun v3 hx hm=>cp (Yi hx) (re 1 (Qs zf)))))))))
def Yy (x:(Qm × Int × (List Int))):Option Qm :=
 match x with
 | (p0,p1,p2) =>
 (if p0.kind=2 then
  some (W (p0.base+p1))
 else
 some p0.base
 )>>=fun (v1:Int) =>
 if p0.kind=3 then
  some (⟨p0.kind,p0.buffer,v1,p2,(W (p0.start+p1)),p0.step,p0.mod⟩:Qm)
 else
 some (⟨p0.kind,p0.buffer,v1,p2,p0.start,p0.step,p0.mod⟩:Qm)
theorem JR {p0 p1 p2 r0} (hm:Yy (p0,p1,p2)=some r0):FQ 127 [(Qm.toD p0),(Qh p1),(Lb p2)] (.dat (Qm.toD r0)):=by
 unfold Yy at hm;exact fp (fn:=f127) rfl (ge 2 (ge 3 (ge 3 (Qj (ge 3 (bi hm fun v1 hs hm=>Zq (fun d=>⟨sl d 28 [(1,(Qd p1)),(3,(.ptr 0 0)),(6,(.ptr 1 0)),(7,(.ptr 2 0))],[(XC p0.kind p0.buffer p0.base p0.strides p0.start p0.step p0.mod),XB,(XC p0.kind p0.buffer v1 p2 p0.start p0.step p0.mod)]⟩) (have hm:=hs;riq hm (fun hm=>R_G (re 6 zf)) (fun hm=>Qp zf)) (fun d=>Qj (ge 3 (riq hm (fun hm=>R_G (re 6 (ge 2 (Qs zf)))) (fun hm=>Qp (ge 2 (Qs zf))))))))))))
def Zu (x:(Qm × Int × Int)):Option Qm :=
 match x with
 | (p0,p1,p2) =>
 if p0.kind=1 then
  some p0
 else
 idx p0.strides p1>>=fun v1 =>
 Yy (p0,(W (p2 * v1)),p0.strides)>>=fun v2 =>
 some v2
theorem X6 {p0 p1 p2 r0} (hm:Zu (p0,p1,p2)=some r0):FQ 82 [(Qm.toD p0),(Qh p1),(Qh p2)] (.dat (Qm.toD r0)):=by
 unfold Zu at hm;exact fp (fn:=f82) rfl (ge 2 (Qj (ge 3 (riq hm (fun hm=>ge 2 (Qs zf)) (fun hm=>Qp (Qj (Ya (Qf 5 (QA 1 Qh hm fun v1 hm=>Qf 4 (bi hm fun v2 hx hm=>cp (JR hx) (re 1 ⟨kr,Qs zf⟩)))))))))))
def ZK (x:(Qi × Int)):Option (Unit ⊕ Unit) :=
 match x with
 | (p0,v201) =>
 if v201 < (p0.lo.length:Int) then
  idx p0.lo v201>>=fun v601 =>
  idx p0.hi v201>>=fun v602 =>
  if v601≥v602 then
   some (Sum.inl ())
  else
  ZK (p0,(W (v201+1)))
 else
 some (Sum.inr ())
 partial_fixpoint
theorem XW:∀ x r,ZK x=some r→match x with|(p0,v201)=>LQ f128 128 [1,0,1,0,0] 1 ⟨kp 22 [(1,(.ptr 0 0)),(3,(Qd v201))],[(ZF p0.lo p0.hi)]⟩ (P2 .ret (fun _ d=>⟨sl d 22 [(2,(Qq true))],[(ZF p0.lo p0.hi)]⟩) (.exit 0) (fun _ d=>⟨sl d 22 [],[(ZF p0.lo p0.hi)]⟩) r):=by
 refine ZK.partial_correctness _ (fun ZK XW x r hm=>?_);obtain ⟨p0,v201⟩:=x;exact lp (Qj (gr 3 (QR Qh p0.lo (re 1 (ri hm (fun hm=>Qp (Qj (Qo (Qj (Ya (Qf 3 (QA 1 Qh hm fun v601 hm=>Qf 4 (QA 1 Qh hm fun v602 hm=>re 2 ⟨kr,ri hm (fun hm=>ge 1 (Qs zf)) (fun hm=>Qp (R_G (re 3 (XW _ _ hm _ kr))))⟩)))))))) (fun hm=>QC zf))))))
def Z7 (x:Qi):Option Bool :=
 match x with
 | p0 =>
 (
 ZK (p0,0)>>=fun out =>
 match out with
 | .inl _ =>
  some true
 | .inr (_) =>
  some false
 )
theorem X5 {p0 r0} (hm:Z7 p0=some r0):FQ 128 [(Qi.toD p0)] (Qq r0):=by
 unfold Z7 at hm;exact fp (fn:=f128) rfl (ge 2 (Qj (ge 1 (Qo (ru2 hm (XW _) (fun _ d hm=>zf) fun _ d hm=>ge 1 (Qs zf))))))
def Q2 (x:(Qi × Qi × (List Int) × (List Int) × Int)):Option (((List Int) × (List Int))) :=
 match x with
 | (p0,p1,v201,v202,v203) =>
 if v203 < (p0.lo.length:Int) then
  idx p0.lo v203>>=fun v603 =>
  idx p1.lo v203>>=fun v604 =>
  app 8 v201 ([(if v603 < v604 then v604 else v603)]:List Int)>>=fun v605 =>
  idx p0.hi v203>>=fun v606 =>
  idx p1.hi v203>>=fun v607 =>
  app 8 v202 ([(if v607 < v606 then v607 else v606)]:List Int)>>=fun v608 =>
  Q2 (p0,p1,v605,v608,(W (v203+1)))
 else
 some (v201,v202)
 partial_fixpoint
theorem Y0:∀ x r,Q2 x=some r→match x with|(p0,p1,v201,v202,v203)=>LQ f129 129 [1,1,1,0,1,0,0] 6 ⟨kp 59 [(2,(.ptr 0 0)),(3,(.ptr 1 0)),(4,(.ptr 2 0)),(6,(.ptr 3 0)),(7,(Qd v203))],[(ZF p0.lo p0.hi),(ZF p1.lo p1.hi),(.box [Ea,Ea]),(.box [(.vec 4 ((List.map Qh) v201)),(QaL v202)]),(.tok 3 v201.length),(.tok 3 v202.length)]⟩ (P1 (.exit 0) (fun (v601,v602) d=>⟨sl d 59 [(4,(.ptr 2 0)),(6,(.ptr 3 0))],[(ZF p0.lo p0.hi),(ZF p1.lo p1.hi),(.box [Ea,Ea]),(.box [(.vec 4 ((List.map Qh) v601)),(QaL v602)]),(.tok 3 v601.length),(.tok 3 v602.length)]⟩) r):=by
 refine Q2.partial_correctness _ (fun Q2 Y0 x r hm=>?_);obtain ⟨p0,p1,v201,v202,v203⟩:=x
 exact lp (Qj (gr 3 (QR Qh p0.lo (re 1 (ri hm (fun hm=>Qp (Qj (Qo (Qj (Ya (Qf 5 (QA 1 Qh hm fun v603 hm=>Qf 4 (QA 1 Qh hm fun v604 hm=>Qf 1 (Zi rfl (fun _=>Qaf (k:=.i64) (m:=v603) (n:=v604) rfl kr kr) (Qf 1 (bi hm fun v605 hx hm=>YP 3 1 8 4 Qh v201 ([(if v603 < v604 then v604 else v603)]:List Int) v605 (xs:=(List.map Qh) v201) (es:=(List.map Qh) ([(if v603 < v604 then v604 else v603)]:List Int)) (L:=(List.map Qh)) y8 rfl rfl y8 hx (re 2 ⟨kr,Ya (Qf 5 (QA 1 Qh hm fun v606 hm=>Qf 4 (QA 1 Qh hm fun v607 hm=>Qf 1 (Zi rfl (fun _=>QaF (k:=.i64) (m:=v606) (n:=v607) rfl kr kr) (Qf 1 (bi hm fun v608 hx hm=>YP 3 1 8 5 Qh v202 ([(if v607 < v606 then v607 else v606)]:List Int) v608 (xs:=(List.map Qh) v202) (es:=(List.map Qh) ([(if v607 < v606 then v607 else v606)]:List Int)) (L:=(List.map Qh)) y8 rfl rfl y8 hx (re 2 ⟨kr,R_G (re 3 (Y0 _ _ hm _ kr))⟩)))))))⟩)))))))))))) (fun hm=>QC zf))))))
def Yd (x:(Qi × Qi)):Option (Qi × Bool) :=
 match x with
 | (p0,p1) =>
 if (p0.lo.length:Int)≠(p1.lo.length:Int) then
  some ((⟨([]:(List Int)),([]:(List Int))⟩:Qi),false)
 else
 Q2 (p0,p1,([]:List Int),([]:List Int),0)>>=fun (v601,v602) =>
 Z7 (⟨v601,v602⟩:Qi)>>=fun v609 =>
 if v609=true then
  some ((⟨([]:(List Int)),([]:(List Int))⟩:Qi),false)
 else
 some ((⟨v601,v602⟩:Qi),true)
theorem J3 {p0 p1 r0 r1} (hm:Yd (p0,p1)=some (r0,r1)):FQ 129 [(Qi.toD p0),(Qi.toD p1)] (.tup [(.dat (Qi.toD r0)),(Qq r1)]):=by
 unfold Yd at hm;exact fp (fn:=f129) rfl (ge 4 (Qj (gr 2 (QR Qh p0.lo (Qf 2 (QR Qh p1.lo (re 1 (rix hm (fun hm=>ge 3 (Qs zf)) (fun hm=>Qp (ge 1 (Qj (ge 1 (Qo (ru1 hm (Y0 _) fun ⟨v601,v602⟩ d hm=>Qj (gr 1 (bi hm fun v609 hx hm=>cp (X5 hx) (Jh (rib hm (fun hm=>ge 3 (Qs zf)) (fun hm=>Qp (ge 3 (Qs zf)))))))))))))))))))))
def ZI (x:(Qi × Int × Qi × (List Qi) × Qi × (List Int) × (List Int) × Int)):Option (((List Int) × (List Int))) :=
 match x with
 | (p0,v205,v2,v204,p1,v805,v806,v807) =>
 if v807 < (p0.lo.length:Int) then
  idx p0.lo v807>>=fun v1207 =>
  idx p0.hi v807>>=fun v1208 =>
  (if v807 < v205 then
   idx v2.lo v807>>=fun v1211 =>
   idx v2.hi v807>>=fun v1212 =>
   some (v1211,v1212)
  else
  some (v1207,v1208)
  )>>=fun ((v1209,v1210):(Int × Int)) =>
  (if v807=v205 then
   some true
  else
  some false
  )>>=fun (v1213:Bool) =>
  (if v1213=true then
   idx v2.lo v807>>=fun v1215 =>
   some v1215
  else
  some v1210
  )>>=fun (v1214:Int) =>
  (if v807=v205 then
   some ()
  else
  some ()
  )>>=fun (_:Unit) =>
  app 8 v805 ([v1209]:List Int)>>=fun v1216 =>
  app 8 v806 ([v1214]:List Int)>>=fun v1217 =>
  ZI (p0,v205,v2,v204,p1,v1216,v1217,(W (v807+1)))
 else
 some (v805,v806)
 partial_fixpoint
theorem XU:∀ x r,ZI x=some r→match x with|(p0,v205,v2,v204,p1,v805,v806,v807)=>LQ f83 83 [1,1,1,1,1,0,1,0,0,1,0,0,1,0,0,1,0,0,1,0,1,0,0] 7 ⟨kp 111 [(2,(.ptr 0 0)),(5,(.ptr 2 0)),(7,(ZM v204)),(8,(Qd v205)),(9,(Qd 0)),(10,(.ptr 4 0)),(11,(Qd v807))],(Yc p0.lo p0.hi p1.lo p1.hi v2.lo v2.hi v204.length v805 v806 v805.length v806.length)⟩ (P1 (.exit 4) (fun (v1205,v1206) d=>⟨sl d 111 [(2,(.ptr 0 0)),(5,(.ptr 2 0)),(7,(ZM v204)),(8,(Qd v205)),(9,(Qd 0)),(10,(.ptr 4 0))],(Yc p0.lo p0.hi p1.lo p1.hi v2.lo v2.hi v204.length v1205 v1206 v1205.length v1206.length)⟩) r):=by
 refine ZI.partial_correctness _ (fun ZI XU x r hm=>?_);obtain ⟨p0,v205,v2,v204,p1,v805,v806,v807⟩:=x
 exact lp (Qj (gr 3 (QR Qh p0.lo (re 1 (ri hm (fun hm=>Qp (Qj (Qo (Qj (Ya (Qf 3 (QA 1 Qh hm fun v1207 hm=>Qf 4 (QA 1 Qh hm fun v1208 hm=>re 3 ⟨kr,Qj (ge 3 (bi2 hm fun v1209 v1210 hs hm=>Zq (fun d=>⟨sl d 111 [(2,(.ptr 0 0)),(5,(.ptr 2 0)),(7,(ZM v204)),(8,(Qd v205)),(9,(Qd 0)),(10,(.ptr 4 0)),(11,(Qd v807)),(12,(Qd v1209)),(13,(Qd v1210))],(Yc p0.lo p0.hi p1.lo p1.hi v2.lo v2.hi v204.length v805 v806 v805.length v806.length)⟩) (have hm:=hs;ri hm (fun hm=>Ya (Qf 3 (QA 1 Qh hm fun v1211 hm=>Qf 4 (QA 1 Qh hm fun v1212 hm=>re 3 ⟨kr,zf⟩)))) (fun hm=>Qp zf)) (fun d=>Qj (Qj (bi hm fun v1213 hs hm=>Zq (fun d=>⟨sl d 111 [(2,(.ptr 0 0)),(5,(.ptr 2 0)),(7,(ZM v204)),(8,(Qd v205)),(9,(Qd 0)),(10,(.ptr 4 0)),(11,(Qd v807)),(12,(Qd v1209)),(13,(Qd v1210)),(73,(Qq v1213))],(Yc p0.lo p0.hi p1.lo p1.hi v2.lo v2.hi v204.length v805 v806 v805.length v806.length)⟩) (have hm:=hs;R_G (Qf 4 (gsq 70 hm (fun hm=>re 3 zf) (fun hm=>re 3 zf)))) (fun d=>bi hm fun v1214 hs hm=>Zq (fun d=>⟨sl d 111 [(2,(.ptr 0 0)),(5,(.ptr 2 0)),(7,(ZM v204)),(8,(Qd v205)),(9,(Qd 0)),(10,(.ptr 4 0)),(11,(Qd v807)),(12,(Qd v1209)),(13,(Qd v1214))],(Yc p0.lo p0.hi p1.lo p1.hi v2.lo v2.hi v204.length v805 v806 v805.length v806.length)⟩) (have hm:=hs;rib hm (fun hm=>R_G (Qf 3 (QA 1 Qh hm fun v1215 hm=>re 2 zf))) (fun hm=>Qp zf)) (fun d=>Qj (Qj (bi hm fun _ hs hm=>Zq (fun d=>⟨sl d 111 [(2,(.ptr 0 0)),(5,(.ptr 2 0)),(7,(ZM v204)),(8,(Qd v205)),(9,(Qd 0)),(10,(.ptr 4 0)),(11,(Qd v807)),(12,(Qd v1209)),(13,(Qd v1214)),(85,(Qq false))],(Yc p0.lo p0.hi p1.lo p1.hi v2.lo v2.hi v204.length v805 v806 v805.length v806.length)⟩) (have hm:=hs;R_G (Qf 4 (gsq 82 hm (fun hm=>re 3 zf) (fun hm=>re 3 zf)))) (fun d=>Qad kr (Qp (gr 4 (bi hm fun v1216 hx hm=>YP 3 1 8 5 Qh v805 ([v1209]:List Int) v1216 (xs:=(List.map Qh) v805) (es:=(List.map Qh) ([v1209]:List Int)) (L:=(List.map Qh)) y8 rfl rfl y8 hx (re 2 (R_G (Qf 4 (bi hm fun v1217 hx hm=>YP 3 1 8 6 Qh v806 ([v1214]:List Int) v1217 (xs:=(List.map Qh) v806) (es:=(List.map Qh) ([v1214]:List Int)) (L:=(List.map Qh)) y8 rfl rfl y8 hx (re 2 (R_G (re 3 (XU _ _ hm _ kr)))))))))))))))))))))⟩)))))))) (fun hm=>QC zf))))))
def ZJ (x:(Qi × Int × Qi × (List Qi) × Qi × (List Int) × (List Int) × Int)):Option (((List Int) × (List Int))) :=
 match x with
 | (p0,v205,v2,v1219,p1,v1421,v1422,v1423) =>
 if v1423 < (p0.lo.length:Int) then
  idx p0.lo v1423>>=fun v1823 =>
  idx p0.hi v1423>>=fun v1824 =>
  (if v1423 < v205 then
   idx v2.lo v1423>>=fun v1827 =>
   idx v2.hi v1423>>=fun v1828 =>
   some (v1827,v1828)
  else
  some (v1823,v1824)
  )>>=fun ((v1825,v1826):(Int × Int)) =>
  (if v1423=v205 then
   some ()
  else
  some ()
  )>>=fun (_:Unit) =>
  (if v1423=v205 then
   some true
  else
  some false
  )>>=fun (v1829:Bool) =>
  (if v1829=true then
   idx v2.hi v1423>>=fun v1831 =>
   some v1831
  else
  some v1825
  )>>=fun (v1830:Int) =>
  app 8 v1421 ([v1830]:List Int)>>=fun v1832 =>
  app 8 v1422 ([v1826]:List Int)>>=fun v1833 =>
  ZJ (p0,v205,v2,v1219,p1,v1832,v1833,(W (v1423+1)))
 else
 some (v1421,v1422)
 partial_fixpoint
theorem XV:∀ x r,ZJ x=some r→match x with|(p0,v205,v2,v1219,p1,v1421,v1422,v1423)=>LQ f83 83 [1,1,1,1,1,0,1,0,0,1,0,0,1,0,0,1,0,0,1,0,1,0,0] 7 ⟨kp 111 [(2,(.ptr 0 0)),(5,(.ptr 2 0)),(7,(ZM v1219)),(8,(Qd v205)),(9,(Qd 1)),(10,(.ptr 4 0)),(11,(Qd v1423))],(Yc p0.lo p0.hi p1.lo p1.hi v2.lo v2.hi v1219.length v1421 v1422 v1421.length v1422.length)⟩ (P1 (.exit 4) (fun (v1821,v1822) d=>⟨sl d 111 [(2,(.ptr 0 0)),(5,(.ptr 2 0)),(7,(ZM v1219)),(8,(Qd v205)),(9,(Qd 1)),(10,(.ptr 4 0))],(Yc p0.lo p0.hi p1.lo p1.hi v2.lo v2.hi v1219.length v1821 v1822 v1821.length v1822.length)⟩) r):=by
 refine ZJ.partial_correctness _ (fun ZJ XV x r hm=>?_);obtain ⟨p0,v205,v2,v1219,p1,v1421,v1422,v1423⟩:=x
 exact lp (Qj (gr 3 (QR Qh p0.lo (re 1 (ri hm (fun hm=>Qp (Qj (Qo (Qj (Ya (Qf 3 (QA 1 Qh hm fun v1823 hm=>Qf 4 (QA 1 Qh hm fun v1824 hm=>re 3 ⟨kr,Qj (ge 3 (bi2 hm fun v1825 v1826 hs hm=>Zq (fun d=>⟨sl d 111 [(2,(.ptr 0 0)),(5,(.ptr 2 0)),(7,(ZM v1219)),(8,(Qd v205)),(9,(Qd 1)),(10,(.ptr 4 0)),(11,(Qd v1423)),(12,(Qd v1825)),(13,(Qd v1826))],(Yc p0.lo p0.hi p1.lo p1.hi v2.lo v2.hi v1219.length v1421 v1422 v1421.length v1422.length)⟩) (have hm:=hs;ri hm (fun hm=>Ya (Qf 3 (QA 1 Qh hm fun v1827 hm=>Qf 4 (QA 1 Qh hm fun v1828 hm=>re 3 ⟨kr,zf⟩)))) (fun hm=>Qp zf)) (fun d=>Qj (Qj (bi hm fun _ hs hm=>Zq (fun d=>⟨sl d 111 [(2,(.ptr 0 0)),(5,(.ptr 2 0)),(7,(ZM v1219)),(8,(Qd v205)),(9,(Qd 1)),(10,(.ptr 4 0)),(11,(Qd v1423)),(12,(Qd v1825)),(13,(Qd v1826)),(73,(Qq false))],(Yc p0.lo p0.hi p1.lo p1.hi v2.lo v2.hi v1219.length v1421 v1422 v1421.length v1422.length)⟩) (have hm:=hs;R_G (Qf 4 (gsq 70 hm (fun hm=>re 3 zf) (fun hm=>re 3 zf)))) (fun d=>Qad kr (Qp (Qj (Qj (bi hm fun v1829 hs hm=>Zq (fun d=>⟨sl d 111 [(2,(.ptr 0 0)),(5,(.ptr 2 0)),(7,(ZM v1219)),(8,(Qd v205)),(9,(Qd 1)),(10,(.ptr 4 0)),(11,(Qd v1423)),(12,(Qd v1825)),(13,(Qd v1826)),(85,(Qq v1829))],(Yc p0.lo p0.hi p1.lo p1.hi v2.lo v2.hi v1219.length v1421 v1422 v1421.length v1422.length)⟩) (have hm:=hs;R_G (Qf 4 (gsq 82 hm (fun hm=>re 3 zf) (fun hm=>re 3 zf)))) (fun d=>bi hm fun v1830 hs hm=>Zq (fun d=>⟨sl d 111 [(2,(.ptr 0 0)),(5,(.ptr 2 0)),(7,(ZM v1219)),(8,(Qd v205)),(9,(Qd 1)),(10,(.ptr 4 0)),(11,(Qd v1423)),(12,(Qd v1830)),(13,(Qd v1826))],(Yc p0.lo p0.hi p1.lo p1.hi v2.lo v2.hi v1219.length v1421 v1422 v1421.length v1422.length)⟩) (have hm:=hs;rib hm (fun hm=>R_G (Qf 3 (QA 1 Qh hm fun v1831 hm=>re 2 zf))) (fun hm=>Qp zf)) (fun d=>gr 4 (bi hm fun v1832 hx hm=>YP 3 1 8 5 Qh v1421 ([v1830]:List Int) v1832 (xs:=(List.map Qh) v1421) (es:=(List.map Qh) ([v1830]:List Int)) (L:=(List.map Qh)) y8 rfl rfl y8 hx (re 2 (R_G (Qf 4 (bi hm fun v1833 hx hm=>YP 3 1 8 6 Qh v1422 ([v1826]:List Int) v1833 (xs:=(List.map Qh) v1422) (es:=(List.map Qh) ([v1826]:List Int)) (L:=(List.map Qh)) y8 rfl rfl y8 hx (re 2 (R_G (re 3 (XV _ _ hm _ kr)))))))))))))))))))))⟩)))))))) (fun hm=>QC zf))))))
def ZH (x:(Qi × Qi × Qi × (List Qi) × Int)):Option ((List Qi)) :=
 match x with
 | (p0,v2,p1,v204,v205) =>
 if v205 < (p0.lo.length:Int) then
  ZI (p0,v205,v2,v204,p1,([]:List Int),([]:List Int),0)>>=fun (v1205,v1206) =>
  Z7 (⟨v1205,v1206⟩:Qi)>>=fun v1218 =>
  (if v1218=false then
   app 48 v204 ([(⟨v1205,v1206⟩:Qi)]:List Qi)>>=fun v1220 =>
   some v1220
  else
  some v204
  )>>=fun (v1219:(List Qi)) =>
  ZJ (p0,v205,v2,v1219,p1,([]:List Int),([]:List Int),0)>>=fun (v1821,v1822) =>
  Z7 (⟨v1821,v1822⟩:Qi)>>=fun v1834 =>
  (if v1834=false then
   app 48 v1219 ([(⟨v1821,v1822⟩:Qi)]:List Qi)>>=fun v1836 =>
   some v1836
  else
  some v1219
  )>>=fun (v1835:(List Qi)) =>
  ZH (p0,v2,p1,v1835,(W (v205+1)))
 else
 some v204
 partial_fixpoint
theorem XT:∀ x r,ZH x=some r→match x with|(p0,v2,p1,v204,v205)=>LQ f83 83 [1,1,1,1,1,0,1,0,0] 4 ⟨kp 111 [(2,(.ptr 0 0)),(5,(.ptr 2 0)),(7,(ZM v204)),(8,(Qd v205))],(JN p0.lo p0.hi p1.lo p1.hi v2.lo v2.hi v204.length)⟩ (P1 (.exit 0) (fun v604 d=>⟨sl d 111 [(7,(ZM v604))],(JN p0.lo p0.hi p1.lo p1.hi v2.lo v2.hi v604.length)⟩) r):=by
 refine ZH.partial_correctness _ (fun ZH XT x r hm=>?_);obtain ⟨p0,v2,p1,v204,v205⟩:=x
 exact lp (Qj (gr 3 (QR Qh p0.lo (re 1 (ri hm (fun hm=>Qp (Qj (Qo (ge 1 (Qo (Qbe (RL_at (st':=⟨kp 111 [(2,(.ptr 0 0)),(5,(.ptr 2 0)),(7,(ZM v204)),(8,(Qd v205)),(9,(Qd 0))],(JN p0.lo p0.hi p1.lo p1.hi v2.lo v2.hi v204.length)⟩) kr (Qj (ge 2 (QaS kr (Qp (Qj (Qo (ge 1 (Qj (ge 1 (Qo (ru1 hm (XU _) fun ⟨v1205,v1206⟩ d hm=>gr 1 (bi hm fun v1218 hx hm=>cp (X5 hx) (re 1 (bi hm fun v1219 hs hm=>Zq (fun d=>⟨sl d 111 [(2,(.ptr 0 0)),(5,(.ptr 2 0)),(7,(ZM v1219)),(8,(Qd v205)),(9,(Qd 0))],(Yc p0.lo p0.hi p1.lo p1.hi v2.lo v2.hi v1219.length v1205 v1206 v1205.length v1206.length)⟩) (have hm:=hs;rin hm (fun hm=>R_G (Qf 3 (bi hm fun v1220 hx hm=>YP 80 2 48 3 Qi.toD v204 ([(⟨v1205,v1206⟩:Qi)]:List Qi) v1220 (xs:=(List.map Qi.toD) v204) (es:=(List.map Qi.toD) ([(⟨v1205,v1206⟩:Qi)]:List Qi)) (L:=(List.map Qi.toD)) y8 rfl rfl Qi.fit hx (re 1 zf)))) (fun hm=>Qp zf)) (fun d=>R_G (re 3 (RL_at (st':=⟨kp 111 [(2,(.ptr 0 0)),(5,(.ptr 2 0)),(7,(ZM v1219)),(8,(Qd v205)),(9,(Qd 1))],(JN p0.lo p0.hi p1.lo p1.hi v2.lo v2.hi v1219.length)⟩) kr (Qj (ge 2 (QaS kr (Qp (Qj (Qo (ge 1 (Qj (ge 1 (Qo (ru1 hm (XV _) fun ⟨v1821,v1822⟩ d hm=>gr 1 (bi hm fun v1834 hx hm=>cp (X5 hx) (re 1 (bi hm fun v1835 hs hm=>Zq (fun d=>⟨sl d 111 [(2,(.ptr 0 0)),(5,(.ptr 2 0)),(7,(ZM v1835)),(8,(Qd v205)),(9,(Qd 1))],(Yc p0.lo p0.hi p1.lo p1.hi v2.lo v2.hi v1835.length v1821 v1822 v1821.length v1822.length)⟩) (have hm:=hs;rin hm (fun hm=>R_G (Qf 3 (bi hm fun v1836 hx hm=>YP 80 2 48 3 Qi.toD v1219 ([(⟨v1821,v1822⟩:Qi)]:List Qi) v1836 (xs:=(List.map Qi.toD) v1219) (es:=(List.map Qi.toD) ([(⟨v1821,v1822⟩:Qi)]:List Qi)) (L:=(List.map Qi.toD)) y8 rfl rfl Qi.fit hx (re 1 zf)))) (fun hm=>Qp zf)) (fun d=>R_G (re 3 (RL_at (st':=⟨kp 111 [(2,(.ptr 0 0)),(5,(.ptr 2 0)),(7,(ZM v1835)),(8,(Qd v205)),(9,(Qd 2))],(JN p0.lo p0.hi p1.lo p1.hi v2.lo v2.hi v1835.length)⟩) kr (Qj (ge 2 (Qad kr (QC (R_G (re 3 (XT _ _ hm _ kr)))))))))))))))))))))))))))))))))))))))))))))))) (fun hm=>QC zf))))))
def Xh (x:(Qi × Qi)):Option (List Qi) :=
 match x with
 | (p0,p1) =>
 Z7 p0>>=fun v1 =>
 if v1=true then
  some ([]:(List Qi))
 else
 Yd (p0,p1)>>=fun (v2,v3) =>
 if v3=false then
  some ([p0]:List Qi)
 else
 ZH (p0,v2,p1,([]:List Qi),0)>>=fun v604 =>
 some v604
theorem Qas {p0 p1 r0} (hm:Xh (p0,p1)=some r0):FQ 83 [(Qi.toD p0),(Qi.toD p1)] (.dat (.lst ((List.map Qi.toD) r0))):=by
 unfold Xh at hm;exact fp (fn:=f83) rfl (ge 3 (Qj (gr 1 (bi hm fun v1 hx hm=>cp (X5 hx) (Jh (rib hm (fun hm=>ge 1 (Qs zf)) (fun hm=>Qp (gr 2 (bi2 hm fun v2 v3 hx hm=>cp (J3 hx) (re 6 (Qj (ge 2 (rin hm (fun hm=>ge 3 (Qs zf)) (fun hm=>Qp (ge 1 (Qj (ge 1 (Qo (ru1 hm (XT _) fun v604 d hm=>ge 2 (Qs zf))))))))))))))))))))
def Zo (x:((List Int) × (List Qb) × Int × (List Int) × (List Int) × (List Qb) × Int × Int × Int × (List Int) × Int × Int × Int × (List Int) × (List Int) × Int)):Option ((Int × Int × Int × (List Int) × Int × Int × Int × (List Int) × (List Int))) :=
 match x with
 | (p2,p0,v202,p3,p1,v201,v803,v804,v805,v806,v807,v808,v809,v810,v811,v812) =>
 if v812 < (p2.length:Int) then
  idx p0 v202>>=fun v1212 =>
  idx v1212.box.lo v812>>=fun v1213 =>
  idx p3 v812>>=fun v1214 =>
  app 8 v810 ([(if (W (v1213 - v1214)) < 0 then 0 else (W (v1213 - v1214)))]:List Int)>>=fun v1215 =>
  idx p0 v202>>=fun v1216 =>
  idx v1216.box.hi v812>>=fun v1217 =>
  idx p3 v812>>=fun v1218 =>
  idx p2 v812>>=fun v1219 =>
  app 8 v811 ([(if v1219 < (W (v1217 - v1218)) then v1219 else (W (v1217 - v1218)))]:List Int)>>=fun v1220 =>
  idx p3 v812>>=fun v1221 =>
  Zu ((⟨v803,v804,v805,v806,v807,v808,v809⟩:Qm),v812,v1221)>>=fun v1222 =>
  Zo (p2,p0,v202,p3,p1,v201,v1222.kind,v1222.buffer,v1222.base,v1222.strides,v1222.start,v1222.step,v1222.mod,v1215,v1220,(W (v812+1)))
 else
 some (v803,v804,v805,v806,v807,v808,v809,v810,v811)
 partial_fixpoint
theorem XJ:∀ x r,Zo x=some r→match x with|(p2,p0,v202,p3,p1,v201,v803,v804,v805,v806,v807,v808,v809,v810,v811,v812)=>LQ f34 34 [1,1,0,1,0,0,1,0,0,1,1,0,1,0,0] 6 ⟨kp 148 [(0,(Qu p0)),(1,(La p1)),(2,(La p2)),(3,(La p3)),(9,(Qu v201)),(10,(Qd v202)),(11,(.ptr 0 0)),(12,(.ptr 3 0)),(13,(Qd v812))],[(XC v803 v804 v805 v806 v807 v808 v809),(.tok 3 v810.length),(.tok 3 v811.length),(.box [(QaJ v810),(JD v811)]),(.tok 3 (([]:List Int).length)),(.tok 3 (([]:List Int).length))]⟩ (P1 (.exit 2) (fun (v1203,v1204,v1205,v1206,v1207,v1208,v1209,v1210,v1211) d=>⟨sl d 148 [(0,(Qu p0)),(1,(La p1)),(2,(La p2)),(3,(La p3)),(9,(Qu v201)),(10,(Qd v202)),(11,(.ptr 0 0)),(12,(.ptr 3 0))],[(XC v1203 v1204 v1205 v1206 v1207 v1208 v1209),(.tok 3 v1210.length),(.tok 3 v1211.length),(.box [(QaJ v1210),(JD v1211)]),(.tok 3 (([]:List Int).length)),(.tok 3 (([]:List Int).length))]⟩) r):=by
 refine Zo.partial_correctness _ (fun Zo XJ x r hm=>?_);obtain ⟨p2,p0,v202,p3,p1,v201,v803,v804,v805,v806,v807,v808,v809,v810,v811,v812⟩:=x
 exact lp (Qj (gr 2 (QR Qh p2 (re 1 (ri hm (fun hm=>Qp (Qj (Qo (Qj (Ya (Qf 4 (QA 9 Qb.toD hm fun v1212 hm=>Qf 4 (QA 1 Qh hm fun v1213 hm=>Qf 3 (QA 1 Qh hm fun v1214 hm=>Qf 2 (Zi rfl (fun _=>Qaf (k:=.i64) (m:=(W (v1213 - v1214))) (n:=0) rfl kr kr) (Qf 1 (bi hm fun v1215 hx hm=>YP 3 1 8 1 Qh v810 ([(if (W (v1213 - v1214)) < 0 then 0 else (W (v1213 - v1214)))]:List Int) v1215 (xs:=(List.map Qh) v810) (es:=(List.map Qh) ([(if (W (v1213 - v1214)) < 0 then 0 else (W (v1213 - v1214)))]:List Int)) (L:=(List.map Qh)) y8 rfl rfl y8 hx (re 2 ⟨kr,Qj (Ya (Qf 4 (QA 9 Qb.toD hm fun v1216 hm=>Qf 4 (QA 1 Qh hm fun v1217 hm=>Qf 3 (QA 1 Qh hm fun v1218 hm=>Qf 4 (QA 1 Qh hm fun v1219 hm=>Qf 1 (Zi rfl (fun _=>QaF (k:=.i64) (m:=(W (v1217 - v1218))) (n:=v1219) rfl kr kr) (Qf 1 (bi hm fun v1220 hx hm=>YP 3 1 8 2 Qh v811 ([(if v1219 < (W (v1217 - v1218)) then v1219 else (W (v1217 - v1218)))]:List Int) v1220 (xs:=(List.map Qh) v811) (es:=(List.map Qh) ([(if v1219 < (W (v1217 - v1218)) then v1219 else (W (v1217 - v1218)))]:List Int)) (L:=(List.map Qh)) y8 rfl rfl y8 hx (re 2 ⟨kr,Ya (Qf 4 (QA 1 Qh hm fun v1221 hm=>Qf 1 (bi hm fun v1222 hx hm=>cp (X6 hx) (re 1 ⟨kr,R_G (re 3 (XJ _ _ hm _ kr))⟩))))⟩))))))))))⟩))))))))))))) (fun hm=>QC zf))))))
def Zn (x:((List Qb) × (List Int) × (List Int) × (List Int) × (List Qb) × Int)):Option ((List Qb)) :=
 match x with
 | (p0,p2,p3,p1,v201,v202) =>
 if v202 < (p0.length:Int) then
  idx p0 v202>>=fun v602 =>
  Zo (p2,p0,v202,p3,p1,v201,v602.access.kind,v602.access.buffer,v602.access.base,v602.access.strides,v602.access.start,v602.access.step,v602.access.mod,([]:List Int),([]:List Int),0)>>=fun (v1203,v1204,v1205,v1206,v1207,v1208,v1209,v1210,v1211) =>
  QJ (v201,(⟨(⟨v1210,v1211⟩:Qi),(⟨v1203,v1204,v1205,v1206,v1207,v1208,v1209⟩:Qm)⟩:Qb))>>=fun v1223 =>
  Zn (p0,p2,p3,p1,v1223,(W (v202+1)))
 else
 some v201
 partial_fixpoint
theorem XI:∀ x r,Zn x=some r→match x with|(p0,p2,p3,p1,v201,v202)=>LQ f34 34 [1,1,0,1,0,0] 0 ⟨kp 148 [(0,(Qu p0)),(1,(La p1)),(2,(La p2)),(3,(La p3)),(9,(Qu v201)),(10,(Qd v202))],[]⟩ (P1 (.exit 0) (fun v601 d=>⟨sl d 148 [(1,(La p1)),(2,(La p2)),(3,(La p3)),(9,(Qu v601))],[]⟩) r):=by
 refine Zn.partial_correctness _ (fun Zn XI x r hm=>?_);obtain ⟨p0,p2,p3,p1,v201,v202⟩:=x;exact lp (Qj (gr 2 (QR Qb.toD p0 (re 1 (ri hm (fun hm=>Qp (Qj (Qo (gr 2 (QA 9 Qb.toD hm fun v602 hm=>re 4 (ge 3 (Qj (ge 1 (Qo (ru1 hm (XJ _) fun ⟨v1203,v1204,v1205,v1206,v1207,v1208,v1209,v1210,v1211⟩ d hm=>R_G (Qf 4 (bi hm fun v1223 hx hm=>cp (Yi hx) (re 1 (R_G (re 3 (XI _ _ hm _ kr)))))))))))))))) (fun hm=>QC zf))))))
def ZA (x:((List Int) × (List Int) × (List Int) × (List Qb) × (List Int) × (List Int) × Int)):Option (((List Int) × (List Int))) :=
 match x with
 | (p2,p3,p1,v601,v1424,v1425,v1426) =>
 if v1426 < (p2.length:Int) then
  idx p3 v1426>>=fun v1826 =>
  app 8 v1424 ([(if (W (0 - v1826)) < 0 then 0 else (W (0 - v1826)))]:List Int)>>=fun v1827 =>
  idx p1 v1426>>=fun v1828 =>
  idx p3 v1426>>=fun v1829 =>
  idx p2 v1426>>=fun v1830 =>
  app 8 v1425 ([(if v1830 < (W (v1828 - v1829)) then v1830 else (W (v1828 - v1829)))]:List Int)>>=fun v1831 =>
  ZA (p2,p3,p1,v601,v1827,v1831,(W (v1426+1)))
 else
 some (v1424,v1425)
 partial_fixpoint
theorem XK:∀ x r,ZA x=some r→match x with|(p2,p3,p1,v601,v1424,v1425,v1426)=>LQ f34 34 [1,1,1,1,0,1,0,0] 5 ⟨kp 148 [(1,(La p1)),(2,(La p2)),(3,(La p3)),(9,(Qu v601)),(14,(.ptr 2 0)),(15,(Qd v1426))],(Ja v1424.length v1425.length v1424 v1425)⟩ (P1 (.exit 4) (fun (v1824,v1825) d=>⟨sl d 148 [(2,(La p2)),(9,(Qu v601)),(14,(.ptr 2 0))],(Ja v1824.length v1825.length v1824 v1825)⟩) r):=by
 refine ZA.partial_correctness _ (fun ZA XK x r hm=>?_);obtain ⟨p2,p3,p1,v601,v1424,v1425,v1426⟩:=x
 exact lp (Qj (gr 2 (QR Qh p2 (re 1 (ri hm (fun hm=>Qp (Qj (Qo (Qj (Ya (Qf 4 (QA 1 Qh hm fun v1826 hm=>Qf 2 (Zi rfl (fun _=>Qaf (k:=.i64) (m:=(W (0 - v1826))) (n:=0) rfl kr kr) (Qf 1 (bi hm fun v1827 hx hm=>YP 3 1 8 0 Qh v1424 ([(if (W (0 - v1826)) < 0 then 0 else (W (0 - v1826)))]:List Int) v1827 (xs:=(List.map Qh) v1424) (es:=(List.map Qh) ([(if (W (0 - v1826)) < 0 then 0 else (W (0 - v1826)))]:List Int)) (L:=(List.map Qh)) y8 rfl rfl y8 hx (re 2 ⟨kr,Ya (Qf 4 (QA 1 Qh hm fun v1828 hm=>Qf 3 (QA 1 Qh hm fun v1829 hm=>Qf 4 (QA 1 Qh hm fun v1830 hm=>Qf 1 (Zi rfl (fun _=>QaF (k:=.i64) (m:=(W (v1828 - v1829))) (n:=v1830) rfl kr kr) (Qf 1 (bi hm fun v1831 hx hm=>YP 3 1 8 1 Qh v1425 ([(if v1830 < (W (v1828 - v1829)) then v1830 else (W (v1828 - v1829)))]:List Int) v1831 (xs:=(List.map Qh) v1425) (es:=(List.map Qh) ([(if v1830 < (W (v1828 - v1829)) then v1830 else (W (v1828 - v1829)))]:List Int)) (L:=(List.map Qh)) y8 rfl rfl y8 hx (re 2 ⟨kr,R_G (re 3 (XK _ _ hm _ kr))⟩))))))))⟩))))))))))) (fun hm=>QC zf))))))
def ZB (x:((List Qi) × (List Int) × (List Int) × (List Qb) × Int)):Option ((List Qb)) :=
 match x with
 | (v1833,v1824,v1825,v2034,v2035) =>
 if v2035 < (v1833.length:Int) then
  idx v1833 v2035>>=fun v2435 =>
  QJ (v2034,(⟨v2435,(⟨1,0,0,([]:(List Int)),0,0,0⟩:Qm)⟩:Qb))>>=fun v2436 =>
  ZB (v1833,v1824,v1825,v2436,(W (v2035+1)))
 else
 some v2034
 partial_fixpoint
theorem XL:∀ x r,ZB x=some r→match x with|(v1833,v1824,v1825,v2034,v2035)=>LQ f34 34 [1,1,1,1,1,1,0,1,0,0] 5 ⟨kp 148 [(9,(Qu v2034)),(16,(.dat (.lst ((List.map Qi.toD) v1833)))),(17,(Qd v2035))],(Ja v1824.length v1825.length v1824 v1825)⟩ (P1 (.exit 6) (fun v2434 d=>⟨sl d 148 [(9,(Qu v2434))],(Ja v1824.length v1825.length v1824 v1825)⟩) r):=by
 refine ZB.partial_correctness _ (fun ZB XL x r hm=>?_);obtain ⟨v1833,v1824,v1825,v2034,v2035⟩:=x;exact lp (Qj (gr 2 (QR Qi.toD v1833 (re 1 (ri hm (fun hm=>Qp (Qj (Qo (R_G (Qf 3 (QA 2 Qi.toD hm fun v2435 hm=>Qf 3 (bi hm fun v2436 hx hm=>cp (Yi hx) (re 1 (R_G (re 3 (XL _ _ hm _ kr))))))))))) (fun hm=>QC zf))))))
def YY (x:((List Qb) × (List Int) × (List Int) × (List Int))):Option (List Qb) :=
 match x with
 | (p0,p1,p2,p3) =>
 Zn (p0,p2,p3,p1,([]:List Qb),0)>>=fun v601 =>
 ZA (p2,p3,p1,v601,([]:List Int),([]:List Int),0)>>=fun (v1824,v1825) =>
 Z8 p2>>=fun v1832 =>
 Xh ((⟨v1832.lo,v1832.hi⟩:Qi),(⟨v1824,v1825⟩:Qi))>>=fun v1833 =>
 ZB (v1833,v1824,v1825,v601,0)>>=fun v2434 =>
 some v2434
theorem Qan {p0 p1 p2 p3 r0} (hm:YY (p0,p1,p2,p3)=some r0):FQ 34 [(.lst ((List.map Qb.toD) p0)),(Lb p1),(Lb p2),(Lb p3)] (Qu r0):=by
 unfold YY at hm;exact fp (fn:=f34) rfl (ge 1 (ge 1 (Qj (ge 1 (Qo (ru1 hm (XI _) fun v601 d hm=>ge 3 (Qj (ge 1 (Qo (ru1 hm (XK _) fun ⟨v1824,v1825⟩ d hm=>Qj (Ya (Qf 1 (bi hm fun v1832 hx hm=>cp (JW hx) (Qf 1 (bi hm fun v1833 hx hm=>cp (Qas hx) (re 1 ⟨kr,Qj (ge 1 (Qo (ru1 hm (XL _) fun v2434 d hm=>ge 2 (Qs zf))))⟩))))))))))))))))
def Zb (x:(Qi × Int × Int × Int)):Option Qi :=
 match x with
 | (p0,p1,p2,p3) =>
 app 8 ([]:List Int) p0.lo>>=fun v1 =>
 app 8 ([]:List Int) p0.hi>>=fun v2 =>
 idx v1 p1>>=fun v3 =>
 setM v1 p1 p2>>=fun v4 =>
 idx v2 p1>>=fun v5 =>
 setM v2 p1 p3>>=fun v6 =>
 ZY (v4.length=v1.length)>>=fun _ =>
 ZY (v6.length=v2.length)>>=fun _ =>
 some (⟨v4,v6⟩:Qi)
theorem Xo {p0 p1 p2 p3 r0} (hm:Zb (p0,p1,p2,p3)=some r0):FQ 84 [(Qi.toD p0),(Qh p1),(Qh p2),(Qh p3)] (.dat (Qi.toD r0)):=by
 unfold Zb at hm
 exact fp (fn:=f84) rfl (ge 2 (Qj (Ya (Qf 3 (bi hm fun v1 hx hm=>YM (v:=.ms 2 (mg v1) 0 v1.length v1.length) (fun H=>H++[.mt 3 (mg v1) (cellsOf Qh v1)]) rfl kr (by intro K hk; exact QaV 2 Qh (es:=p0.lo) (bytes:=8) (e:=3) (i:=1) (off:=0) hx y8 kr kr kr kr kr rfl kr kr hk) (Qf 3 (bi hm fun v2 hx hm=>YM (v:=.ms 4 (mg v2) 0 v2.length v2.length) (fun H=>H++[.mt 3 (mg v2) (cellsOf Qh v2)]) rfl kr (by intro K hk; exact QaV 4 Qh (es:=p0.hi) (bytes:=8) (e:=3) (i:=3) (off:=0) hx y8 kr kr kr kr kr rfl kr kr hk) (re 3 ⟨kr,gr 4 (bi hm fun v3 hx hm=>Zi rfl (fun _=>Y3 (e:=3) (n:=p1) (j:=(p1).toNat) (tt:=2) (g:=(mg v1)) (lo:=0) (len:=v1.length) (cap:=v1.length) (k:=.i64) kr kr rfl kr kr (idx_nat hx) (z6 (idx_lt hx) rfl)) (bi hm fun v4 hx hm=>YM (fun H=>H.set 2 (.mt 3 (mg v1) (cellsOf Qh v4))) rfl kr (fun _=>J6 Qh (l:=v1) (n:=p1) (y:=p2) hx y8 kr rfl kr kr kr kr) (Jh (gr 4 (bi hm fun v5 hx hm=>Zi rfl (fun _=>Y3 (e:=3) (n:=p1) (j:=(p1).toNat) (tt:=4) (g:=(mg v2)) (lo:=0) (len:=v2.length) (cap:=v2.length) (k:=.i64) kr kr rfl kr kr (idx_nat hx) (z6 (idx_lt hx) rfl)) (bi hm fun v6 hx hm=>YM (fun H=>H.set 4 (.mt 3 (mg v2) (cellsOf Qh v6))) rfl kr (fun _=>J6 Qh (l:=v2) (n:=p1) (y:=p3) hx y8 kr rfl kr kr kr kr) (Jh (ge 2 (Qs (gi hm fun hl7 hm=>gi hm fun hl8 hm=>(by obtain rfl:=Qbj hm; exact ⟨trivial,JT [(.agg [(.ms 2 (mg v1) 0 v1.length v1.length),(.ms 4 (mg v2) 0 v2.length v2.length)])] kr (po_agg (pc_cons (pc_ms (e:=3) Qh v4 hl7 y8 kr) (pc_cons (pc_ms (e:=3) Qh v6 hl8 y8 kr) pc_nil)))⟩)))))))))))⟩))))))))
def YC (x:(Qm × Int × Int)):Option Qm :=
 match x with
 | (p0,p1,p2) =>
 if p0.kind=1 then
  some p0
 else
 app 8 ([]:List Int) p0.strides>>=fun v1 =>
 idx v1 p1>>=fun v2 =>
 idx v1 p1>>=fun v3 =>
 idx v1 p1>>=fun v4 =>
 setM v1 p1 (W (0 - v3))>>=fun v5 =>
 idx p0.strides p1>>=fun v6 =>
 ZY (v5.length=v1.length)>>=fun _ =>
 Yy (p0,(W ((W (p2 - 1)) * v6)),v5)>>=fun v8 =>
 some v8
theorem QaC {p0 p1 p2 r0} (hm:YC (p0,p1,p2)=some r0):FQ 85 [(Qm.toD p0),(Qh p1),(Qh p2)] (.dat (Qm.toD r0)):=by
 unfold YC at hm
 exact fp (fn:=f85) rfl (ge 2 (Qj (ge 3 (riq hm (fun hm=>ge 2 (Qs zf)) (fun hm=>Qp (gr 3 (bi hm fun v1 hx hm=>YM (v:=.ms 1 (gb 0 p0.strides.isEmpty) 0 v1.length v1.length) (fun H=>H.set 1 (.mt 3 (gb 0 p0.strides.isEmpty) (cellsOf Qh v1))) rfl kr (fun _ hk=>Qaz Qh (l:=([]:List Int)) (es:=p0.strides) (bytes:=8) (e:=3) (tt:=1) (g:=0) (m:=([]:List Int).length) hx y8 kr kr kr kr rfl rfl kr rfl kr (source_lst y8) hk) (re 1 (gr 4 (bi hm fun v2 hx hm=>Zi rfl (fun _=>Y3 (e:=3) (n:=p1) (j:=(p1).toNat) (tt:=1) (g:=(gb 0 p0.strides.isEmpty)) (lo:=0) (len:=v1.length) (cap:=v1.length) (k:=.i64) kr kr rfl kr kr (idx_nat hx) (z6 (idx_lt hx) rfl)) (bi hm fun v3 hx hm=>Zi rfl (fun _=>JZ (tt:=1) (g:=(gb 0 p0.strides.isEmpty)) (j:=(0+(p1).toNat)) (e:=3) (cs:=cellsOf Qh v1) (v:=.dat (Qh v3)) kr kr rfl kr (Jq kr) (cells_idx Qh hx)) (Qf 1 (bi hm fun v4 hx hm=>Zi rfl (fun _=>Y3 (e:=3) (n:=p1) (j:=(p1).toNat) (tt:=1) (g:=(gb 0 p0.strides.isEmpty)) (lo:=0) (len:=v1.length) (cap:=v1.length) (k:=.i64) kr kr rfl kr kr (idx_nat hx) (z6 (idx_lt hx) rfl)) (bi hm fun v5 hx hm=>YM (fun H=>H.set 1 (.mt 3 (gb 0 p0.strides.isEmpty) (cellsOf Qh v5))) rfl kr (fun _=>J6 Qh (l:=v1) (n:=p1) (y:=(W (0 - v3))) hx y8 kr rfl kr kr kr kr) (Jh (Qj (Ya (Qf 6 (QA 1 Qh hm fun v6 hm=>Qf 2 (gi hm fun hl7 hm=>YM (v:=(La v5)) (fun H=>H.set 1 (.mt 3 ((gb 0 p0.strides.isEmpty)+1) (cellsOf Qh ([]:List Int)))) rfl kr (fun _ hk=>Qa7 Qh (l:=v5) (tt:=1) (e:=3) (g:=(gb 0 p0.strides.isEmpty)) (m:=v1.length) (cap:=v1.length) hl7 y8 rfl kr kr kr hk) (bi hm fun v8 hx hm=>cp (JR hx) (re 1 ⟨kr,Qs zf⟩))))))))))))))))))))))
def Q9 (x:((List Qb) × Int × Int × (List Qb) × Int)):Option ((List Qb)) :=
 match x with
 | (p0,p1,p2,v201,v202) =>
 if v202 < (p0.length:Int) then
  idx p0 v202>>=fun v602 =>
  idx v602.box.hi p1>>=fun v603 =>
  idx v602.box.lo p1>>=fun v604 =>
  Zb (v602.box,p1,(W (p2 - v603)),(W (p2 - v604)))>>=fun v605 =>
  idx p0 v202>>=fun v606 =>
  YC (v606.access,p1,p2)>>=fun v607 =>
  QJ (v201,(⟨v605,v607⟩:Qb))>>=fun v608 =>
  Q9 (p0,p1,p2,v608,(W (v202+1)))
 else
 some v201
 partial_fixpoint
theorem Xu:∀ x r,Q9 x=some r→match x with|(p0,p1,p2,v201,v202)=>LQ f35 35 [1,1,0,1,0,0] 0 ⟨kp 50 [(0,(Qu p0)),(1,(Qd p1)),(2,(Qd p2)),(7,(Qu v201)),(8,(Qd v202))],[]⟩ (P1 (.exit 0) (fun v601 d=>⟨sl d 50 [(7,(Qu v601))],[]⟩) r):=by
 refine Q9.partial_correctness _ (fun Q9 Xu x r hm=>?_);obtain ⟨p0,p1,p2,v201,v202⟩:=x;exact lp (Qj (gr 2 (QR Qb.toD p0 (re 1 (ri hm (fun hm=>Qp (Qj (Qo (gr 2 (QA 9 Qb.toD hm fun v602 hm=>re 4 (Ya (Qf 7 (QA 1 Qh hm fun v603 hm=>Qf 6 (QA 1 Qh hm fun v604 hm=>Qf 2 (bi hm fun v605 hx hm=>cp (Xo hx) (Qf 2 (QA 9 Qb.toD hm fun v606 hm=>Qf 4 (bi hm fun v607 hx hm=>cp (QaC hx) (Qf 1 (bi hm fun v608 hx hm=>cp (Yi hx) (re 1 ⟨kr,R_G (re 3 (Xu _ _ hm _ kr))⟩)))))))))))))))) (fun hm=>QC zf))))))
def YG (x:((List Qb) × Int × Int)):Option (List Qb) :=
 match x with
 | (p0,p1,p2) =>
 Q9 (p0,p1,p2,([]:List Qb),0)>>=fun v601 =>
 some v601
theorem Qab {p0 p1 p2 r0} (hm:YG (p0,p1,p2)=some r0):FQ 35 [(.lst ((List.map Qb.toD) p0)),(Qh p1),(Qh p2)] (Qu r0):=by
 unfold YG at hm;exact fp (fn:=f35) rfl (ge 1 (ge 1 (Qj (ge 1 (Qo (ru1 hm (Xu _) fun v601 d hm=>ge 2 (Qs zf)))))))
def Zm (x:((List Qb) × Int × Int × Int × (List Qb) × Int)):Option ((List Qb)) :=
 match x with
 | (p0,p1,p2,p3,v201,v202) =>
 if v202 < (p0.length:Int) then
  idx p0 v202>>=fun v602 =>
  idx v602.box.lo p1>>=fun v603 =>
  idx v602.box.hi p1>>=fun v604 =>
  Zb (v602.box,p1,(W ((if v603 < p2 then p2 else v603) - p2)),(W (v604 - p2)))>>=fun v605 =>
  idx p0 v202>>=fun v606 =>
  Zu (v606.access,p1,p2)>>=fun v607 =>
  QJ (v201,(⟨v605,v607⟩:Qb))>>=fun v608 =>
  idx v602.box.lo p1>>=fun v609 =>
  idx v602.box.hi p1>>=fun v610 =>
  Zb (v602.box,p1,(W ((W (v609+p3)) - p2)),(W ((W ((if p2 < v610 then p2 else v610)+p3)) - p2)))>>=fun v611 =>
  idx p0 v202>>=fun v612 =>
  Zu (v612.access,p1,(W (p2 - p3)))>>=fun v613 =>
  QJ (v608,(⟨v611,v613⟩:Qb))>>=fun v614 =>
  Zm (p0,p1,p2,p3,v614,(W (v202+1)))
 else
 some v201
 partial_fixpoint
theorem XH:∀ x r,Zm x=some r→match x with|(p0,p1,p2,p3,v201,v202)=>LQ f36 36 [1,1,0,1,0,0] 0 ⟨kp 90 [(0,(Qu p0)),(1,(Qd p1)),(2,(Qd p2)),(3,(Qd p3)),(9,(Qu v201)),(10,(Qd v202))],[]⟩ (P1 (.exit 0) (fun v601 d=>⟨sl d 90 [(9,(Qu v601))],[]⟩) r):=by
 refine Zm.partial_correctness _ (fun Zm XH x r hm=>?_);obtain ⟨p0,p1,p2,p3,v201,v202⟩:=x;exact lp (Qj (gr 2 (QR Qb.toD p0 (re 1 (ri hm (fun hm=>Qp (Qj (Qo (gr 2 (QA 9 Qb.toD hm fun v602 hm=>re 4 (Qj (Ya (Qf 6 (QA 1 Qh hm fun v603 hm=>Qf 2 (Zi rfl (fun _=>Qaf (k:=.i64) (m:=v603) (n:=p2) rfl kr kr) (Qf 5 (QA 1 Qh hm fun v604 hm=>Qf 3 (bi hm fun v605 hx hm=>cp (Xo hx) (Qf 2 (QA 9 Qb.toD hm fun v606 hm=>Qf 4 (bi hm fun v607 hx hm=>cp (X6 hx) (Qf 1 (bi hm fun v608 hx hm=>cp (Yi hx) (re 1 ⟨kr,Ya (Qf 6 (QA 1 Qh hm fun v609 hm=>Qf 8 (QA 1 Qh hm fun v610 hm=>Qf 2 (Zi rfl (fun _=>QaF (k:=.i64) (m:=v610) (n:=p2) rfl kr kr) (Qf 4 (bi hm fun v611 hx hm=>cp (Xo hx) (Qf 2 (QA 9 Qb.toD hm fun v612 hm=>Qf 6 (bi hm fun v613 hx hm=>cp (X6 hx) (Qf 1 (bi hm fun v614 hx hm=>cp (Yi hx) (re 1 ⟨kr,R_G (re 3 (XH _ _ hm _ kr))⟩))))))))))))⟩))))))))))))))))))) (fun hm=>QC zf))))))
def YX (x:((List Qb) × Int × Int × Int)):Option (List Qb) :=
 match x with
 | (p0,p1,p2,p3) =>
 Zm (p0,p1,p2,p3,([]:List Qb),0)>>=fun v601 =>
 some v601
theorem Qam {p0 p1 p2 p3 r0} (hm:YX (p0,p1,p2,p3)=some r0):FQ 36 [(.lst ((List.map Qb.toD) p0)),(Qh p1),(Qh p2),(Qh p3)] (Qu r0):=by
 unfold YX at hm;exact fp (fn:=f36) rfl (ge 1 (ge 1 (Qj (ge 1 (Qo (ru1 hm (XH _) fun v601 d hm=>ge 2 (Qs zf)))))))
def QX (x:((List Int) × Int × Qm × Int × (List Int) × Int × Int)):Option (Int) :=
 match x with
 | (p1,v202,p0,p2,v201,v802,v803) =>
 if v803 < (p1.length:Int) then
  idx p1 v803>>=fun v1203 =>
  if v1203=v202 then
   idx p0.strides v803>>=fun v1204 =>
   QX (p1,v202,p0,p2,v201,(W (v802+v1204)),(W (v803+1)))
  else
  QX (p1,v202,p0,p2,v201,v802,(W (v803+1)))
 else
 some v802
 partial_fixpoint
theorem YE:∀ x r,QX x=some r→match x with|(p1,v202,p0,p2,v201,v802,v803)=>LQ f86 86 [1,1,1,0,1,0,0,1,0,0,1,0,1,0,0] 3 ⟨kp 46 [(1,(La p1)),(2,(Qd p2)),(3,(.ptr 0 0)),(6,(.ptr 1 0)),(7,(JD v201)),(8,(Qd v202)),(9,(Qd v802)),(10,(Qd v803))],[(XC p0.kind p0.buffer p0.base p0.strides p0.start p0.step p0.mod),XB,(.tok 3 v201.length)]⟩ (P1 (.exit 2) (fun v1202 d=>⟨sl d 46 [(1,(La p1)),(2,(Qd p2)),(3,(.ptr 0 0)),(6,(.ptr 1 0)),(7,(JD v201)),(8,(Qd v202)),(9,(Qd v1202))],[(XC p0.kind p0.buffer p0.base p0.strides p0.start p0.step p0.mod),XB,(.tok 3 v201.length)]⟩) r):=by
 refine QX.partial_correctness _ (fun QX YE x r hm=>?_);obtain ⟨p1,v202,p0,p2,v201,v802,v803⟩:=x;exact lp (Qj (gr 2 (QR Qh p1 (re 1 (ri hm (fun hm=>Qp (Qj (Qo (gr 2 (QA 1 Qh hm fun v1203 hm=>re 3 (riq hm (fun hm=>R_G (Qf 4 (QA 1 Qh hm fun v1204 hm=>re 3 (R_G (re 3 (YE _ _ hm _ kr)))))) (fun hm=>Qp (R_G (re 3 (YE _ _ hm _ kr)))))))))) (fun hm=>QC zf))))))
def Q7 (x:(Int × (List Int) × Qm × (List Int) × Int)):Option ((List Int)) :=
 match x with
 | (p2,p1,p0,v201,v202) =>
 if v202 < p2 then
  QX (p1,v202,p0,p2,v201,0,0)>>=fun v1202 =>
  app 8 v201 ([v1202]:List Int)>>=fun v1205 =>
  Q7 (p2,p1,p0,v1205,(W (v202+1)))
 else
 some v201
 partial_fixpoint
theorem Xs:∀ x r,Q7 x=some r→match x with|(p2,p1,p0,v201,v202)=>LQ f86 86 [1,1,1,0,1,0,0] 3 ⟨kp 46 [(1,(La p1)),(2,(Qd p2)),(3,(.ptr 0 0)),(6,(.ptr 1 0)),(7,(JD v201)),(8,(Qd v202))],[(XC p0.kind p0.buffer p0.base p0.strides p0.start p0.step p0.mod),XB,(.tok 3 v201.length)]⟩ (P1 (.exit 0) (fun v601 d=>⟨sl d 46 [(3,(.ptr 0 0)),(6,(.ptr 1 0)),(7,(JD v601))],[(XC p0.kind p0.buffer p0.base p0.strides p0.start p0.step p0.mod),XB,(.tok 3 v601.length)]⟩) r):=by
 refine Q7.partial_correctness _ (fun Q7 Xs x r hm=>?_);obtain ⟨p2,p1,p0,v201,v202⟩:=x;exact lp (Qj (ge 3 (ri hm (fun hm=>Qp (Qj (Qo (ge 1 (Qj (ge 1 (Qo (ru1 hm (YE _) fun v1202 d hm=>R_G (Qf 3 (bi hm fun v1205 hx hm=>YP 3 1 8 2 Qh v201 ([v1202]:List Int) v1205 (xs:=(List.map Qh) v201) (es:=(List.map Qh) ([v1202]:List Int)) (L:=(List.map Qh)) y8 rfl rfl y8 hx (re 1 (R_G (re 3 (Xs _ _ hm _ kr)))))))))))))) (fun hm=>QC zf))))
def Z3 (x:(Qm × (List Int) × Int)):Option Qm :=
 match x with
 | (p0,p1,p2) =>
 if p0.kind=1 then
  some p0
 else
 Q7 (p2,p1,p0,([]:List Int),0)>>=fun v601 =>
 Yy (p0,0,v601)>>=fun v1206 =>
 some v1206
theorem J9 {p0 p1 p2 r0} (hm:Z3 (p0,p1,p2)=some r0):FQ 86 [(Qm.toD p0),(Lb p1),(Qh p2)] (.dat (Qm.toD r0)):=by
 unfold Z3 at hm;exact fp (fn:=f86) rfl (ge 2 (Qj (ge 3 (riq hm (fun hm=>ge 2 (Qs zf)) (fun hm=>Qp (ge 1 (Qj (ge 1 (Qo (ru1 hm (Xs _) fun v601 d hm=>gr 2 (bi hm fun v1206 hx hm=>cp (JR hx) (re 1 (Qs zf)))))))))))))
def QN (x:((List Int) × Int × (List Qb) × Int × (List Int) × (List Qb) × (List Int) × (List Int) × Int × Int × Int)):Option ((Int × Int)) :=
 match x with
 | (p1,v804,p0,v202,p2,v201,v802,v803,v1404,v1405,v1406) =>
 if v1406 < (p1.length:Int) then
  idx p1 v1406>>=fun v1806 =>
  if v1806=v804 then
   idx p0 v202>>=fun v1807 =>
   idx v1807.box.lo v1406>>=fun v1808 =>
   idx p0 v202>>=fun v1809 =>
   idx v1809.box.hi v1406>>=fun v1810 =>
   QN (p1,v804,p0,v202,p2,v201,v802,v803,(if v1404 < v1808 then v1808 else v1404),(if v1810 < v1405 then v1810 else v1405),(W (v1406+1)))
  else
  QN (p1,v804,p0,v202,p2,v201,v802,v803,v1404,v1405,(W (v1406+1)))
 else
 some (v1404,v1405)
 partial_fixpoint
theorem Yh:∀ x r,QN x=some r→match x with|(p1,v804,p0,v202,p2,v201,v802,v803,v1404,v1405,v1406)=>LQ f37 37 [1,1,0,1,0,0,1,0,0,1,0,1,0,0,1,0,0,1,1,0,1,0,0] 5 ⟨kp 87 [(0,(Qu p0)),(1,(La p1)),(2,(La p2)),(7,(Qu v201)),(8,(Qd v202)),(9,(.ptr 2 0)),(10,(Qd v804)),(11,(Qd v1404)),(12,(Qd v1405)),(13,(Qd v1406))],(Ja v802.length v803.length v802 v803)⟩ (P1 (.exit 4) (fun (v1804,v1805) d=>⟨sl d 87 [(0,(Qu p0)),(1,(La p1)),(2,(La p2)),(7,(Qu v201)),(8,(Qd v202)),(9,(.ptr 2 0)),(10,(Qd v804)),(11,(Qd v1804)),(12,(Qd v1805))],(Ja v802.length v803.length v802 v803)⟩) r):=by
 refine QN.partial_correctness _ (fun QN Yh x r hm=>?_);obtain ⟨p1,v804,p0,v202,p2,v201,v802,v803,v1404,v1405,v1406⟩:=x;exact lp (Qj (gr 2 (QR Qh p1 (re 1 (ri hm (fun hm=>Qp (Qj (Qo (gr 2 (QA 1 Qh hm fun v1806 hm=>re 3 (riq hm (fun hm=>gr 3 (QA 9 Qb.toD hm fun v1807 hm=>Qf 4 (QA 1 Qh hm fun v1808 hm=>Qf 1 (Zi rfl (fun _=>Qaf (k:=.i64) (m:=v1404) (n:=v1808) rfl kr kr) (re 1 (R_G (Qf 3 (QA 9 Qb.toD hm fun v1809 hm=>Qf 4 (QA 1 Qh hm fun v1810 hm=>Qf 1 (Zi rfl (fun _=>QaF (k:=.i64) (m:=v1405) (n:=v1810) rfl kr kr) (re 1 (R_G (re 3 (Yh _ _ hm _ kr)))))))))))))) (fun hm=>Qp (R_G (re 3 (Yh _ _ hm _ kr)))))))))) (fun hm=>QC zf))))))
def Q3 (x:((List Int) × (List Int) × (List Qb) × Int × (List Qb) × (List Int) × (List Int) × Int)):Option (((List Int) × (List Int))) :=
 match x with
 | (p2,p1,p0,v202,v201,v802,v803,v804) =>
 if v804 < (p2.length:Int) then
  QN (p1,v804,p0,v202,p2,v201,v802,v803,0,65536,0)>>=fun (v1804,v1805) =>
  app 8 v802 ([v1804]:List Int)>>=fun v1811 =>
  app 8 v803 ([v1805]:List Int)>>=fun v1812 =>
  Q3 (p2,p1,p0,v202,v201,v1811,v1812,(W (v804+1)))
 else
 some (v802,v803)
 partial_fixpoint
theorem Y2:∀ x r,Q3 x=some r→match x with|(p2,p1,p0,v202,v201,v802,v803,v804)=>LQ f37 37 [1,1,0,1,0,0,1,0,0,1,0,1,0,0] 5 ⟨kp 87 [(0,(Qu p0)),(1,(La p1)),(2,(La p2)),(7,(Qu v201)),(8,(Qd v202)),(9,(.ptr 2 0)),(10,(Qd v804))],(Ja v802.length v803.length v802 v803)⟩ (P1 (.exit 2) (fun (v1202,v1203) d=>⟨sl d 87 [(0,(Qu p0)),(1,(La p1)),(2,(La p2)),(7,(Qu v201)),(8,(Qd v202)),(9,(.ptr 2 0))],(Ja v1202.length v1203.length v1202 v1203)⟩) r):=by
 refine Q3.partial_correctness _ (fun Q3 Y2 x r hm=>?_);obtain ⟨p2,p1,p0,v202,v201,v802,v803,v804⟩:=x;exact lp (Qj (gr 2 (QR Qh p2 (re 1 (ri hm (fun hm=>Qp (Qj (Qo (ge 1 (ge 1 (Qj (ge 1 (Qo (ru1 hm (Yh _) fun ⟨v1804,v1805⟩ d hm=>gr 4 (bi hm fun v1811 hx hm=>YP 3 1 8 0 Qh v802 ([v1804]:List Int) v1811 (xs:=(List.map Qh) v802) (es:=(List.map Qh) ([v1804]:List Int)) (L:=(List.map Qh)) y8 rfl rfl y8 hx (re 2 (R_G (Qf 4 (bi hm fun v1812 hx hm=>YP 3 1 8 1 Qh v803 ([v1805]:List Int) v1812 (xs:=(List.map Qh) v803) (es:=(List.map Qh) ([v1805]:List Int)) (L:=(List.map Qh)) y8 rfl rfl y8 hx (re 2 (R_G (re 3 (Y2 _ _ hm _ kr)))))))))))))))))) (fun hm=>QC zf))))))
def QS (x:((List Qb) × (List Int) × (List Int) × (List Qb) × Int)):Option ((List Qb)) :=
 match x with
 | (p0,p2,p1,v201,v202) =>
 if v202 < (p0.length:Int) then
  Q3 (p2,p1,p0,v202,v201,([]:List Int),([]:List Int),0)>>=fun (v1202,v1203) =>
  idx p0 v202>>=fun v1813 =>
  Z3 (v1813.access,p1,(p2.length:Int))>>=fun v1814 =>
  QJ (v201,(⟨(⟨v1202,v1203⟩:Qi),v1814⟩:Qb))>>=fun v1815 =>
  QS (p0,p2,p1,v1815,(W (v202+1)))
 else
 some v201
 partial_fixpoint
theorem Y1:∀ x r,QS x=some r→match x with|(p0,p2,p1,v201,v202)=>LQ f37 37 [1,1,0,1,0,0] 0 ⟨kp 87 [(0,(Qu p0)),(1,(La p1)),(2,(La p2)),(7,(Qu v201)),(8,(Qd v202))],[]⟩ (P1 (.exit 0) (fun v601 d=>⟨sl d 87 [(7,(Qu v601))],[]⟩) r):=by
 refine QS.partial_correctness _ (fun QS Y1 x r hm=>?_);obtain ⟨p0,p2,p1,v201,v202⟩:=x;exact lp (Qj (gr 2 (QR Qb.toD p0 (re 1 (ri hm (fun hm=>Qp (Qj (Qo (ge 3 (Qj (ge 1 (Qo (ru1 hm (Y2 _) fun ⟨v1202,v1203⟩ d hm=>Ya (Qf 4 (QA 9 Qb.toD hm fun v1813 hm=>Qf 4 (QR Qh p2 (bi hm fun v1814 hx hm=>cp (J9 hx) (Qf 1 (bi hm fun v1815 hx hm=>cp (Yi hx) (re 1 ⟨kr,R_G (re 3 (Y1 _ _ hm _ kr))⟩))))))))))))))) (fun hm=>QC zf))))))
def Ye (x:((List Qb) × (List Int) × (List Int))):Option (List Qb) :=
 match x with
 | (p0,p1,p2) =>
 QS (p0,p2,p1,([]:List Qb),0)>>=fun v601 =>
 some v601
theorem J4 {p0 p1 p2 r0} (hm:Ye (p0,p1,p2)=some r0):FQ 37 [(.lst ((List.map Qb.toD) p0)),(Lb p1),(Lb p2)] (Qu r0):=by
 unfold Ye at hm;exact fp (fn:=f37) rfl (ge 1 (ge 1 (Qj (ge 1 (Qo (ru1 hm (Y1 _) fun v601 d hm=>ge 2 (Qs zf)))))))
def QZ (x:((List Qb) × (List Qb) × Int × Int × (List Qb) × Int)):Option ((List Qb)) :=
 match x with
 | (p0,p1,p2,p3,v201,v202) =>
 if v202 < (p0.length:Int) then
  idx p0 v202>>=fun v602 =>
  QJ (v201,v602)>>=fun v603 =>
  QZ (p0,p1,p2,p3,v603,(W (v202+1)))
 else
 some v201
 partial_fixpoint
theorem Xd:∀ x r,QZ x=some r→match x with|(p0,p1,p2,p3,v201,v202)=>LQ f38 38 [1,1,0,1,0,0] 0 ⟨kp 66 [(0,(Qu p0)),(1,(Qu p1)),(2,(Qd p2)),(3,(Qd p3)),(9,(Qu v201)),(10,(Qd v202))],[]⟩ (P1 (.exit 0) (fun v601 d=>⟨sl d 66 [(1,(Qu p1)),(2,(Qd p2)),(3,(Qd p3)),(9,(Qu v601))],[]⟩) r):=by
 refine QZ.partial_correctness _ (fun QZ Xd x r hm=>?_);obtain ⟨p0,p1,p2,p3,v201,v202⟩:=x;exact lp (Qj (gr 2 (QR Qb.toD p0 (re 1 (ri hm (fun hm=>Qp (Qj (Qo (R_G (Qf 3 (QA 9 Qb.toD hm fun v602 hm=>Qf 1 (bi hm fun v603 hx hm=>cp (Yi hx) (re 1 (R_G (re 3 (Xd _ _ hm _ kr))))))))))) (fun hm=>QC zf))))))
def Q0 (x:((List Qb) × Int × Int × (List Qb) × Int)):Option ((List Qb)) :=
 match x with
 | (p1,p2,p3,v804,v805) =>
 if v805 < (p1.length:Int) then
  idx p1 v805>>=fun v1205 =>
  idx v1205.box.lo p2>>=fun v1206 =>
  idx v1205.box.hi p2>>=fun v1207 =>
  Zb (v1205.box,p2,(W (v1206+p3)),(W (v1207+p3)))>>=fun v1208 =>
  idx p1 v805>>=fun v1209 =>
  Zu (v1209.access,p2,(W (0 - p3)))>>=fun v1210 =>
  QJ (v804,(⟨v1208,v1210⟩:Qb))>>=fun v1211 =>
  Q0 (p1,p2,p3,v1211,(W (v805+1)))
 else
 some v804
 partial_fixpoint
theorem Xe:∀ x r,Q0 x=some r→match x with|(p1,p2,p3,v804,v805)=>LQ f38 38 [1,1,1,0,1,0,0] 0 ⟨kp 66 [(1,(Qu p1)),(2,(Qd p2)),(3,(Qd p3)),(9,(Qu v804)),(11,(Qd v805))],[]⟩ (P1 (.exit 2) (fun v1204 d=>⟨sl d 66 [(9,(Qu v1204))],[]⟩) r):=by
 refine Q0.partial_correctness _ (fun Q0 Xe x r hm=>?_);obtain ⟨p1,p2,p3,v804,v805⟩:=x;exact lp (Qj (gr 2 (QR Qb.toD p1 (re 1 (ri hm (fun hm=>Qp (Qj (Qo (gr 2 (QA 9 Qb.toD hm fun v1205 hm=>re 4 (Ya (Qf 6 (QA 1 Qh hm fun v1206 hm=>Qf 6 (QA 1 Qh hm fun v1207 hm=>Qf 3 (bi hm fun v1208 hx hm=>cp (Xo hx) (Qf 2 (QA 9 Qb.toD hm fun v1209 hm=>Qf 5 (bi hm fun v1210 hx hm=>cp (X6 hx) (Qf 1 (bi hm fun v1211 hx hm=>cp (Yi hx) (re 1 ⟨kr,R_G (re 3 (Xe _ _ hm _ kr))⟩)))))))))))))))) (fun hm=>QC zf))))))
def Yv (x:((List Qb) × (List Qb) × Int × Int)):Option (List Qb) :=
 match x with
 | (p0,p1,p2,p3) =>
 QZ (p0,p1,p2,p3,([]:List Qb),0)>>=fun v601 =>
 Q0 (p1,p2,p3,v601,0)>>=fun v1204 =>
 some v1204
theorem J7 {p0 p1 p2 p3 r0} (hm:Yv (p0,p1,p2,p3)=some r0):FQ 38 [(.lst ((List.map Qb.toD) p0)),(.lst ((List.map Qb.toD) p1)),(Qh p2),(Qh p3)] (Qu r0):=by
 unfold Yv at hm;exact fp (fn:=f38) rfl (ge 1 (ge 1 (Qj (ge 1 (Qo (ru1 hm (Xd _) fun v601 d hm=>Qj (ge 1 (Qo (ru1 hm (Xe _) fun v1204 d hm=>ge 2 (Qs zf))))))))))
def Z0 (x:((List Int) × Int × (List (List Int)) × Int × (List (List Int)) × Int)):Option ((List (List Int))) :=
 match x with
 | (p0,v202,v201,v803,v1403,v1404) =>
 idx p0 v202>>=fun v1804 =>
 if v1404 < v1804 then
  idx v201 v803>>=fun v1805 =>
  app 8 ([]:List Int) v1805>>=fun v1806 =>
  app 8 v1806 ([v1404]:List Int)>>=fun v1807 =>
  app 24 v1403 ([v1807]:List (List Int))>>=fun v1808 =>
  Z0 (p0,v202,v201,v803,v1808,(W (v1404+1)))
 else
 some v1403
 partial_fixpoint
theorem Jl:∀ x r,Z0 x=some r→match x with|(p0,v202,v201,v803,v1403,v1404)=>LQ f54 54 [1,1,0,1,0,0,1,0,0,1,0,1,0,0,1,0,0,1,0,0] 1 ⟨kp 44 [(0,(La p0)),(3,(QK v201)),(4,(Qd v202)),(5,(J1 v1403)),(6,(Qd v803)),(7,(Qd v1404))],[(.tok 22 v1403.length)]⟩ (P1 (.exit 4) (fun v1803 d=>⟨sl d 44 [(0,(La p0)),(3,(QK v201)),(4,(Qd v202)),(5,(J1 v1803)),(6,(Qd v803))],[(.tok 22 v1803.length)]⟩) r):=by
 refine Z0.partial_correctness _ (fun Z0 Jl x r hm=>?_);obtain ⟨p0,v202,v201,v803,v1403,v1404⟩:=x
 exact lp (Qj (gr 3 (QA 1 Qh hm fun v1804 hm=>re 2 (ri hm (fun hm=>Qp (Qj (Qo (R_G (Qf 4 (bi hm fun v1805 hx hm=>Xw 1 (fun l=>Dat.lst ((List.map Qh) l)) v201 v803 v1805 (es:=(List.map (fun l=>Dat.lst ((List.map Qh) l))) v201) (d:=(Lb v1805)) rfl hx rfl rfl (Qf 1 (bi hm fun v1806 hx hm=>YP 3 1 8 1 Qh ([]:List Int) v1805 v1806 (xs:=(List.map Qh) ([]:List Int)) (es:=(List.map Qh) v1805) (L:=(List.map Qh)) y8 rfl rfl y8 hx (Qf 2 (bi hm fun v1807 hx hm=>YP 3 1 8 1 Qh v1806 ([v1404]:List Int) v1807 (xs:=(List.map Qh) v1806) (es:=(List.map Qh) ([v1404]:List Int)) (L:=(List.map Qh)) y8 rfl rfl y8 hx (Qf 1 (bi hm fun v1808 hx hm=>YP 22 1 24 0 (fun l=>Dat.lst ((List.map Qh) l)) v1403 ([v1807]:List (List Int)) v1808 (xs:=(List.map (fun l=>Dat.lst ((List.map Qh) l))) v1403) (es:=(List.map (fun l=>Dat.lst ((List.map Qh) l))) ([v1807]:List (List Int))) (L:=(List.map (fun l=>Dat.lst ((List.map Qh) l)))) y8 rfl rfl y8 hx (re 1 (R_G (re 3 (Jl _ _ hm _ kr)))))))))))))))) (fun hm=>QC zf)))))
def ZO (x:((List (List Int)) × (List Int) × Int × (List (List Int)) × Int)):Option ((List (List Int))) :=
 match x with
 | (v201,p0,v202,v802,v803) =>
 if v803 < (v201.length:Int) then
  Z0 (p0,v202,v201,v803,v802,0)>>=fun v1803 =>
  ZO (v201,p0,v202,v1803,(W (v803+1)))
 else
 some v802
 partial_fixpoint
theorem Jk:∀ x r,ZO x=some r→match x with|(v201,p0,v202,v802,v803)=>LQ f54 54 [1,1,0,1,0,0,1,0,0,1,0,1,0,0] 1 ⟨kp 44 [(0,(La p0)),(3,(QK v201)),(4,(Qd v202)),(5,(J1 v802)),(6,(Qd v803))],[(.tok 22 v802.length)]⟩ (P1 (.exit 2) (fun v1202 d=>⟨sl d 44 [(0,(La p0)),(4,(Qd v202)),(5,(J1 v1202))],[(.tok 22 v1202.length)]⟩) r):=by
 refine ZO.partial_correctness _ (fun ZO Jk x r hm=>?_);obtain ⟨v201,p0,v202,v802,v803⟩:=x;exact lp (Qj (gr 2 (JH (fun l=>Dat.lst ((List.map Qh) l)) v201 (es:=(List.map (fun l=>Dat.lst ((List.map Qh) l))) v201) rfl (re 1 (ri hm (fun hm=>Qp (Qj (Qo (ge 1 (Qo (ru1 hm (Jl _) fun v1803 d hm=>R_G (re 3 (Jk _ _ hm _ kr)))))))) (fun hm=>QC zf))))))
def ZN (x:((List Int) × (List (List Int)) × Int)):Option ((List (List Int))) :=
 match x with
 | (p0,v201,v202) =>
 if v202 < (p0.length:Int) then
  ZO (v201,p0,v202,([]:List (List Int)),0)>>=fun v1202 =>
  ZN (p0,v1202,(W (v202+1)))
 else
 some v201
 partial_fixpoint
theorem Jj:∀ x r,ZN x=some r→match x with|(p0,v201,v202)=>LQ f54 54 [1,1,0,1,0,0] 0 ⟨kp 44 [(0,(La p0)),(3,(QK v201)),(4,(Qd v202))],[]⟩ (P1 (.exit 0) (fun v601 d=>⟨sl d 44 [(3,(QK v601))],[]⟩) r):=by
 refine ZN.partial_correctness _ (fun ZN Jj x r hm=>?_);obtain ⟨p0,v201,v202⟩:=x;exact lp (Qj (gr 2 (QR Qh p0 (re 1 (ri hm (fun hm=>Qp (Qj (Qo (ge 1 (Qj (ge 1 (Qo (ru1 hm (Jk _) fun v1202 d hm=>R_G (re 2 (R_G (re 3 (Jj _ _ hm _ kr)))))))))))) (fun hm=>QC zf))))))
def ZG (x:(List Int)):Option (List (List Int)) :=
 match x with
 | p0 =>
 ZN (p0,([([]:(List Int))]:List (List Int)),0)>>=fun v601 =>
 some v601
theorem J8 {p0 r0} (hm:ZG p0=some r0):FQ 54 [(Lb p0)] (QK r0):=by
 unfold ZG at hm;exact fp (fn:=f54) rfl (ge 1 (ge 3 (Qj (ge 1 (Qo (ru1 hm (Jj _) fun v601 d hm=>ge 2 (Qs zf)))))))
def Z1 (x:((List Int) × Qi × Int)):Option (Unit ⊕ Unit) :=
 match x with
 | (p1,p0,v201) =>
 if v201 < (p1.length:Int) then
  (idx p1 v201>>=fun v602 =>
  idx p0.lo v201>>=fun v603 =>
  if v602 < v603 then
   some true
  else
  idx p1 v201>>=fun v604 =>
  idx p0.hi v201>>=fun v605 =>
  some (decide (v604≥v605))
  )>>=fun (v601:Bool) =>
  if v601=true then
   some (Sum.inl ())
  else
  Z1 (p1,p0,(W (v201+1)))
 else
 some (Sum.inr ())
 partial_fixpoint
theorem Jn:∀ x r,Z1 x=some r→match x with|(p1,p0,v201)=>LQ f93 93 [1,1,0,1,0,0] 1 ⟨kp 40 [(1,(La p1)),(2,(.ptr 0 0)),(5,(Qd v201))],[(ZF p0.lo p0.hi)]⟩ (P2 .ret (fun _ d=>⟨sl d 40 [(4,(Qq false))],[(ZF p0.lo p0.hi)]⟩) (.exit 0) (fun _ d=>⟨sl d 40 [],[(ZF p0.lo p0.hi)]⟩) r):=by
 refine Z1.partial_correctness _ (fun Z1 Jn x r hm=>?_);obtain ⟨p1,p0,v201⟩:=x;exact lp (Qj (gr 2 (QR Qh p1 (re 1 (ri hm (fun hm=>Qp (Qj (Qo (Qj (bi hm fun v601 hs hm=>Zq (fun d=>⟨sl d 40 [(1,(La p1)),(2,(.ptr 0 0)),(5,(Qd v201)),(39,(Qq v601))],[(ZF p0.lo p0.hi)]⟩) (have hm:=hs;Ya (Qf 2 (QA 1 Qh hm fun v602 hm=>Qf 4 (QA 1 Qh hm fun v603 hm=>Qf 3 (gs 28 hm (fun hm=>re 11 ⟨kr,zf⟩) (fun hm=>Qf 2 (QA 1 Qh hm fun v604 hm=>Qf 4 (QA 1 Qh hm fun v605 hm=>re 3 ⟨kr,zf⟩)))))))) (fun d=>rib hm (fun hm=>ge 1 (Qs zf)) (fun hm=>Qp (R_G (re 3 (Jn _ _ hm _ kr)))))))))) (fun hm=>QC zf))))))
def Xy (x:(Qi × (List Int))):Option Bool :=
 match x with
 | (p0,p1) =>
 if (p1.length:Int)≠(p0.lo.length:Int) then
  some false
 else
 (
 Z1 (p1,p0,0)>>=fun out =>
 match out with
 | .inl _ =>
  some false
 | .inr (_) =>
  some true
 )
theorem QaO {p0 p1 r0} (hm:Xy (p0,p1)=some r0):FQ 93 [(Qi.toD p0),(Lb p1)] (Qq r0):=by
 unfold Xy at hm;exact fp (fn:=f93) rfl (ge 2 (Qj (gr 1 (QR Qh p1 (Qf 2 (QR Qh p0.lo (re 1 (rix hm (fun hm=>ge 1 (Qs zf)) (fun hm=>Qp (Qj (ge 1 (Qo (ru2 hm (Jn _) (fun _ d hm=>zf) fun _ d hm=>ge 1 (Qs zf))))))))))))))
def ZP (x:((List Int) × (List Int) × Int × Int)):Option (Int) :=
 match x with
 | (p0,p1,v201,v202) =>
 (if v202 < (p0.length:Int) then
  some (decide (v202 < (p1.length:Int)))
 else
 some false
 )>>=fun (v602:Bool) =>
 if v602=true then
  idx p0 v202>>=fun v603 =>
  idx p1 v202>>=fun v604 =>
  ZP (p0,p1,(W (v201+(W (v603 * v604)))),(W (v202+1)))
 else
 some v201
 partial_fixpoint
theorem Jm:∀ x r,ZP x=some r→match x with|(p0,p1,v201,v202)=>LQ f142 142 [1,1,0,1,0,0] 0 ⟨kp 31 [(0,(La p0)),(1,(La p1)),(5,(Qd v201)),(6,(Qd v202))],[]⟩ (P1 (.exit 0) (fun v601 d=>⟨sl d 31 [(5,(Qd v601))],[]⟩) r):=by
 refine ZP.partial_correctness _ (fun ZP Jm x r hm=>?_);obtain ⟨p0,p1,v201,v202⟩:=x;exact lp (Qj (Qj (bi hm fun v602 hs hm=>Zq (fun d=>⟨sl d 31 [(0,(La p0)),(1,(La p1)),(5,(Qd v201)),(6,(Qd v202)),(16,(Qq v602))],[]⟩) (have hm:=hs;R_G (Qf 2 (QR Qh p0 (Qf 2 (gs 11 hm (fun hm=>Qf 2 (QR Qh p1 (re 2 zf))) (fun hm=>re 5 zf)))))) (fun d=>rib hm (fun hm=>Qp (Qj (Qo (Ya (Qf 3 (QA 1 Qh hm fun v603 hm=>Qf 3 (QA 1 Qh hm fun v604 hm=>re 4 ⟨kr,R_G (re 3 (Jm _ _ hm _ kr))⟩))))))) (fun hm=>QC zf)))))
def Xx (x:((List Int) × (List Int))):Option Int :=
 match x with
 | (p0,p1) =>
 ZP (p0,p1,0,0)>>=fun v601 =>
 some v601
theorem QaN {p0 p1 r0} (hm:Xx (p0,p1)=some r0):FQ 142 [(Lb p0),(Lb p1)] (Qd r0):=by
 unfold Xx at hm;exact fp (fn:=f142) rfl (ge 1 (ge 1 (Qj (ge 1 (Qo (ru1 hm (Jm _) fun v601 d hm=>ge 2 (Qs zf)))))))
def ZT (x:(Qm × (List Int))):Option (Int × Bool) :=
 match x with
 | (p0,p1) =>
 Xx (p0.strides,p1)>>=fun v1 =>
 if p0.kind=1 then
  some (0,false)
 else
 if p0.kind=2 then
  some ((W (p0.base+v1)),true)
 else
 remM (W (p0.start+v1)) p0.mod>>=fun v2 =>
 (if v2 < 0 then
  some (W (v2+p0.mod))
 else
 some v2
 )>>=fun (v3:Int) =>
 some ((W (p0.base+(W (p0.step * v3)))),true)
theorem QaT {p0 p1 r0 r1} (hm:ZT (p0,p1)=some (r0,r1)):FQ 103 [(Qm.toD p0),(Lb p1)] (.tup [(Qd r0),(Qq r1)]):=by
 unfold ZT at hm;exact fp (fn:=f103) rfl (ge 3 (gr 3 (bi hm fun v1 hx hm=>cp (QaN hx) (re 1 (Qj (ge 3 (riq hm (fun hm=>ge 2 (Qs zf)) (fun hm=>Qp (Qj (ge 3 (riq hm (fun hm=>ge 6 (Qs zf)) (fun hm=>Qp (gr 6 (bi hm fun v2 hx hm=>Zi rfl (fun _=>Qbw (a:=(W (p0.start+v1))) (b:=p0.mod) hx rfl kr kr) (re 1 (Qj (ge 2 (bi hm fun v3 hs hm=>Zq (fun d=>⟨sl d 42 [(2,(.ptr 0 0)),(7,(Qd v3))],[(XC p0.kind p0.buffer p0.base p0.strides p0.start p0.step p0.mod)]⟩) (have hm:=hs;ri hm (fun hm=>R_G (re 5 zf)) (fun hm=>Qp zf)) (fun d=>ge 9 (Qs zf))))))))))))))))))))
def Zz (x:((List Qb) × (List Int) × Int)):Option ((Bool × Int × Int) ⊕ Unit) :=
 match x with
 | (p0,p1,v201) =>
 if v201 < (p0.length:Int) then
  idx p0 v201>>=fun v604 =>
  Xy (v604.box,p1)>>=fun v605 =>
  if v605=true then
   idx p0 v201>>=fun v606 =>
   ZT (v606.access,p1)>>=fun (v607,v608) =>
   if v608=false then
    some (Sum.inl (true,0,0))
   else
   idx p0 v201>>=fun v609 =>
   some (Sum.inl (false,v609.access.buffer,v607))
  else
  Zz (p0,p1,(W (v201+1)))
 else
 some (Sum.inr ())
 partial_fixpoint
theorem XG:∀ x r,Zz x=some r→match x with|(p0,p1,v201)=>LQ f55 55 [1,0,1,0,0] 1 ⟨kp 44 [(0,(Qu p0)),(1,(La p1)),(4,(.ptr 0 0)),(6,(Qd v201))],[(.box [(Qq false),(Qd 0),(Qd 0)])]⟩ (P2 .ret (fun (v601,v602,v603) d=>⟨sl d 44 [(4,(.ptr 0 0)),(5,(Qq true))],[(.box [(Qq v601),(Qd v602),(Qd v603)])]⟩) (.exit 0) (fun _ d=>⟨sl d 44 [(4,(.ptr 0 0))],[(.box [(Qq false),(Qd 0),(Qd 0)])]⟩) r):=by
 refine Zz.partial_correctness _ (fun Zz XG x r hm=>?_);obtain ⟨p0,p1,v201⟩:=x;exact lp (Qj (gr 2 (QR Qb.toD p0 (re 1 (ri hm (fun hm=>Qp (Qj (Qo (gr 2 (QA 9 Qb.toD hm fun v604 hm=>Qf 3 (bi hm fun v605 hx hm=>cp (QaO hx) (Jh (rib hm (fun hm=>gr 2 (QA 9 Qb.toD hm fun v606 hm=>Qf 3 (bi2 hm fun v607 v608 hx hm=>cp (QaT hx) (re 5 (Qj (ge 2 (rin hm (fun hm=>ge 3 (Qs zf)) (fun hm=>Qp (gr 2 (QA 9 Qb.toD hm fun v609 hm=>re 7 (Qs zf))))))))))) (fun hm=>Qp (R_G (re 3 (XG _ _ hm _ kr)))))))))))) (fun hm=>QC zf))))))
def Yw (x:((List Qb) × (List Int))):Option (Qg × Bool) :=
 match x with
 | (p0,p1) =>
 (
 Zz (p0,p1,0)>>=fun out =>
 match out with
 | .inl (v601,v602,v603) =>
  some ((⟨v601,v602,v603⟩:Qg),true)
 | .inr (_) =>
  some ((⟨false,0,0⟩:Qg),false)
 )
theorem Qal {p0 p1 r0 r1} (hm:Yw (p0,p1)=some (r0,r1)):FQ 55 [(.lst ((List.map Qb.toD) p0)),(Lb p1)] (.tup [(.dat (Qg.toD r0)),(Qq r1)]):=by
 unfold Yw at hm;exact fp (fn:=f55) rfl (ge 2 (Qj (ge 1 (Qo (ru2 hm (XG _) (fun ⟨v601,v602,v603⟩ d hm=>zf) fun _ d hm=>ge 3 (Qs zf))))))
def Q8 (x:((List (List Int)) × (List Qb) × (List Qg) × Int)):Option ((List Qg)) :=
 match x with
 | (v1,p1,v202,v203) =>
 if v203 < (v1.length:Int) then
  idx v1 v203>>=fun v603 =>
  Yw (p1,v603)>>=fun (v604,v605) =>
  app 24 v202 ([v604]:List Qg)>>=fun v606 =>
  Q8 (v1,p1,v606,(W (v203+1)))
 else
 some v202
 partial_fixpoint
theorem Xt:∀ x r,Q8 x=some r→match x with|(v1,p1,v202,v203)=>LQ f16 16 [1,1,1,0,1,0,0] 1 ⟨kp 32 [(1,(Qu p1)),(5,(.vec 0 ((List.map Qg.toD) v202))),(6,(QK v1)),(7,(Qd v203))],[(.tok 45 v202.length)]⟩ (P1 (.exit 0) (fun v602 d=>⟨sl d 32 [(5,(.vec 0 ((List.map Qg.toD) v602)))],[(.tok 45 v602.length)]⟩) r):=by
 refine Q8.partial_correctness _ (fun Q8 Xt x r hm=>?_);obtain ⟨v1,p1,v202,v203⟩:=x;exact lp (Qj (gr 2 (JH (fun l=>Dat.lst ((List.map Qh) l)) v1 (es:=(List.map (fun l=>Dat.lst ((List.map Qh) l))) v1) rfl (re 1 (ri hm (fun hm=>Qp (Qj (Qo (gr 3 (bi hm fun v603 hx hm=>Xw 1 (fun l=>Dat.lst ((List.map Qh) l)) v1 v203 v603 (es:=(List.map (fun l=>Dat.lst ((List.map Qh) l))) v1) (d:=(Lb v603)) rfl hx rfl rfl (Qf 1 (bi2 hm fun v604 v605 hx hm=>cp (Qal hx) (re 6 (R_G (Qf 3 (bi hm fun v606 hx hm=>YP 45 3 24 0 Qg.toD v202 ([v604]:List Qg) v606 (xs:=(List.map Qg.toD) v202) (es:=(List.map Qg.toD) ([v604]:List Qg)) (L:=(List.map Qg.toD)) y8 rfl rfl Qg.fit hx (re 1 (R_G (re 3 (Xt _ _ hm _ kr))))))))))))))) (fun hm=>QC zf))))))
def Z4 (x:((List Int) × (List Qb))):Option (List Qg) :=
 match x with
 | (p0,p1) =>
 ZG p0>>=fun v1 =>
 Q8 (v1,p1,([]:List Qg),0)>>=fun v602 =>
 some v602
theorem Qaa {p0 p1 r0} (hm:Z4 (p0,p1)=some r0):FQ 16 [(Lb p0),(.lst ((List.map Qb.toD) p1))] (YT r0):=by
 unfold Z4 at hm;exact fp (fn:=f16) rfl (ge 1 (ge 1 (gr 1 (bi hm fun v1 hx hm=>cp (J8 hx) (re 1 (Qj (ge 1 (Qo (ru1 hm (Xt _) fun v602 d hm=>ge 2 (Qs zf))))))))))
def Za (x:((List Qg) × Int)):Option (Unit ⊕ Unit) :=
 match x with
 | (p0,v201) =>
 if v201 < (p0.length:Int) then
  (idx p0 v201>>=fun v602 =>
  idx p0 0>>=fun v603 =>
  (if (v602.fill != v603.fill)=true then
   some true
  else
  idx p0 v201>>=fun v605 =>
  idx p0 0>>=fun v606 =>
  some (v605.buffer != v606.buffer)
  )>>=fun (v604:Bool) =>
  if v604=true then
   some true
  else
  idx p0 v201>>=fun v607 =>
  idx p0 (W (v201 - 1))>>=fun v608 =>
  idx p0 1>>=fun v609 =>
  idx p0 0>>=fun v610 =>
  some ((W (v607.offset - v608.offset)) != (W (v609.offset - v610.offset)))
  )>>=fun (v601:Bool) =>
  if v601=true then
   some (Sum.inl ())
  else
  Za (p0,(W (v201+1)))
 else
 some (Sum.inr ())
 partial_fixpoint
theorem Xv:∀ x r,Za x=some r→match x with|(p0,v201)=>LQ f91 91 [1,0,1,0,0] 0 ⟨kp 56 [(0,(YT p0)),(3,(Qd v201))],[]⟩ (P2 .ret (fun _ d=>⟨sl d 56 [(2,(Qq false))],[]⟩) (.exit 0) (fun _ d=>⟨sl d 56 [],[]⟩) r):=by
 refine Za.partial_correctness _ (fun Za Xv x r hm=>?_);obtain ⟨p0,v201⟩:=x
 exact lp (Qj (gr 2 (QR Qg.toD p0 (re 1 (ri hm (fun hm=>Qp (Qj (Qo (Qj (bi hm fun v601 hs hm=>Zq (fun d=>⟨sl d 56 [(0,(YT p0)),(3,(Qd v201)),(55,(Qq v601))],[]⟩) (have hm:=hs;Qbc (Qf 2 (QA 3 Qg.toD hm fun v602 hm=>Qf 3 (QA 3 Qg.toD hm fun v603 hm=>Qf 2 (Zi rfl (fun _=>Qby (a:=v602.fill) (b:=v603.fill) kr rfl kr kr) (Qf 1 (bi hm fun v604 hs hm=>Xc (j:=22) (fun d=>⟨sl d 56 [(0,(YT p0)),(3,(Qd v201)),(31,(Qq v604))],[]⟩) (fun d=>Qf 1 (gsb 32 hm (fun hm=>re 23 ⟨kr,zf⟩) (fun hm=>Qf 2 (QA 3 Qg.toD hm fun v607 hm=>Qf 5 (QA 3 Qg.toD hm fun v608 hm=>Qf 4 (QA 3 Qg.toD hm fun v609 hm=>Qf 3 (QA 3 Qg.toD hm fun v610 hm=>re 5 ⟨kr,zf⟩))))))) (fun hJ=>gsb 20 hs (fun hm=>Qf 11 zf) (fun hm=>Qf 2 (QA 3 Qg.toD hm fun v605 hm=>Qf 3 (QA 3 Qg.toD hm fun v606 hm=>Qf 4 zf))))))))))) (fun d=>rib hm (fun hm=>ge 1 (Qs zf)) (fun hm=>Qp (R_G (re 3 (Xv _ _ hm _ kr)))))))))) (fun hm=>QC zf))))))
def YH (x:(List Qg)):Option Bool :=
 match x with
 | p0 =>
 (
 Za (p0,1)>>=fun out =>
 match out with
 | .inl _ =>
  some false
 | .inr (_) =>
  some true
 )
theorem Qac {p0 r0} (hm:YH p0=some r0):FQ 91 [(.lst ((List.map Qg.toD) p0))] (Qq r0):=by
 unfold YH at hm;exact fp (fn:=f91) rfl (ge 1 (Qj (ge 1 (Qo (ru2 hm (Xv _) (fun _ d hm=>zf) fun _ d hm=>ge 1 (Qs zf))))))
def ZX (x:(Int × (List Qg) × (List Qk) × Int)):Option (Int) :=
 match x with
 | (v202,p0,v201,v802) =>
 (if (W (v202+v802)) < (p0.length:Int) then
  sub p0 v202 (W ((W (v202+v802))+1))>>=fun v1204 =>
  YH v1204>>=fun v1205 =>
  some v1205
 else
 some false
 )>>=fun (v1203:Bool) =>
 if v1203=true then
  ZX (v202,p0,v201,(W (v802+1)))
 else
 some v802
 partial_fixpoint
theorem Jx:∀ x r,ZX x=some r→match x with|(v202,p0,v201,v802)=>LQ f40 40 [1,1,0,1,0,0,1,0,1,0,0,0] 1 ⟨kp 80 [(0,(YT p0)),(3,(X9 v201)),(4,(Qd v202)),(5,(Qd v802))],[(.tok 126 v201.length)]⟩ (P1 (.exit 2) (fun v1202 d=>⟨sl d 80 [(0,(YT p0)),(3,(X9 v201)),(4,(Qd v202)),(5,(Qd v1202))],[(.tok 126 v201.length)]⟩) r):=by
 refine ZX.partial_correctness _ (fun ZX Jx x r hm=>?_);obtain ⟨v202,p0,v201,v802⟩:=x;exact lp (Qj (Qj (bi hm fun v1203 hs hm=>Zq (fun d=>⟨sl d 80 [(0,(YT p0)),(3,(X9 v201)),(4,(Qd v202)),(5,(Qd v802)),(26,(Qq v1203))],[(.tok 126 v201.length)]⟩) (have hm:=hs;R_G (Qf 4 (QR Qg.toD p0 (Qf 2 (gs 17 hm (fun hm=>Qf 6 (bi hm fun v1204 hx hm=>Qbb 3 Qg.toD p0 v1204 v202 (W ((W (v202+v802))+1)) (es:=(List.map Qg.toD) p0) (L:=(List.map Qg.toD)) (a:=natI v202) (b:=natI (W ((W (v202+v802))+1))) y8 rfl (fun _=>by first|rfl|exact num_of_fit (Qg.fit _)) hx rfl (Or.inl rfl) (bi hm fun v1205 hx hm=>cp (Qac hx) (re 1 zf)))) (fun hm=>re 9 zf)))))) (fun d=>rib hm (fun hm=>Qp (Qo (R_G (re 3 (Jx _ _ hm _ kr))))) (fun hm=>QC zf)))))
def ZW (x:((List Qg) × (List Qk) × Int)):Option ((List Qk)) :=
 match x with
 | (p0,v201,v202) =>
 if v202 < (p0.length:Int) then
  ZX (v202,p0,v201,1)>>=fun v1202 =>
  idx p0 v202>>=fun v1206 =>
  (if v1206.fill=false then
   idx p0 v202>>=fun v1209 =>
   idx p0 v202>>=fun v1210 =>
   some (v1209.buffer,v1210.offset)
  else
  some ((0:Int),(0:Int))
  )>>=fun ((v1207,v1208):(Int × Int)) =>
  (if v1206.fill=false then
   some (decide (v1202 > 1))
  else
  some false
  )>>=fun (v1211:Bool) =>
  (if v1211=true then
   idx p0 (W (v202+1))>>=fun v1213 =>
   idx p0 v202>>=fun v1214 =>
   some (W (v1213.offset - v1214.offset))
  else
  some 0
  )>>=fun (v1212:Int) =>
  app 48 v201 ([(⟨v202,v1202,v1206.fill,v1207,v1208,v1212⟩:Qk)]:List Qk)>>=fun v1215 =>
  ZW (p0,v1215,(W (v202+v1202)))
 else
 some v201
 partial_fixpoint
theorem Jw:∀ x r,ZW x=some r→match x with|(p0,v201,v202)=>LQ f40 40 [1,1,0,1,0,0] 1 ⟨kp 80 [(0,(YT p0)),(3,(X9 v201)),(4,(Qd v202))],[(.tok 126 v201.length)]⟩ (P1 (.exit 0) (fun v601 d=>⟨sl d 80 [(3,(X9 v601))],[(.tok 126 v601.length)]⟩) r):=by
 refine ZW.partial_correctness _ (fun ZW Jw x r hm=>?_);obtain ⟨p0,v201,v202⟩:=x
 exact lp (Qj (gr 2 (QR Qg.toD p0 (re 1 (ri hm (fun hm=>Qp (Qo (ge 1 (Qj (Qo (ru1 hm (Jx _) fun v1202 d hm=>gr 4 (QA 3 Qg.toD hm fun v1206 hm=>re 5 (Qj (ge 3 (bi2 hm fun v1207 v1208 hs hm=>Zq (fun d=>⟨sl d 80 [(0,(YT p0)),(3,(X9 v201)),(4,(Qd v202)),(5,(Qd v1202)),(6,(.ptr 1 0))],[(.tok 126 v201.length),(.box [(Qd v202),(Qd v1202),(Qq v1206.fill),(Qd v1207),(Qd v1208),(Qd 0)])]⟩) (have hm:=hs;rin hm (fun hm=>gr 2 (QA 3 Qg.toD hm fun v1209 hm=>re 4 (R_G (Qf 2 (QA 3 Qg.toD hm fun v1210 hm=>re 4 zf))))) (fun hm=>Qp zf)) (fun d=>Qj (Qj (bi hm fun v1211 hs hm=>Zq (fun d=>⟨sl d 80 [(0,(YT p0)),(3,(X9 v201)),(4,(Qd v202)),(5,(Qd v1202)),(6,(.ptr 1 0)),(58,(Qq v1211))],[(.tok 126 v201.length),(.box [(Qd v202),(Qd v1202),(Qq v1206.fill),(Qd v1207),(Qd v1208),(Qd 0)])]⟩) (have hm:=hs;R_G (Qf 4 (gsn 55 hm (fun hm=>re 3 zf) (fun hm=>re 3 zf)))) (fun d=>bi hm fun v1212 hs hm=>Zq (fun d=>⟨sl d 80 [(0,(YT p0)),(3,(X9 v201)),(4,(Qd v202)),(5,(Qd v1202)),(6,(.ptr 1 0))],[(.tok 126 v201.length),(.box [(Qd v202),(Qd v1202),(Qq v1206.fill),(Qd v1207),(Qd v1208),(Qd v1212)])]⟩) (have hm:=hs;rib hm (fun hm=>Ya (Qf 3 (QA 3 Qg.toD hm fun v1213 hm=>Qf 4 (QA 3 Qg.toD hm fun v1214 hm=>re 5 ⟨kr,zf⟩)))) (fun hm=>Qp zf)) (fun d=>gr 3 (bi hm fun v1215 hx hm=>YP 126 6 48 0 Qk.toD v201 ([(⟨v202,v1202,v1206.fill,v1207,v1208,v1212⟩:Qk)]:List Qk) v1215 (xs:=(List.map Qk.toD) v201) (es:=(List.map Qk.toD) ([(⟨v202,v1202,v1206.fill,v1207,v1208,v1212⟩:Qk)]:List Qk)) (L:=(List.map Qk.toD)) y8 rfl rfl Qk.fit hx (re 1 (R_G (re 4 (Jw _ _ hm _ kr)))))))))))))))))))) (fun hm=>QC zf))))))
def Xp (x:(List Qg)):Option (List Qk) :=
 match x with
 | p0 =>
 ZW (p0,([]:List Qk),0)>>=fun v601 =>
 some v601
theorem QaU {p0 r0} (hm:Xp p0=some r0):FQ 40 [(.lst ((List.map Qg.toD) p0))] (Yt r0):=by
 unfold Xp at hm;exact fp (fn:=f40) rfl (ge 1 (ge 1 (Qj (ge 1 (Qo (ru1 hm (Jw _) fun v601 d hm=>ge 2 (Qs zf)))))))
def Zg (x:((List Qk) × Int × Int)):Option (Int) :=
 match x with
 | (p0,v201,v202) =>
 if v202 < (p0.length:Int) then
  idx p0 v202>>=fun v602 =>
  Zg (p0,(W (v201+v602.len)),(W (v202+1)))
 else
 some v201
 partial_fixpoint
theorem XY:∀ x r,Zg x=some r→match x with|(p0,v201,v202)=>LQ f87 87 [1,1,0,1,0,0] 0 ⟨kp 19 [(0,(Yt p0)),(3,(Qd v201)),(4,(Qd v202))],[]⟩ (P1 (.exit 0) (fun v601 d=>⟨sl d 19 [(3,(Qd v601))],[]⟩) r):=by
 refine Zg.partial_correctness _ (fun Zg XY x r hm=>?_);obtain ⟨p0,v201,v202⟩:=x;exact lp (Qj (gr 2 (QR Qk.toD p0 (re 1 (ri hm (fun hm=>Qp (Qj (Qo (R_G (Qf 3 (QA 6 Qk.toD hm fun v602 hm=>re 4 (R_G (re 3 (XY _ _ hm _ kr))))))))) (fun hm=>QC zf))))))
def Yn (x:(List Qk)):Option Int :=
 match x with
 | p0 =>
 Zg (p0,0,0)>>=fun v601 =>
 some v601
theorem Qax {p0 r0} (hm:Yn p0=some r0):FQ 87 [(.lst ((List.map Qk.toD) p0))] (Qd r0):=by
 unfold Yn at hm;exact fp (fn:=f87) rfl (ge 1 (ge 1 (Qj (ge 1 (Qo (ru1 hm (XY _) fun v601 d hm=>ge 2 (Qs zf)))))))
def YL (x:((List Int) × Qm)):Option (List Qb) :=
 match x with
 | (p0,p1) =>
 makeM 8 (p0.length:Int) 0>>=fun v1 =>
 some ([(⟨(⟨v1,p0⟩:Qi),p1⟩:Qb)]:List Qb)
theorem JX {p0 p1 r0} (hm:YL (p0,p1)=some r0):FQ 88 [(Lb p0),(Qm.toD p1)] (Qu r0):=by
 unfold YL at hm;exact fp (fn:=f88) rfl (ge 2 (Qj (Ya (Qf 1 (QR Qh p0 (bi hm fun v1 hx hm=>Zi (v:=.dat (.lst (List.map Qh v1))) rfl (by intro K hk; exact Qbs Qh (z:=0) (n:=(p0.length:Int)) (bytes:=8) (j:=8000) (e':=3) (os:=[]) hx (e:=3) kr kr kr kr rfl rfl kr kr kr hk) (re 6 ⟨kr,Qs zf⟩)))))))
def QM (x:((List Int) × Nat × (List Int) × Int × Int × Int)):Option (Int) :=
 match x with
 | (q0,v202,v203,v204,v806,v807) =>
 (if v807 < (q0.length:Int) then
  some (decide (v806 > 0))
 else
 some false
 )>>=fun (v1207:Bool) =>
 if v1207=true then
  idx q0 v807>>=fun v1208 =>
  QM (q0,v202,v203,v204,(W (v806 * v1208)),(W (v807+1)))
 else
 some v806
 partial_fixpoint
theorem Yq:∀ x r,QM x=some r→match x with|(q0,v202,v203,v204,v806,v807)=>LQ f126 126 [1,1,1,0,1,0,0,1,0,0,1,1,0,1,0,0] 1 ⟨kp 42 [(0,(La q0)),(3,(.ms 0 v202 0 v203.length v203.length)),(4,(Qd v204)),(5,(Qd v806)),(6,(Qd v807))],[(ZZ v202 v203)]⟩ (P1 (.exit 2) (fun v1206 d=>⟨sl d 42 [(0,(La q0)),(3,(.ms 0 v202 0 v203.length v203.length)),(4,(Qd v204)),(5,(Qd v1206))],[(ZZ v202 v203)]⟩) r):=by
 refine QM.partial_correctness _ (fun QM Yq x r hm=>?_);obtain ⟨q0,v202,v203,v204,v806,v807⟩:=x;exact lp (Qj (Qj (bi hm fun v1207 hs hm=>Zq (fun d=>⟨sl d 42 [(0,(La q0)),(3,(.ms 0 v202 0 v203.length v203.length)),(4,(Qd v204)),(5,(Qd v806)),(6,(Qd v807)),(28,(Qq v1207))],[(ZZ v202 v203)]⟩) (have hm:=hs;R_G (Qf 2 (QR Qh q0 (Qf 2 (gs 25 hm (fun hm=>re 3 zf) (fun hm=>re 3 zf)))))) (fun d=>rib hm (fun hm=>Qp (Qj (Qo (R_G (Qf 3 (QA 1 Qh hm fun v1208 hm=>re 3 (R_G (re 3 (Yq _ _ hm _ (prune_of2 [(ZZ v202 v203)] (fun _=>(pg_cons (purge_mt Qh _ _ _ _ _) pg_nil)) rfl)))))))))) (fun hm=>QC zf)))))
def QF (x:((List Int) × Nat × (List Int) × Int)):Option ((Nat × (List Int))) :=
 match x with
 | (q0,v202,v203,v204) =>
 if v204 < (q0.length:Int) then
  Zs q0>>=fun v604 =>
  (if v604=0 then
   some 0
  else
  some 1
  )>>=fun (v605:Int) =>
  QM (q0,v202,v203,v204,v605,(W (v204+1)))>>=fun v1206 =>
  app 8 v203 ([v1206]:List Int)>>=fun v1209 =>
  QF (q0,(gb v202 ([v1206]:List Int).isEmpty),v1209,(W (v204+1)))
 else
 some (v202,v203)
 partial_fixpoint
theorem Yp:∀ x r,QF x=some r→match x with|(q0,v202,v203,v204)=>LQ f126 126 [1,1,1,0,1,0,0] 1 ⟨kp 42 [(0,(La q0)),(3,(.ms 0 v202 0 v203.length v203.length)),(4,(Qd v204))],[(ZZ v202 v203)]⟩ (P1 (.exit 0) (fun (v602,v603) d=>⟨sl d 42 [(3,(.ms 0 v602 0 v603.length v603.length))],[(ZZ v602 v603)]⟩) r):=by
 refine QF.partial_correctness _ (fun QF Yp x r hm=>?_);obtain ⟨q0,v202,v203,v204⟩:=x
 exact lp (Qj (gr 2 (QR Qh q0 (re 1 (ri hm (fun hm=>Qp (Qj (Qo (ge 1 (Qj (gr 1 (bi hm fun v604 hx hm=>cp (Xk hx) (re 1 (bi hm fun v605 hs hm=>Zq (fun d=>⟨sl d 42 [(0,(La q0)),(3,(.ms 0 v202 0 v203.length v203.length)),(4,(Qd v204)),(5,(Qd v605))],[(ZZ v202 v203)]⟩) (have hm:=hs;riq hm (fun hm=>R_G (re 1 zf)) (fun hm=>Qp zf)) (fun d=>Qj (ge 3 (Qo (ru1 hm (Yq _) (fun v1206 d hm=>R_G (Qf 3 (bi hm fun v1209 hx hm=>YM (v:=.ms 0 (gb v202 ([v1206]:List Int).isEmpty) 0 v1209.length v1209.length) (fun H=>H.set 0 (J2 v202 v1206 v1209)) rfl kr (fun _ hk=>Qaz Qh (l:=v203) (es:=([v1206]:List Int)) (bytes:=8) (e:=3) (tt:=0) (g:=v202) (m:=v203.length) hx y8 kr kr kr kr rfl rfl kr rfl kr kr hk) (re 1 (R_G (re 3 (Yp _ _ hm _ (prune_of2 [(J2 v202 v1206 v1209)] (fun _=>(pg_cons (purge_mt Qh _ _ _ _ _) pg_nil)) rfl)))))))) (hst:=(prune_of2 [(ZZ v202 v203)] (fun _=>(pg_cons (purge_mt Qh _ _ _ _ _) pg_nil)) rfl))))))))))))))) (fun hm=>QC zf))))))
def ZS (x:(List Int)):Option ((Nat × (List Int))) :=
 match x with
 | q0 =>
 ZU q0>>=fun v1 =>
 if v1≠0 then
  some (0,([]:List Int))
 else
 QF (q0,0,([]:List Int),0)>>=fun (v602,v603) =>
 some (v602,v603)
theorem JJ {q0 v5001 v5002} (hm:ZS q0=some (v5001,v5002)):PC prog env 126 [(La q0)] [] (.ms 0 v5001 0 v5002.length v5002.length) [(ZZ v5001 v5002)]:=by
 unfold ZS at hm;exact PC_sxB (fn:=f126) rfl (ge 1 (Qj (gr 1 (bi hm fun v1 hx hm=>cp (Xl hx) (re 1 (rix hm (fun hm=>ge 1 (Qs zf)) (fun hm=>Qp (ge 1 (Qj (ge 1 (Qo (ru1 hm (Yp _) (fun ⟨v602,v603⟩ d hm=>ge 2 (Qs zf)) (hst:=(prune_of2 [JA] (fun _=>(pg_cons (purge_mt Qh _ _ _ _ _) pg_nil)) rfl))))))))))))))
def Zp (x:((List Int) × Int × (List Int) × Int)):Option ((List Int)) :=
 match x with
 | (v2,p1,v203,v204) =>
 if v204 < (v2.length:Int) then
  ZY (v203.length=v2.length)>>=fun _ =>
  idx v203 v204>>=fun v604 =>
  idx v203 v204>>=fun v606 =>
  ZY (v203.length=v2.length)>>=fun _ =>
  idx v203 v204>>=fun v607 =>
  setM v203 v204 (W (v606 * p1))>>=fun v609 =>
  Zp (v2,p1,v609,(W (v204+1)))
 else
 some v203
 partial_fixpoint
theorem XN:∀ x r,Zp x=some r→match x with|(v2,p1,v203,v204)=>LQ f89 89 [1,1,0,1,0,0] 1 ⟨kp 25 [(1,(Qd p1)),(5,(.ms 0 1 0 v2.length v2.length)),(6,(Qd v204))],[(JP v203)]⟩ (P1 (.exit 0) (fun v603 d=>⟨sl d 25 [(5,(.ms 0 1 0 v2.length v2.length))],[(JP v603)]⟩) r):=by
 refine Zp.partial_correctness _ (fun Zp XN x r hm=>?_);obtain ⟨v2,p1,v203,v204⟩:=x
 exact lp (Qj (gr 2 (Qf 1 (re 1 (ri hm (fun hm=>Qp (Qj (Qo (R_G (Qf 4 (gi hm fun hl605 hm=>bi hm fun v604 hx hm=>Zi rfl (fun _=>Y3 (e:=3) (n:=v204) (j:=(v204).toNat) (tt:=0) (g:=1) (lo:=0) (len:=v2.length) (cap:=v2.length) (k:=.i64) kr kr rfl kr kr (idx_nat hx) (z6 (idx_lt hx) hl605)) (bi hm fun v606 hx hm=>Zi rfl (fun _=>JZ (tt:=0) (g:=1) (j:=(0+(v204).toNat)) (e:=3) (cs:=cellsOf Qh v203) (v:=.dat (Qh v606)) kr kr rfl kr (Jq kr) (cells_idx Qh hx)) (Qf 2 (gi hm fun hl608 hm=>bi hm fun v607 hx hm=>Zi rfl (fun _=>Y3 (e:=3) (n:=v204) (j:=(v204).toNat) (tt:=0) (g:=1) (lo:=0) (len:=v2.length) (cap:=v2.length) (k:=.i64) kr kr rfl kr kr (idx_nat hx) (z6 (idx_lt hx) hl608)) (bi hm fun v609 hx hm=>YM (fun H=>H.set 0 (JP v609)) rfl kr (fun _=>J6 Qh (l:=v203) (n:=v204) (y:=(W (v606 * p1))) hx y8 kr rfl kr kr kr kr) (Jh (R_G (re 3 (XN _ _ hm _ (prune_of2 [(JP v609)] (fun _=>(pg_cons (purge_mt Qh _ _ _ _ _) pg_nil)) rfl))))))))))))))) (fun hm=>QC zf))))))
def Yx (x:((List Int) × Int)):Option (List Int) :=
 match x with
 | (p0,p1) =>
 ZS p0>>=fun (v1,v2) =>
 Zp (v2,p1,v2,0)>>=fun v603 =>
 ZY (v603.length=v2.length)>>=fun _ =>
 some v603
theorem JS {p0 p1 r0} (hm:Yx (p0,p1)=some r0):FQ 89 [(Lb p0),(Qh p1)] (La r0):=by
 unfold Yx at hm;exact fp (fn:=f89) rfl (ge 1 (gr 1 (bi2 hm fun v1 v2 hx hm=>go 0 3 Qh (ds:=[(Lb p0)]) (JJ hx) (re 1 (Qj (ge 1 (Qo (ru1 hm (XN _) (fun v603 d hm=>ge 2 (Qs (gi hm fun hl610 hm=>(by obtain rfl:=Qbj hm; exact ⟨trivial,JT [(.ms 0 1 0 v2.length v2.length)] kr (po_ms (pc_ms (e:=3) Qh v603 hl610 y8 kr))⟩)))) (hst:=(prune_of2 [(JP v2)] (fun _=>(pg_cons (purge_mt Qh _ _ _ _ _) pg_nil)) rfl))))))))))
def ZR (x:((List Qk) × Int × Int)):Option (Int ⊕ Unit) :=
 match x with
 | (p0,p1,v201) =>
 if v201 < (p0.length:Int) then
  (idx p0 v201>>=fun v603 =>
  if p1≥v603.at0_ then
   idx p0 v201>>=fun v604 =>
   idx p0 v201>>=fun v605 =>
   some (decide (p1 < (W (v604.at0_+v605.len))))
  else
  some false
  )>>=fun (v602:Bool) =>
  if v602=true then
   some (Sum.inl v201)
  else
  ZR (p0,p1,(W (v201+1)))
 else
 some (Sum.inr ())
 partial_fixpoint
theorem Jf:∀ x r,ZR x=some r→match x with|(p0,p1,v201)=>LQ f90 90 [1,0,1,0,0] 0 ⟨kp 35 [(0,(Yt p0)),(1,(Qd p1)),(5,(Qd v201))],[]⟩ (P2 .ret (fun v601 d=>⟨sl d 35 [(4,(Qd v601))],[]⟩) (.exit 0) (fun _ d=>⟨sl d 35 [],[]⟩) r):=by
 refine ZR.partial_correctness _ (fun ZR Jf x r hm=>?_);obtain ⟨p0,p1,v201⟩:=x;exact lp (Qj (gr 2 (QR Qk.toD p0 (re 1 (ri hm (fun hm=>Qp (Qj (Qo (Qj (bi hm fun v602 hs hm=>Zq (fun d=>⟨sl d 35 [(0,(Yt p0)),(1,(Qd p1)),(5,(Qd v201)),(33,(Qq v602))],[]⟩) (have hm:=hs;Ya (Qf 3 (QA 6 Qk.toD hm fun v603 hm=>Qf 4 (gs 19 hm (fun hm=>Qf 3 (QA 6 Qk.toD hm fun v604 hm=>Qf 4 (QA 6 Qk.toD hm fun v605 hm=>re 5 ⟨kr,zf⟩))) (fun hm=>re 14 ⟨kr,zf⟩))))) (fun d=>rib hm (fun hm=>ge 2 (Qs zf)) (fun hm=>Qp (R_G (re 3 (Jf _ _ hm _ kr)))))))))) (fun hm=>QC zf))))))
def Yf (x:((List Qk) × Int)):Option Int :=
 match x with
 | (p0,p1) =>
 (
 ZR (p0,p1,0)>>=fun out =>
 match out with
 | .inl v601 =>
  some v601
 | .inr (_) =>
  some (-1)
 )
theorem J5 {p0 p1 r0} (hm:Yf (p0,p1)=some r0):FQ 90 [(.lst ((List.map Qk.toD) p0)),(Qh p1)] (Qd r0):=by
 unfold Yf at hm;exact fp (fn:=f90) rfl (ge 1 (Qj (ge 1 (Qo (ru2 hm (Jf _) (fun v601 d hm=>zf) fun _ d hm=>ge 1 (Qs zf))))))
def Q1 (x:((List Int) × (List (List Int)) × Int × (List Qk) × Int × Nat × (List Qb) × Int × Int × (List Int) × (List Int) × Nat × (List Int) × Int)):Option ((Nat × (List Int))) :=
 match x with
 | (p1,v20,v226,p0,v2,v223,v225,v626,v627,v222,v641,v843,v844,v845) =>
 if v845 < (p1.length:Int) then
  idx v20 v226>>=fun v1245 =>
  idx v1245 v845>>=fun v1246 =>
  app 8 v844 ([(W (v1246+1))]:List Int)>>=fun v1247 =>
  Q1 (p1,v20,v226,p0,v2,v223,v225,v626,v627,v222,v641,(gb v843 ([(W (v1246+1))]:List Int).isEmpty),v1247,(W (v845+1)))
 else
 some (v843,v844)
 partial_fixpoint
theorem XM:∀ x r,Q1 x=some r→match x with|(p1,v20,v226,p0,v2,v223,v225,v626,v627,v222,v641,v843,v844,v845)=>LQ f39 39 [1,1,1,1,1,1,1,1,0,1,0,0,1,0,0,1,1,1,1,1,0,1,0,0] 4 ⟨kp 231 [(0,(Yt p0)),(1,(La p1)),(5,(Qd v2)),(7,(.ms 1 v223 0 v225.length v225.length)),(8,(QK v20)),(9,(Qd (W ((p1.length:Int) - 1)))),(10,(Qd v226)),(11,(Qd v626)),(12,(Qd v627)),(14,(.ptr 2 0)),(15,(Qd v845))],[(ZZ v843 v844),(JO v223 v225 v222),(JQ v641 v843 v844.length),(.tok 3 (([]:List Int).length))]⟩ (P1 (.exit 2) (fun (v1243,v1244) d=>⟨sl d 231 [(0,(Yt p0)),(1,(La p1)),(5,(Qd v2)),(7,(.ms 1 v223 0 v225.length v225.length)),(8,(QK v20)),(9,(Qd (W ((p1.length:Int) - 1)))),(10,(Qd v226)),(11,(Qd v626)),(12,(Qd v627)),(14,(.ptr 2 0))],[(ZZ v1243 v1244),(JO v223 v225 v222),(JQ v641 v1243 v1244.length),(.tok 3 (([]:List Int).length))]⟩) r):=by
 refine Q1.partial_correctness _ (fun Q1 XM x r hm=>?_);obtain ⟨p1,v20,v226,p0,v2,v223,v225,v626,v627,v222,v641,v843,v844,v845⟩:=x
 exact lp (Qj (gr 2 (QR Qh p1 (re 1 (ri hm (fun hm=>Qp (Qj (Qo (Ya (Qf 4 (bi hm fun v1245 hx hm=>Xw 1 (fun l=>Dat.lst ((List.map Qh) l)) v20 v226 v1245 (es:=(List.map (fun l=>Dat.lst ((List.map Qh) l))) v20) (d:=(Lb v1245)) rfl hx rfl rfl (Qf 2 (QA 1 Qh hm fun v1246 hm=>Qf 3 (bi hm fun v1247 hx hm=>YM (v:=.ms 0 (gb v843 ([(W (v1246+1))]:List Int).isEmpty) 0 v1247.length v1247.length) (fun H=>H.set 0 (.mt 3 (gb v843 ([(W (v1246+1))]:List Int).isEmpty) (cellsOf Qh v1247))) rfl kr (fun _ hk=>Qaz Qh (l:=v844) (es:=([(W (v1246+1))]:List Int)) (bytes:=8) (e:=3) (tt:=0) (g:=v843) (m:=v844.length) hx y8 kr kr kr kr rfl rfl kr rfl kr kr hk) (re 2 ⟨kr,R_G (re 3 (XM _ _ hm _ (prune_of2 [(.mt 3 (gb v843 ([(W (v1246+1))]:List Int).isEmpty) (cellsOf Qh v1247)),(JO v223 v225 v222),(.box [(La v641),(.ms 0 (gb v843 ([(W (v1246+1))]:List Int).isEmpty) 0 v1247.length v1247.length)]),(.tok 3 (([]:List Int).length))] (fun _=>(pg_cons (purge_mt Qh _ _ _ _ _) (pg_cons (purge_flA _ _ _ _ _ _) (pg_cons kr (pg_cons kr pg_nil))))) rfl)))⟩)))))))))) (fun hm=>QC zf))))))
def Qt (x:((List (List Int)) × Int × (List Qk) × (List Int) × Nat × (List Int) × Nat × Nat × (List Qb) × Int)):Option ((Nat × (List Int) × Nat × Nat × (List Qb))) :=
 match x with
 | (v20,v2,p0,p1,v221,v222,v223,v224,v225,v226) =>
 if v226 < (v20.length:Int) then
  remM v226 v2>>=fun v626 =>
  Yf (p0,v626)>>=fun v627 =>
  ((if (W ((p1.length:Int) - 1)) < 0 then
   some true
  else
  idx v20 v226>>=fun v630 =>
  idx v630 (W ((p1.length:Int) - 1))>>=fun v631 =>
  some (v631 == 0)
  )>>=fun (v629:Bool) =>
  (if v629=true then
   some true
  else
  some (v626 == 0)
  )>>=fun (v632:Bool) =>
  if v632=true then
   some true
  else
  Yf (p0,(W (v626 - 1)))>>=fun v633 =>
  some (v633 != v627)
  )>>=fun (v628:Bool) =>
  if v628=false then
   ZY (0 < v225.length∧v225.length≤4611686018427387904)>>=fun _ =>
   ZY (v222.length=v224)>>=fun _ =>
   idx v222 (W ((p1.length:Int) - 1))>>=fun v635 =>
   idx v222 (W ((p1.length:Int) - 1))>>=fun v637 =>
   ZY (v222.length=v224)>>=fun _ =>
   idx v222 (W ((p1.length:Int) - 1))>>=fun v638 =>
   setM v222 (W ((p1.length:Int) - 1)) (W (v637+1))>>=fun v640 =>
   Qt (v20,v2,p0,p1,v221,v640,v223,v224,v225,(W (v226+1)))
  else
  idx v20 v226>>=fun v641 =>
  ZY (v222.length=v224)>>=fun _ =>
  Q1 (p1,v20,v226,p0,v2,v223,v225,v626,v627,v222,v641,(flg v221 v225+1),([]:List Int),0)>>=fun (v1243,v1244) =>
  idx p0 v627>>=fun v1248 =>
  if v1248.fill=false then
   idx p0 v627>>=fun v1249 =>
   idx p0 v627>>=fun v1250 =>
   idx p0 v627>>=fun v1251 =>
   idx p0 v627>>=fun v1252 =>
   makeM 8 (p1.length:Int) 0>>=fun v1253 =>
   (if (W ((p1.length:Int) - 1))≥0 then
    idx p0 v627>>=fun v1256 =>
    idx v1253 (W ((p1.length:Int) - 1))>>=fun v1257 =>
    setM v1253 (W ((p1.length:Int) - 1)) v1256.step>>=fun v1258 =>
    idx p0 v627>>=fun v1259 =>
    idx v20 v226>>=fun v1260 =>
    idx v1260 (W ((p1.length:Int) - 1))>>=fun v1261 =>
    some (v1258,(W ((W (v1250.offset+(W ((W (v626 - v1251.at0_)) * v1252.step)))) - (W (v1259.step * v1261)))))
   else
   some (v1253,(W (v1250.offset+(W ((W (v626 - v1251.at0_)) * v1252.step)))))
   )>>=fun ((v1254,v1255):((List Int) × Int)) =>
   ZY (v1254.length=v1253.length)>>=fun _ =>
   flap 120 (fun (p_:Qb) (h_:List Int)=>(⟨⟨p_.box.lo,h_⟩,p_.access⟩:Qb)) v225 v222 (⟨(⟨v641,v1244⟩:Qi),(⟨2,v1249.buffer,v1255,v1254,0,0,0⟩:Qm)⟩:Qb)>>=fun v1263 =>
   Qt (v20,v2,p0,p1,v1243,v1244,(v223+1),v1244.length,v1263,(W (v226+1)))
  else
  flap 120 (fun (p_:Qb) (h_:List Int)=>(⟨⟨p_.box.lo,h_⟩,p_.access⟩:Qb)) v225 v222 (⟨(⟨v641,v1244⟩:Qi),(⟨1,0,0,([]:(List Int)),0,0,0⟩:Qm)⟩:Qb)>>=fun v1264 =>
  Qt (v20,v2,p0,p1,v1243,v1244,(v223+1),v1244.length,v1264,(W (v226+1)))
 else
 some (v221,v222,v223,v224,v225)
 partial_fixpoint
theorem Yj:∀ x r,Qt x=some r→match x with|(v20,v2,p0,p1,v221,v222,v223,v224,v225,v226)=>LQ f39 39 [1,1,1,1,1,1,1,1,0,1,0,0] 2 ⟨kp 231 [(0,(Yt p0)),(1,(La p1)),(5,(Qd v2)),(7,(.ms 1 v223 0 v225.length v225.length)),(8,(QK v20)),(9,(Qd (W ((p1.length:Int) - 1)))),(10,(Qd v226))],(JC v221 v222 v223 v224 v225)⟩ (P1 (.exit 0) (fun (v621,v622,v623,v624,v625) d=>⟨sl d 231 [(7,(.ms 1 v623 0 v625.length v625.length))],(JC v621 v622 v623 v624 v625)⟩) r):=by
 refine Qt.partial_correctness _ (fun Qt Yj x r hm=>?_);obtain ⟨v20,v2,p0,p1,v221,v222,v223,v224,v225,v226⟩:=x
 exact lp (Qj (gr 2 (JH (fun l=>Dat.lst ((List.map Qh) l)) v20 (es:=(List.map (fun l=>Dat.lst ((List.map Qh) l))) v20) rfl (re 1 (ri hm (fun hm=>Qp (Qj (Qo (gr 2 (bi hm fun v626 hx hm=>Zi rfl (fun _=>Qbw (a:=v226) (b:=v2) hx rfl kr kr) (re 1 (gr 2 (bi hm fun v627 hx hm=>cp (J5 hx) (re 1 (Qj (bi hm fun v628 hs hm=>Zq (fun d=>⟨sl d 231 [(0,(Yt p0)),(1,(La p1)),(5,(Qd v2)),(7,(.ms 1 v223 0 v225.length v225.length)),(8,(QK v20)),(9,(Qd (W ((p1.length:Int) - 1)))),(10,(Qd v226)),(11,(Qd v626)),(12,(Qd v627)),(13,(Qq v628))],(JC v221 v222 v223 v224 v225)⟩) (have hm:=hs;QaR (Qf 3 (bi hm fun v629 hs hm=>Xc (j:=12) (fun d=>⟨sl d 231 [(0,(Yt p0)),(1,(La p1)),(5,(Qd v2)),(7,(.ms 1 v223 0 v225.length v225.length)),(8,(QK v20)),(9,(Qd (W ((p1.length:Int) - 1)))),(10,(Qd v226)),(11,(Qd v626)),(12,(Qd v627)),(109,(Qq v629))],(JC v221 v222 v223 v224 v225)⟩) (fun d=>Qf 1 (bi hm fun v632 hs hm=>Xc (j:=16) (fun d=>⟨sl d 231 [(0,(Yt p0)),(1,(La p1)),(5,(Qd v2)),(7,(.ms 1 v223 0 v225.length v225.length)),(8,(QK v20)),(9,(Qd (W ((p1.length:Int) - 1)))),(10,(Qd v226)),(11,(Qd v626)),(12,(Qd v627)),(113,(Qq v632))],(JC v221 v222 v223 v224 v225)⟩) (fun d=>Qf 1 (gsb 114 hm (fun hm=>re 8 ⟨kr,zf⟩) (fun hm=>Qf 3 (bi hm fun v633 hx hm=>cp (J5 hx) (re 4 ⟨kr,zf⟩))))) (fun hJ=>gsb 110 hs (fun hm=>Qf 3 zf) (fun hm=>Qf 3 zf)))) (fun hJ=>gs 100 hs (fun hm=>Qf 9 zf) (fun hm=>Qf 2 (bi hm fun v630 hx hm=>Xw 1 (fun l=>Dat.lst ((List.map Qh) l)) v20 v226 v630 (es:=(List.map (fun l=>Dat.lst ((List.map Qh) l))) v20) (d:=(Lb v630)) rfl hx rfl rfl (Qf 2 (QA 1 Qh hm fun v631 hm=>Qf 3 zf)))))))) (fun d=>Qj (ge 2 (rin hm (fun hm=>Qj (Qbd [(5,[1]),(6,[1])] (GF_seg 5 (Qf 2 (Qf 1 (Qf 1 (gi hm fun hl634 hm=>Zi rfl (fun _=>Qa3 (e:=83) (size:=9) (l:=v225.length) (m:=v225.length) (tt:=1) (gg:=v223) hl634 rfl rfl kr kr kr kr) (Jh (GF_op rfl rfl rfl (fl_field (tt:=1) (gg:=v223) (j:=(0+stepN 9 (v225.length - 1))) (w:=0) (e:=83) (cs:=flC Qb.toD 1 0 v221 v224 v225) rfl kr kr kr) (GF_op rfl rfl rfl (fl_field (tt:=1) (gg:=v223) (j:=((0+stepN 9 (v225.length - 1))+0)) (w:=1) (e:=83) (cs:=flC Qb.toD 1 0 v221 v224 v225) rfl kr kr kr) (GF_seg 14 (Zi rfl (fun _=>Qbq (tt:=1) (te:=83) (gg:=v223) (g:=v221) (n:=v224) (out:=v225) (l:=v225.length) (size:=9) (q:=1) (a:=0+1) (j:=(((0+stepN 9 (v225.length - 1))+0)+1)) Qb.fit hl634 rfl kr (Nat.add_assoc _ _ _) rfl kr rfl kr kr kr kr) (Qf 1 (gi hm fun hl636 hm=>bi hm fun v635 hx hm=>Zi rfl (fun _=>Y3 (e:=3) (n:=(W ((p1.length:Int) - 1))) (j:=((W ((p1.length:Int) - 1))).toNat) (tt:=0) (g:=v221) (lo:=0) (len:=v224) (cap:=v224) (k:=.i64) kr kr rfl kr kr (idx_nat hx) (z6 (idx_lt hx) hl636)) (bi hm fun v637 hx hm=>Zi rfl (fun _=>JZ (tt:=0) (g:=v221) (j:=(0+((W ((p1.length:Int) - 1))).toNat)) (e:=3) (cs:=cellsOf Qh v222) (v:=.dat (Qh v637)) kr kr rfl kr (Jq kr) (cells_idx Qh hx)) (Qf 1 (gi hm fun hl639 hm=>bi hm fun v638 hx hm=>Zi rfl (fun _=>Y3 (e:=3) (n:=(W ((p1.length:Int) - 1))) (j:=((W ((p1.length:Int) - 1))).toNat) (tt:=0) (g:=v221) (lo:=0) (len:=v224) (cap:=v224) (k:=.i64) kr kr rfl kr kr (idx_nat hx) (z6 (idx_lt hx) hl639)) (bi hm fun v640 hx hm=>YM (fun H=>H.set 0 (ZZ v221 v640)) rfl kr (fun _=>J6 Qh (l:=v222) (n:=(W ((p1.length:Int) - 1))) (y:=(W (v637+1))) hx y8 kr rfl kr kr kr kr) (Jh (GF_end (QC (R_G (re 3 (Yj _ _ hm _ (prune_of2 (JC v221 v640 v223 v224 v225) (fun _=>(pg_cons (purge_mt Qh _ _ _ _ _) (pg_cons (purge_fl _ _ _ _ _ (Nat.succ_pos _) _) pg_nil))) rfl))))))))))))))))))))))))) (fun hm=>Qp (Qj (Qbd [(4,[2,1,0,1])] (GF_seg 4 (Qf 2 (bi hm fun v641 hx hm=>Xw 1 (fun l=>Dat.lst ((List.map Qh) l)) v20 v226 v641 (es:=(List.map (fun l=>Dat.lst ((List.map Qh) l))) v20) (d:=(Lb v641)) rfl hx rfl rfl (re 1 (gi hm fun hl642 hm=>GF_op rfl rfl rfl (fl_restart (sh:=(fun (p_:Qb) (h_:List Int)=>(⟨⟨p_.box.lo,h_⟩,p_.access⟩:Qb))) (ei:=3) (te:=83) (g0:=v221) (g1:=v223) (out:=v225) (hi:=v222) (n:=v224) (q:=1) (rest:=[]) (cs:=[(La v641),Ea]) Qb.fit (fun _ _=>rfl) hl642 rfl kr kr kr) (GF_seg 7 (re 2 (GF_end (Qj (ge 1 (Qo (ru1 hm (XM _) (fun ⟨v1243,v1244⟩ d hm=>ge 3 (Qj (gr 2 (QA 6 Qk.toD hm fun v1248 hm=>re 3 (rin hm (fun hm=>Qj (Ya (Qf 2 (QA 6 Qk.toD hm fun v1249 hm=>Qf 4 (QA 6 Qk.toD hm fun v1250 hm=>Qf 5 (QA 6 Qk.toD hm fun v1251 hm=>Qf 5 (QA 6 Qk.toD hm fun v1252 hm=>Qf 5 (QR Qh p1 (bi hm fun v1253 hx hm=>YM (v:=.ms 6 (mg v1253) 0 v1253.length v1253.length) (fun H=>H++[.mt 3 (mg v1253) (cellsOf Qh v1253)]) rfl kr (by intro K hk; exact Qbt 6 Qh (z:=0) (n:=(p1.length:Int)) (bytes:=8) (e:=3) (os:=[]) hx kr kr kr kr rfl rfl rfl kr kr kr hk) (re 2 ⟨kr,ge 2 (bi2 hm fun v1254 v1255 hs hm=>Zq (fun d=>⟨sl d 231 [(0,(Yt p0)),(1,(La p1)),(5,(Qd v2)),(7,(.ms 1 v223 0 v225.length v225.length)),(8,(QK v20)),(9,(Qd (W ((p1.length:Int) - 1)))),(10,(Qd v226)),(14,(.ptr 2 0)),(16,(.ptr 5 0))],[(ZZ v1243 v1244),(JO v223 v225 v222),(JQ v641 v1243 v1244.length),(.tok 3 (([]:List Int).length)),(.tok 3 (([]:List Int).length)),(.box [(Qd 2),(Qd v1249.buffer),(Qd v1255),(.ms 6 (mg v1253) 0 v1253.length v1253.length),(Qd 0),(Qd 0),(Qd 0)]),(.mt 3 (mg v1253) (cellsOf Qh v1254))]⟩) (have hm:=hs;ri hm (fun hm=>Qj (Ya (Qf 5 (QA 6 Qk.toD hm fun v1256 hm=>Qf 2 (bi hm fun v1257 hx hm=>Zi rfl (fun _=>Y3 (e:=3) (n:=(W ((p1.length:Int) - 1))) (j:=((W ((p1.length:Int) - 1))).toNat) (tt:=6) (g:=(mg v1253)) (lo:=0) (len:=v1253.length) (cap:=v1253.length) (k:=.i64) kr kr rfl kr kr (idx_nat hx) (z6 (idx_lt hx) rfl)) (bi hm fun v1258 hx hm=>YM (fun H=>H.set 6 (.mt 3 (mg v1253) (cellsOf Qh v1258))) rfl kr (fun _=>J6 Qh (l:=v1253) (n:=(W ((p1.length:Int) - 1))) (y:=v1256.step) hx y8 kr rfl kr kr kr kr) (Jh ⟨kr,Ya (Qf 4 (QA 6 Qk.toD hm fun v1259 hm=>Qf 4 (bi hm fun v1260 hx hm=>Xw 1 (fun l=>Dat.lst ((List.map Qh) l)) v20 v226 v1260 (es:=(List.map (fun l=>Dat.lst ((List.map Qh) l))) v20) (d:=(Lb v1260)) rfl hx rfl rfl (Qf 2 (QA 1 Qh hm fun v1261 hm=>re 5 ⟨kr,zf⟩)))))⟩))))))) (fun hm=>Qp zf)) (fun d=>Qbd [(4,[3]),(5,[4])] (GF_seg 4 (Qf 2 (gi hm fun hl1262 hm=>YM (v:=(.dat (.agg [(Qh 2),(Qh v1249.buffer),(Qh v1255),(Lb v1254),(Qh 0),(Qh 0),(Qh 0)]))) (fun H=>(H.set 6 (.mt 3 ((mg v1253)+1) []))) rfl kr (fun _=>QaE (n:=7) (i:=5) (off:=0) (bs:=[(Qd 2),(Qd v1249.buffer),(Qd v1255),(.ms 6 (mg v1253) 0 v1253.length v1253.length),(Qd 0),(Qd 0),(Qd 0)]) (cs:=[(Qd 2),(Qd v1249.buffer),(Qd v1255),(.ms 6 (mg v1253) 0 v1253.length v1253.length),(Qd 0),(Qd 0),(Qd 0)]) rfl rfl kr kr kr kr kr rfl (cl_dat (cl_dat (cl_dat (cl_ms Qh y8 kr hl1262 (cl_dat (cl_dat (cl_dat cl_nil)))))))) (re 1 (GF_op rfl rfl rfl (fl_one (e:=83) (size:=9) (x:=.tmp 227) (cs:=[(La v641),(.ms 0 v1243 0 v1244.length v1244.length),(Qd 2),(Qd v1249.buffer),(Qd v1255),(La v1254),(Qd 0),(Qd 0),(Qd 0)]) rfl kr kr kr kr kr) (bi hm fun v1263 hx hm=>GF_op rfl rfl rfl (fl_append (sh:=(fun (p_:Qb) (h_:List Int)=>(⟨⟨p_.box.lo,h_⟩,p_.access⟩:Qb))) (out:=v225) (hi:=v222) (p:=(⟨(⟨v641,v1244⟩:Qi),(⟨2,v1249.buffer,v1255,v1254,0,0,0⟩:Qm)⟩:Qb)) (v:=v1263) (ei:=3) (te:=83) (bytes:=120) (gg:=v1243) (g1:=v223) (i:=7) (l:=v225.length) (hc:=cellsOf Qh v1244) (rest:=[(JQ v641 v1243 v1244.length),(.tok 3 (([]:List Int).length)),(.tok 3 (([]:List Int).length)),(.box [(Qd 2),(Qd v1249.buffer),(Qd v1255),(.ms 6 (mg v1253) 0 v1253.length v1253.length),(Qd 0),(Qd 0),(Qd 0)]),(.mt 3 ((mg v1253)+1) (cellsOf Qh ([]:List Int))),(.box [(La v641),(.ms 0 v1243 0 v1244.length v1244.length),(Qd 2),(Qd v1249.buffer),(Qd v1255),(La v1254),(Qd 0),(Qd 0),(Qd 0)])]) (q:=1) (n:=v1244.length) (size:=9) Qb.fit hx rfl rfl kr kr kr kr kr kr kr kr kr) (GF_seg 7 (re 1 (GF_end (R_G (re 3 (Yj _ _ hm _ (prune_of2 [(ZZ v1243 v1244),(.mt 83 (v223+1) (flC Qb.toD 1 0 v1243 v1244.length v1263))] (fun _=>(pg_cons (purge_mt Qh _ _ _ _ _) (pg_cons (purge_fl _ _ _ _ _ (Nat.succ_pos _) _) pg_nil))) rfl)))))))))))))))⟩)))))))))) (fun hm=>Qp (Qbd [(4,[3]),(5,[4])] (GF_seg 4 (Qf 2 (YM (v:=(.dat (.agg [(Qh 1),(Qh 0),(Qh 0),Eb,(Qh 0),(Qh 0),(Qh 0)]))) (fun H=>H) rfl kr (fun _=>QaE (n:=7) (i:=5) (off:=0) (bs:=[(Qd 1),(Qd 0),(Qd 0),(.vec 4 []),(Qd 0),(Qd 0),(Qd 0)]) (cs:=[(Qd 1),(Qd 0),(Qd 0),(.vec 4 []),(Qd 0),(Qd 0),(Qd 0)]) rfl rfl kr kr kr kr kr rfl (cl_dat (cl_dat (cl_dat (cl_vec (cl_dat (cl_dat (cl_dat cl_nil)))))))) (re 1 (GF_op rfl rfl rfl (fl_one (e:=83) (size:=9) (x:=.tmp 227) (cs:=[(La v641),(.ms 0 v1243 0 v1244.length v1244.length),(Qd 1),(Qd 0),(Qd 0),Ea,(Qd 0),(Qd 0),(Qd 0)]) rfl kr kr kr kr kr) (bi hm fun v1264 hx hm=>GF_op rfl rfl rfl (fl_append (sh:=(fun (p_:Qb) (h_:List Int)=>(⟨⟨p_.box.lo,h_⟩,p_.access⟩:Qb))) (out:=v225) (hi:=v222) (p:=(⟨(⟨v641,v1244⟩:Qi),(⟨1,0,0,([]:(List Int)),0,0,0⟩:Qm)⟩:Qb)) (v:=v1264) (ei:=3) (te:=83) (bytes:=120) (gg:=v1243) (g1:=v223) (i:=6) (l:=v225.length) (hc:=cellsOf Qh v1244) (rest:=[(JQ v641 v1243 v1244.length),(.tok 3 (([]:List Int).length)),(.tok 3 (([]:List Int).length)),(.box [(Qd 1),(Qd 0),(Qd 0),(.vec 4 []),(Qd 0),(Qd 0),(Qd 0)]),(.box [(La v641),(.ms 0 v1243 0 v1244.length v1244.length),(Qd 1),(Qd 0),(Qd 0),Ea,(Qd 0),(Qd 0),(Qd 0)])]) (q:=1) (n:=v1244.length) (size:=9) Qb.fit hx rfl rfl kr kr kr kr kr kr kr kr kr) (GF_seg 7 (re 1 (GF_end (R_G (re 3 (Yj _ _ hm _ (prune_of2 [(ZZ v1243 v1244),(.mt 83 (v223+1) (flC Qb.toD 1 0 v1243 v1244.length v1264))] (fun _=>(pg_cons (purge_mt Qh _ _ _ _ _) (pg_cons (purge_fl _ _ _ _ _ (Nat.succ_pos _) _) pg_nil))) rfl)))))))))))))))))))) (hst:=(prune_of2 [(.mt 3 (flg v221 v225+1) (cellsOf Qh ([]:List Int))),(JO v223 v225 v222),(.box [(La v641),(.ms 0 (flg v221 v225+1) 0 (([]:List Int).length) (([]:List Int).length))]),(.tok 3 (([]:List Int).length))] (fun _=>(pg_cons (purge_mt Qh _ _ _ _ _) (pg_cons (purge_flA _ _ _ _ _ _) (pg_cons kr (pg_cons kr pg_nil))))) rfl))))))))))))))))))))))))))))))) (fun hm=>QC zf))))))
def QT (x:((List Qk) × (List Int))):Option (List Qb) :=
 match x with
 | (p0,p1) =>
 Zs p1>>=fun v1 =>
 if v1=0 then
  some ([]:(List Qb))
 else
 Yn p0>>=fun v2 =>
 (if v2=0 then
  some true
 else
 if (p0.length:Int)=1 then
  idx p0 0>>=fun v4 =>
  some v4.fill
 else
 some false
 )>>=fun (v3:Bool) =>
 if v3=true then
  YL (p1,(⟨1,0,0,([]:(List Int)),0,0,0⟩:Qm))>>=fun v5 =>
  some v5
 else
 if (p0.length:Int)=1 then
  idx p0 0>>=fun v6 =>
  idx p0 0>>=fun v7 =>
  idx p0 0>>=fun v8 =>
  Yx (p1,v8.step)>>=fun v9 =>
  (idx p0 0>>=fun v11 =>
  if v11.step≠0 then
   Zs p1>>=fun v12 =>
   some (decide (v12 > v2))
  else
  some false
  )>>=fun (v10:Bool) =>
  (if v10=true then
   Yx (p1,1)>>=fun v17 =>
   idx p0 0>>=fun v18 =>
   some ((3:Int),v17,v18.step,v2)
  else
  some ((2:Int),v9,(0:Int),(0:Int))
  )>>=fun ((v13,v14,v15,v16):(Int × (List Int) × Int × Int)) =>
  YL (p1,(⟨v13,v6.buffer,v7.offset,v14,0,v15,v16⟩:Qm))>>=fun v19 =>
  some v19
 else
 ZG p1>>=fun v20 =>
 Qt (v20,v2,p0,p1,0,([]:List Int),0,0,([]:List Qb),0)>>=fun (v621,v622,v623,v624,v625) =>
 ZY (v622.length=v624)>>=fun _ =>
 some (flP (fun (p_:Qb) (h_:List Int)=>(⟨⟨p_.box.lo,h_⟩,p_.access⟩:Qb)) v625 v622)
theorem Qao {p0 p1 r0} (hm:QT (p0,p1)=some r0):FQ 39 [(.lst ((List.map Qk.toD) p0)),(Lb p1)] (Qu r0):=by
 unfold QT at hm
 exact fp (fn:=f39) rfl (ge 1 (Qj (gr 1 (bi hm fun v1 hx hm=>cp (Xk hx) (re 1 (riq hm (fun hm=>ge 1 (Qs zf)) (fun hm=>Qp (gr 1 (bi hm fun v2 hx hm=>cp (Qax hx) (re 1 (Qj (Qj (bi hm fun v3 hs hm=>Zq (fun d=>⟨sl d 231 [(0,(Yt p0)),(1,(La p1)),(5,(Qd v2)),(34,(Qq v3))],[JA]⟩) (have hm:=hs;R_G (Qf 3 (gsq 24 hm (fun hm=>re 10 zf) (fun hm=>Qf 1 (QR Qk.toD p0 (Qf 2 (gsq 28 hm (fun hm=>Qf 1 (QA 6 Qk.toD hm fun v4 hm=>re 4 zf)) (fun hm=>re 6 zf)))))))) (fun d=>rib hm (fun hm=>gr 2 (bi hm fun v5 hx hm=>cp (JX hx) (re 1 (Qs zf)))) (fun hm=>Qp (Qj (gr 1 (QR Qk.toD p0 (re 1 (riq hm (fun hm=>Qj (Ya (Qf 1 (QA 6 Qk.toD hm fun v6 hm=>Qf 3 (QA 6 Qk.toD hm fun v7 hm=>Qf 4 (QA 6 Qk.toD hm fun v8 hm=>Qf 2 (bi hm fun v9 hx hm=>cp (JS hx) (re 3 ⟨kr,Qj (Qj (bi hm fun v10 hs hm=>Zq (fun d=>⟨sl d 231 [(0,(Yt p0)),(1,(La p1)),(5,(Qd v2)),(6,(.ptr 1 0)),(66,(Qq v10))],[JA,(.box [(Qd 2),(Qd v6.buffer),(Qd v7.offset),(La v9),(Qd 0),(Qd 0),(Qd 0)])]⟩) (have hm:=hs;R_G (Qf 1 (QA 6 Qk.toD hm fun v11 hm=>Qf 4 (gsx 61 hm (fun hm=>Qf 1 (bi hm fun v12 hx hm=>cp (Xk hx) (re 3 zf))) (fun hm=>re 5 zf))))) (fun d=>bi4 hm fun v13 v14 v15 v16 hs hm=>Zq (fun d=>⟨sl d 231 [(1,(La p1)),(6,(.ptr 1 0))],[JA,(.box [(Qd v13),(Qd v6.buffer),(Qd v7.offset),(La v14),(Qd 0),(Qd v15),(Qd v16)])]⟩) (have hm:=hs;rib hm (fun hm=>ge 2 (gr 1 (bi hm fun v17 hx hm=>cp (JS hx) (re 2 (gr 1 (QA 6 Qk.toD hm fun v18 hm=>re 4 (R_G (re 3 zf)))))))) (fun hm=>Qp zf)) (fun d=>gr 2 (bi hm fun v19 hx hm=>cp (JX hx) (re 1 (Qs zf)))))))⟩)))))))) (fun hm=>Qp (ge 1 (gr 1 (bi hm fun v20 hx hm=>cp (J8 hx) (re 1 (gr 1 (QR Qh p1 (re 2 (Qj (ge 1 (Qo (ru1 hm (Yj _) (fun ⟨v621,v622,v623,v624,v625⟩ d hm=>Qj (Qbd [(0,[5])] (gi hm fun hl1265 hm=>GF_op rfl rfl rfl (fl_take (sh:=(fun (p_:Qb) (h_:List Int)=>(⟨⟨p_.box.lo,h_⟩,p_.access⟩:Qb))) (ei:=3) (te:=83) (g0:=v621) (g1:=v623) (out:=v625) (hi:=v622) (n:=v624) (q:=1) (l:=v625.length) (rest:=[]) (size:=9) Qb.fit (fun _ _=>rfl) hl1265 rfl rfl kr kr kr kr) (GF_seg 2 (re 1 (GF_end (Qs zf))))))) (hst:=(prune_of2 [JA,(.mt 83 0 (flC Qb.toD 1 0 0 0 ([]:List Qb)))] (fun _=>(pg_cons (purge_mt Qh _ _ _ _ _) (pg_cons (purge_fl _ _ _ _ _ (Nat.succ_pos _) _) pg_nil))) rfl))))))))))))))))))))))))))))))))))
def ZC (x:Qa):Option (List Qb) :=
 match x with
 | p0 =>
 if p0.kind=1 then
  YJ (p0.buffer,p0.shape)>>=fun v1 =>
  some v1
 else
 idx p0.kids 0>>=fun v2 =>
 ZC v2>>=fun v3 =>
 idx p0.kids 0>>=fun v4 =>
 if p0.kind=2 then
  YY (v3,v4.shape,p0.shape,p0.starts)>>=fun v5 =>
  some v5
 else
 if p0.kind=3 then
  idx p0.shape p0.axis>>=fun v6 =>
  YG (v3,p0.axis,v6)>>=fun v7 =>
  some v7
 else
 if p0.kind=4 then
  idx p0.shape p0.axis>>=fun v8 =>
  YX (v3,p0.axis,p0.amount,v8)>>=fun v9 =>
  some v9
 else
 if p0.kind=5 then
  Ye (v3,p0.perm,p0.shape)>>=fun v10 =>
  some v10
 else
 if p0.kind=7 then
  idx p0.kids 1>>=fun v11 =>
  ZC v11>>=fun v12 =>
  idx v4.shape p0.axis>>=fun v13 =>
  Yv (v3,v12,p0.axis,v13)>>=fun v14 =>
  some v14
 else
 ZV (v4.shape,p0.shape)>>=fun v15 =>
 if v15=true then
  some v3
 else
 Z4 (v4.shape,v3)>>=fun v16 =>
 Xp v16>>=fun v17 =>
 QT (v17,p0.shape)>>=fun v18 =>
 some v18
 partial_fixpoint
def Xz:Qa→(List Qb)→Prop:=fun x r=>match x,r with
 | p0,r0=>∀ H,PC prog env 11 ([(Qa.ex p0)].map .dat) H (Qu r0) H
theorem g_ref20_Reduce:(∀ x r,ZC x=some r→Xz x r):=by
 refine ZC.partial_correctness Xz ?_
 ·intro ZC XO p0 r0 hm;unfold Xz;intro H;refine PC_sx (ds:=[(Qa.ex p0)]) (fn:=f11) rfl ?_
  exact ge 2 (Qj (ge 3 (riq hm (fun hm=>gr 4 (bi hm fun v1 hx hm=>cp (Qav hx) (re 1 (Qs zf)))) (fun hm=>Qp (gr 2 (bi hm fun v2 hx hm=>Xw 8 Qa.toD p0.kids 0 v2 (es:=Qa.toDs p0.kids) (d:=(Qa.ex v2)) (Qa.toDs_eq _) hx (Qa.toD_eq v2) rfl (Qf 1 (bi hm fun v3 hx hm=>Yz (XO _ _ hx []) (re 1 (gr 2 (bi hm fun v4 hx hm=>Xw 8 Qa.toD p0.kids 0 v4 (es:=Qa.toDs p0.kids) (d:=(Qa.ex v4)) (Qa.toDs_eq _) hx (Qa.toD_eq v4) rfl (re 3 (Qj (ge 2 (Qo (ge 2 (riq hm (fun hm=>gr 6 (bi hm fun v5 hx hm=>cp (Qan hx) (re 1 (Qs zf)))) (fun hm=>ge 2 (riq hm (fun hm=>Qj (Ya (Qf 7 (QA 1 Qh hm fun v6 hm=>Qf 1 (bi hm fun v7 hx hm=>cp (Qab hx) (re 1 ⟨kr,Qs zf⟩)))))) (fun hm=>ge 2 (riq hm (fun hm=>Qj (Ya (Qf 9 (QA 1 Qh hm fun v8 hm=>Qf 1 (bi hm fun v9 hx hm=>cp (Qam hx) (re 1 ⟨kr,Qs zf⟩)))))) (fun hm=>ge 2 (riq hm (fun hm=>gr 5 (bi hm fun v10 hx hm=>cp (J4 hx) (re 1 (Qs zf)))) (fun hm=>ge 2 (riq hm (fun hm=>Qj (Ya (Qf 3 (bi hm fun v11 hx hm=>Xw 8 Qa.toD p0.kids 1 v11 (es:=Qa.toDs p0.kids) (d:=(Qa.ex v11)) (Qa.toDs_eq _) hx (Qa.toD_eq v11) rfl (Qf 1 (bi hm fun v12 hx hm=>Yz (XO _ _ hx []) (Qf 5 (QA 1 Qh hm fun v13 hm=>Qf 1 (bi hm fun v14 hx hm=>cp (J7 hx) (re 1 ⟨kr,Qs zf⟩)))))))))) (fun hm=>Qp (Qj (gr 3 (bi hm fun v15 hx hm=>cp (Js hx) (Jh (rib hm (fun hm=>ge 2 (Qs zf)) (fun hm=>Qp (Qj (Ya (Qf 2 (bi hm fun v16 hx hm=>cp (Qaa hx) (bi hm fun v17 hx hm=>cp (QaU hx) (Qf 2 (bi hm fun v18 hx hm=>cp (Qao hx) (re 1 ⟨kr,Qs zf⟩))))))))))))))))))))))))))))))))))))))))
theorem XO:∀ x r,ZC x=some r→Xz x r:=g_ref20_Reduce
def Zk (x:((List Qb) × (List Qc) × Int)):Option ((List Qc)) :=
 match x with
 | (p0,v201,v202) =>
 if v202 < (p0.length:Int) then
  idx p0 v202>>=fun v602 =>
  idx p0 v202>>=fun v603 =>
  app 120 v201 ([(⟨(⟨v602.box.lo,v602.box.hi⟩:QY),(⟨v603.access.kind,v603.access.buffer,v603.access.base,v603.access.strides,v603.access.start,v603.access.step,v603.access.mod⟩:Qn)⟩:Qc)]:List Qc)>>=fun v604 =>
  Zk (p0,v604,(W (v202+1)))
 else
 some v201
 partial_fixpoint
theorem XE:∀ x r,Zk x=some r→match x with|(p0,v201,v202)=>LQ f18 18 [1,1,0,1,0,0] 1 ⟨kp 26 [(0,(Qu p0)),(3,(QaK v201)),(4,(Qd v202))],[(.tok 62 v201.length)]⟩ (P1 (.exit 0) (fun v601 d=>⟨sl d 26 [(3,(QaK v601))],[(.tok 62 v601.length)]⟩) r):=by
 refine Zk.partial_correctness _ (fun Zk XE x r hm=>?_);obtain ⟨p0,v201,v202⟩:=x;exact lp (Qj (gr 2 (QR Qb.toD p0 (re 1 (ri hm (fun hm=>Qp (Qj (Qo (Ya (Qf 3 (QA 9 Qb.toD hm fun v602 hm=>Qf 4 (QA 9 Qb.toD hm fun v603 hm=>Qf 4 (bi hm fun v604 hx hm=>YP 62 9 120 0 Qc.toD v201 ([(⟨(⟨v602.box.lo,v602.box.hi⟩:QY),(⟨v603.access.kind,v603.access.buffer,v603.access.base,v603.access.strides,v603.access.start,v603.access.step,v603.access.mod⟩:Qn)⟩:Qc)]:List Qc) v604 (xs:=(List.map Qc.toD) v201) (es:=(List.map Qc.toD) ([(⟨(⟨v602.box.lo,v602.box.hi⟩:QY),(⟨v603.access.kind,v603.access.buffer,v603.access.base,v603.access.strides,v603.access.start,v603.access.step,v603.access.mod⟩:Qn)⟩:Qc)]:List Qc)) (L:=(List.map Qc.toD)) y8 rfl rfl Qc.fit hx (re 1 ⟨kr,R_G (re 3 (XE _ _ hm _ kr))⟩))))))))) (fun hm=>QC zf))))))
def YU (x:(List Qb)):Option (List Qc) :=
 match x with
 | p0 =>
 Zk (p0,([]:List Qc),0)>>=fun v601 =>
 some v601
def JM:(List Qb)→(List Qc)→Prop:=fun x r=>match x,r with
 | p0,r0=>∀ H,PC prog env 18 ([(.lst ((List.map Qb.toD) p0))].map .dat) H (JB r0) H
theorem Qai:∀ x r,YU x=some r→JM x r:=by
 intro p0 r0 hm;unfold YU at hm;unfold JM;intro H;refine PC_sx (ds:=[(.lst ((List.map Qb.toD) p0))]) (fn:=f18) rfl ?_;exact ge 1 (ge 1 (Qj (ge 1 (Qo (ru1 hm (XE _) fun v601 d hm=>ge 2 (Qs zf))))))
def QP (x:(List Int)):Option (Unit) :=
 match x with
 | q0 =>
 some ()
theorem YR {q0} (hm:QP q0=some ()):PC prog env 58 [(.mapv 0)] [(.map (setE .i64 (X8 true) q0))] (.fn 108 [(.ptr 1 0)]) [(.map (setE .i64 (X8 true) q0)),(.box [(.mapv 0)])]:=by
 unfold QP at hm;exact PC_sxB (fn:=f58) rfl (ge 2 (ge 2 (Qs zf)))
def Zc (x:((List Qc) × (List Int) × Int)):Option ((List Int)) :=
 match x with
 | (p0,v201,v202) =>
 if v202 < (p0.length:Int) then
  idx p0 v202>>=fun v602 =>
  if v602.access.kind≠1 then
   Zc (p0,(insK v201 v602.access.buffer),(W (v202+1)))
  else
  Zc (p0,v201,(W (v202+1)))
 else
 some v201
 partial_fixpoint
theorem Y7:∀ x r,Zc x=some r→match x with|(p0,v201,v202)=>LQ f19 19 [1,1,0,1,0,0] 1 ⟨kp 25 [(3,(.mapv 0)),(7,(JB p0)),(8,(Qd (p0.length:Int))),(9,(Qd v202))],[(.map (setE .i64 (X8 true) v201))]⟩ (P1 (.exit 0) (fun v601 d=>⟨sl d 25 [(3,(.mapv 0))],[(.map (setE .i64 (X8 true) v601))]⟩) r):=by
 refine Zc.partial_correctness _ (fun Zc Y7 x r hm=>?_);obtain ⟨p0,v201,v202⟩:=x;exact lp (ge 1 (Qj (ri hm (fun hm=>Qp (Qj (Qo (Qj (R_G (QA 9 Qc.toD hm fun v602 hm=>re 3 (ge 4 (rix hm (fun hm=>R_G (Qf 4 (YM (fun H=>H.set 0 (.map (setE .i64 (X8 true) (insK v201 v602.access.buffer)))) rfl kr (fun _=>Qa8 (i:=0) (kt:=3) (e:=4) (ik:=.i64) (l:=v201) (n:=v602.access.buffer) (v:=(X8 true)) kr kr rfl kr kr kr kr) (Jh (R_G (re 2 (Y7 _ _ hm _ (prune_of2 [(.map (setE .i64 (X8 true) (insK v201 v602.access.buffer)))] (fun _=>(pg_cons (purge_set _ _ _ _ _) pg_nil)) rfl)))))))) (fun hm=>Qp (R_G (re 2 (Y7 _ _ hm _ (prune_of2 [(.map (setE .i64 (X8 true) v201))] (fun _=>(pg_cons (purge_set _ _ _ _ _) pg_nil)) rfl))))))))))))) (fun hm=>QC zf))))
def Xf (x:(List Qc)):Option (List Int) :=
 match x with
 | p0 =>
 Zc (p0,([]:List Int),0)>>=fun v601 =>
 QP v601>>=fun _ =>
 sortK v601>>=fun v603 =>
 some v603
theorem Qaq {p0 r0} (hm:Xf p0=some r0):FQ 19 [(.lst ((List.map Qc.toD) p0))] (La r0):=by
 unfold Xf at hm;exact fp (fn:=f19) rfl (ge 1 (gr 1 (re 1 (Qj (gr 1 (QR Qc.toD p0 (re 1 (Qo (ru1 hm (Y7 _) (fun v601 d hm=>gr 1 (bi hm fun _ hx hm=>QaA (YR hx) (bi hm fun v603 hx hm=>QaA (Qbp (H:=[(.map (setE .i64 (X8 true) v601)),(.box [(.mapv 0)])]) (b:=1) (m:=0) hx rfl rfl) (re 1 (Qs zf))))) (hst:=(prune_of2 [(.map (setE .i64 (X8 true) ([]:List Int)))] (fun _=>(pg_cons (purge_set _ _ _ _ _) pg_nil)) rfl)))))))))))
def Zy (x:((List Qb) × Int × Int)):Option (Unit ⊕ Unit) :=
 match x with
 | (p0,p1,v201) =>
 if v201 < (p0.length:Int) then
  (idx p0 v201>>=fun v602 =>
  if v602.access.kind≠1 then
   idx p0 v201>>=fun v603 =>
   some (v603.access.buffer == p1)
  else
  some false
  )>>=fun (v601:Bool) =>
  if v601=true then
   some (Sum.inl ())
  else
  Zy (p0,p1,(W (v201+1)))
 else
 some (Sum.inr ())
 partial_fixpoint
theorem XZ:∀ x r,Zy x=some r→match x with|(p0,p1,v201)=>LQ f20 20 [1,0,1,0,0] 0 ⟨kp 29 [(0,(Qu p0)),(1,(Qd p1)),(5,(Qd v201))],[]⟩ (P2 .ret (fun _ d=>⟨sl d 29 [(4,(Qq true))],[]⟩) (.exit 0) (fun _ d=>⟨sl d 29 [],[]⟩) r):=by
 refine Zy.partial_correctness _ (fun Zy XZ x r hm=>?_);obtain ⟨p0,p1,v201⟩:=x;exact lp (Qj (gr 2 (QR Qb.toD p0 (re 1 (ri hm (fun hm=>Qp (Qj (Qo (Qj (bi hm fun v601 hs hm=>Zq (fun d=>⟨sl d 29 [(0,(Qu p0)),(1,(Qd p1)),(5,(Qd v201)),(28,(Qq v601))],[]⟩) (have hm:=hs;R_G (Qf 2 (QA 9 Qb.toD hm fun v602 hm=>Qf 5 (gsx 19 hm (fun hm=>Qf 2 (QA 9 Qb.toD hm fun v603 hm=>re 6 zf)) (fun hm=>re 9 zf))))) (fun d=>rib hm (fun hm=>ge 1 (Qs zf)) (fun hm=>Qp (R_G (re 3 (XZ _ _ hm _ kr)))))))))) (fun hm=>QC zf))))))
def Xj (x:((List Qb) × Int)):Option Bool :=
 match x with
 | (p0,p1) =>
 (
 Zy (p0,p1,0)>>=fun out =>
 match out with
 | .inl _ =>
  some true
 | .inr (_) =>
  some false
 )
theorem Qay {p0 p1 r0} (hm:Xj (p0,p1)=some r0):FQ 20 [(.lst ((List.map Qb.toD) p0)),(Qh p1)] (Qq r0):=by
 unfold Xj at hm;exact fp (fn:=f20) rfl (ge 1 (Qj (ge 1 (Qo (ru2 hm (XZ _) (fun _ d hm=>zf) fun _ d hm=>ge 1 (Qs zf))))))
def Zh (x:((List Qb) × Int × Int × Int)):Option (Int) :=
 match x with
 | (p0,p1,v201,v202) =>
 if v202 < (p0.length:Int) then
  idx p0 v202>>=fun v602 =>
  if v602.access.kind=p1 then
   Zh (p0,p1,(W (v201+1)),(W (v202+1)))
  else
  Zh (p0,p1,v201,(W (v202+1)))
 else
 some v201
 partial_fixpoint
theorem Xb:∀ x r,Zh x=some r→match x with|(p0,p1,v201,v202)=>LQ f22 22 [1,1,0,1,0,0] 0 ⟨kp 24 [(0,(Qu p0)),(1,(Qd p1)),(5,(Qd v201)),(6,(Qd v202))],[]⟩ (P1 (.exit 0) (fun v601 d=>⟨sl d 24 [(5,(Qd v601))],[]⟩) r):=by
 refine Zh.partial_correctness _ (fun Zh Xb x r hm=>?_);obtain ⟨p0,p1,v201,v202⟩:=x;exact lp (Qj (gr 2 (QR Qb.toD p0 (re 1 (ri hm (fun hm=>Qp (Qj (Qo (gr 2 (QA 9 Qb.toD hm fun v602 hm=>re 5 (riq hm (fun hm=>R_G (re 3 (R_G (re 3 (Xb _ _ hm _ kr))))) (fun hm=>Qp (R_G (re 3 (Xb _ _ hm _ kr)))))))))) (fun hm=>QC zf))))))
def Yo (x:((List Qb) × Int)):Option Int :=
 match x with
 | (p0,p1) =>
 Zh (p0,p1,0,0)>>=fun v601 =>
 some v601
theorem Jy {p0 p1 r0} (hm:Yo (p0,p1)=some r0):FQ 22 [(.lst ((List.map Qb.toD) p0)),(Qh p1)] (Qd r0):=by
 unfold Yo at hm;exact fp (fn:=f22) rfl (ge 1 (ge 1 (Qj (ge 1 (Qo (ru1 hm (Xb _) fun v601 d hm=>ge 2 (Qs zf)))))))
def QL (x:((List (List Int)) × (List Qb) × (List Int) × (List Qc) × Qa × Int × Int)):Option (Unit ⊕ Int) :=
 match x with
 | (p1,v5,v7,v6,p0,v208,v209) =>
 if v209 < (p1.length:Int) then
  Xj (v5,v209)>>=fun v609 =>
  if v609=false then
   QL (p1,v5,v7,v6,p0,v208,(W (v209+1)))
  else
  (if v208≥(v7.length:Int) then
   some true
  else
  idx v7 v208>>=fun v611 =>
  some (v611 != v209)
  )>>=fun (v610:Bool) =>
  if v610=true then
   some (Sum.inl ())
  else
  QL (p1,v5,v7,v6,p0,(W (v208+1)),(W (v209+1)))
 else
 some (Sum.inr v208)
 partial_fixpoint
theorem Yg:∀ x r,QL x=some r→match x with|(p1,v5,v7,v6,p0,v208,v209)=>LQ f4 4 [1,1,1,1,1,1,0,1,0,0] 1 ⟨kp 65 [(1,(QK p1)),(5,(Qu v5)),(6,(JB v6)),(7,(La v7)),(8,(Qd v208)),(9,(Qd v209))],(Qv p0.kind p0.shape p0.buffer p0.starts p0.axis p0.amount p0.perm p0.kids)⟩ (P2 .ret (fun _ d=>⟨sl d 65 [(4,(Qq false))],(Qv p0.kind p0.shape p0.buffer p0.starts p0.axis p0.amount p0.perm p0.kids)⟩) (.exit 0) (fun v608 d=>⟨sl d 65 [(5,(Qu v5)),(6,(JB v6)),(7,(La v7)),(8,(Qd v608))],(Qv p0.kind p0.shape p0.buffer p0.starts p0.axis p0.amount p0.perm p0.kids)⟩) r):=by
 refine QL.partial_correctness _ (fun QL Yg x r hm=>?_);obtain ⟨p1,v5,v7,v6,p0,v208,v209⟩:=x;exact lp (Qj (gr 2 (JH (fun l=>Dat.lst ((List.map Qh) l)) p1 (es:=(List.map (fun l=>Dat.lst ((List.map Qh) l))) p1) rfl (re 1 (ri hm (fun hm=>Qp (Qj (Qo (Qj (gr 2 (bi hm fun v609 hx hm=>cp (Qay hx) (re 1 (rin hm (fun hm=>QC (R_G (re 3 (Yg _ _ hm _ kr)))) (fun hm=>Qp (Qj (Qj (bi hm fun v610 hs hm=>Zq (fun d=>⟨sl d 65 [(1,(QK p1)),(5,(Qu v5)),(6,(JB v6)),(7,(La v7)),(8,(Qd v208)),(9,(Qd v209)),(46,(Qq v610))],(Qv p0.kind p0.shape p0.buffer p0.starts p0.axis p0.amount p0.perm p0.kids)⟩) (have hm:=hs;R_G (Qf 2 (QR Qh v7 (Qf 2 (gs 39 hm (fun hm=>re 7 zf) (fun hm=>Qf 2 (QA 1 Qh hm fun v611 hm=>re 4 zf))))))) (fun d=>rib hm (fun hm=>ge 1 (Qs zf)) (fun hm=>Qp (R_G (re 3 (R_G (re 3 (Yg _ _ hm _ kr))))))))))))))))))) (fun hm=>QC zf))))))
def YQ (x:(Qa × (List (List Int)))):Option Bool :=
 match x with
 | (p0,p1) =>
 (X3 ()>>=fun (v2:Bool) =>
 if v2=false then
  some true
 else
 Xi (p0,p1,200)>>=fun v3 =>
 some (!v3)
 )>>=fun (v1:Bool) =>
 if v1=true then
  X3 ()>>=fun v4 =>
  some v4
 else
 ZC (⟨p0.kind,p0.shape,p0.buffer,p0.starts,p0.axis,p0.amount,p0.perm,p0.kids⟩:Qa)>>=fun v5 =>
 YU v5>>=fun v6 =>
 Xf v6>>=fun v7 =>
 (
 QL (p1,v5,v7,v6,p0,0,0)>>=fun out =>
 match out with
 | .inl _ =>
  some false
 | .inr (v608) =>
  if v608=(v7.length:Int) then
   Jb v6>>=fun v612 =>
   Yo (v5,1)>>=fun v613 =>
   Yo (v5,2)>>=fun v614 =>
   Yo (v5,3)>>=fun v615 =>
   some ((v612.c0 == v613) && ((v612.c1 == v614) && ((v612.c2 == v615) && true)))
  else
  some false
 )
def Jp:(Qa × (List (List Int)))→Bool→Prop:=fun x r=>match x,r with
 | (p0,p1),r0=>∀ H,PC prog env 4 ([(Qa.ex p0),(.lst ((List.map (fun l=>Dat.lst ((List.map Qh) l))) p1))].map .dat) H (Qq r0) H
theorem w_law20_DnfCounts:∀ x r,YQ x=some r→Jp x r:=by
 intro x r0 hm;unfold YQ at hm;unfold Jp;obtain ⟨p0,p1⟩:=x;intro H;refine PC_sx (ds:=[(Qa.ex p0),(.lst ((List.map (fun l=>Dat.lst ((List.map Qh) l))) p1))]) (fn:=f4) rfl ?_
 exact ge 2 (Qj (Qj (bi hm fun v1 hs hm=>Zq (fun d=>⟨sl d 65 [(1,(QK p1)),(2,(.ptr 0 0)),(17,(Qq v1))],(Qv p0.kind p0.shape p0.buffer p0.starts p0.axis p0.amount p0.perm p0.kids)⟩) (have hm:=hs;R_G (bi hm fun v2 hx hm=>Yz (JU _ _ hx []) (Qf 2 (gsn 12 hm (fun hm=>re 5 zf) (fun hm=>Qf 2 (bi hm fun v3 hx hm=>cp (Qau hx) (re 2 zf))))))) (fun d=>rib hm (fun hm=>Qj (R_G (bi hm fun v4 hx hm=>Yz (JU _ _ hx []) (re 1 (Qs zf))))) (fun hm=>Qp (gr 1 (bi hm fun v5 hx hm=>Yz (XO _ _ hx []) (re 1 (gr 1 (bi hm fun v6 hx hm=>Yz (Qai _ _ hx []) (re 1 (gr 1 (bi hm fun v7 hx hm=>cp (Qaq hx) (re 1 (ge 1 (Qj (ge 1 (Qo (ru2 hm (Yg _) (fun _ d hm=>zf) fun v608 d hm=>gr 2 (QR Qh v7 (Qf 2 (gsq 53 hm (fun hm=>Qf 1 (bi hm fun v612 hx hm=>cp (QaM hx) (Qf 1 (bi hm fun v613 hx hm=>cp (Jy hx) (Qf 1 (bi hm fun v614 hx hm=>cp (Jy hx) (Qf 1 (bi hm fun v615 hx hm=>cp (Jy hx) (Qf 1 (Zi rfl (fun _=>Qbx (t:=50) (xs:=#[.int .i64 v612.c0,.int .i64 v612.c1,.int .i64 v612.c2]) (ys:=#[.int .i64 v613,.int .i64 v614,.int .i64 v615]) (b:=((v612.c0 == v613) && ((v612.c1 == v614) && ((v612.c2 == v615) && true)))) rfl kr kr (SEq_arr3 (e:=3) kr kr kr kr)) (re 2 (Qs zf)))))))))))) (fun hm=>re 12 (Qs zf))))))))))))))))))))))))
set_option linter.unusedSimpArgs false
theorem Equal_L1:∀ (s t p q:List Int),s.length=t.length→p.length=q.length→Sm (p++s).length→Zw (p++s,q++t,(p.length:Int))=some (if s=t then .inr () else .inl ())
 | [],[],p,q,_,_,hs=>by
  rw [Zw]; simp only [Q4,if_false,if_true]
 | x::s,y::t,p,q,h1,h2,hs=>by
  rw [Zw];have ih:=Equal_L1 s t (p++[x]) (q++[y]) (by simpa using h1) (by simp [h2]) (by rw [← Qr]; exact hs);rw [← Qr,← Qr] at ih;simp only [QU,if_true,Qy,Qe,mid_W hs,ih];rw [h2,Qy];by_cases he:x=y <;> simp [he,Qe]
 | [],_::_,_,_,h,_,_=>by cases h
 | _::_,[],_,_,h,_,_=>by cases h
theorem Equal_ok (a b:List Int) (hs:Sm a.length):ZV (a,b)=some (decide (a=b)):=by
 simp only [ZV];by_cases h:a.length=b.length
 ·have e:=Equal_L1 a b [] [] h rfl hs;have e2:¬ ((a.length:Int)≠(b.length:Int)):=by omega
  simp only [e2,if_false];have e3:Zw (a,b,0)=_:=e;rw [e3];by_cases hab:a=b
  ·subst hab; simp
  ·rw [if_neg hab,zX hab]; rfl
 ·have e2:((a.length:Int)≠(b.length:Int)):=by omega
  have e3:a≠b:=fun e=>h (by rw [e])
  rw [if_pos e2,zX e3]

def prodI (l:List Int):Int:=l.foldl (· * ·) 1
def negB (l:List Int):Bool:=l.any fun d=>decide (d < 0)
def bigB (l:List Int):Bool:=l.any fun d=>decide (d > 65536)
def prodR (l:List Int):Int × Int:=if negB l then (0,6) else if bigB l then (0,7) else if prodI l > 65536 then (0,7) else (prodI l,0)
def checkR (l:List Int):Int:=if negB l then 6 else if l.length > 16∨bigB l=true∨prodI l > 65536 then 7 else 0
def cellsR (l:List Int):Int:=if checkR l=0 then prodI l else 0
theorem foldl_mul:∀ (l:List Int) (x:Int),l.foldl (· * ·) x=x * l.foldl (· * ·) 1
 | [],x=>by simp
 | d::l,x=>by rw [List.foldl_cons,foldl_mul l (x * d),List.foldl_cons,foldl_mul l (1 * d),Int.one_mul,Int.mul_assoc]
theorem prodI_cons (d:Int) (l:List Int):prodI (d::l)=d * prodI l:=by rw [prodI,List.foldl_cons,foldl_mul,Int.one_mul]; rfl
theorem prodI_nil:prodI []=1:=rfl
theorem prodI_append (a b:List Int):prodI (a++b)=prodI a * prodI b:=by rw [prodI,prodI,prodI,List.foldl_append,foldl_mul]
theorem prodI_pos:∀ {l:List Int},(∀ d∈l,1≤d)→1≤prodI l
 | [],_=>by simp [prodI]
 | d::l,h=>by
  have h1:=prodI_pos (l:=l) (fun x hx=>h x (jG _ hx));have h2:=h d (jM ..);rw [prodI_cons];have:=Int.mul_le_mul h2 h1 y5 y5;omega
theorem prodI_zero {l:List Int} (h:(0:Int)∈l):prodI l=0:=by
 obtain ⟨s,t,rfl⟩:=List.append_of_mem h;rw [prodI_append,prodI_cons]; simp
theorem negB_cons (d:Int) (l:List Int):negB (d::l)=(decide (d < 0) || negB l):=rfl
theorem bigB_cons (d:Int) (l:List Int):bigB (d::l)=(decide (d > 65536) || bigB l):=rfl

theorem Prod_L1:∀ (s p:List Int) (z:Bool),Sm (p++s).length→QV (p++s,z,(p.length:Int))=some (if negB s then .inl () else .inr (z || s.any (· == 0)))
 | [],p,z,hs=>by
  rw [QV]; simp only [Q4,if_false]; simp [negB]
 | x::s,p,z,hs=>by
  rw [QV];have ih:=fun z=>Prod_L1 s (p++[x]) z (by rw [← Qr]; exact hs)
  rw [← Qr] at ih;simp only [QU,if_true,Qy,Qe,mid_W hs,ih,negB_cons];by_cases hn:x < 0
  ·simp [hn]
  ·cases z <;> by_cases hz:x=0 <;> simp [hn,hz]
theorem Prod_L2:∀ (s p:List Int) (z:Bool),Sm (p++s).length→Q5 (p++s,z,(p.length:Int))=some (if bigB s then .inl () else .inr ())
 | [],p,z,hs=>by
  rw [Q5]; simp only [Q4,if_false]; simp [bigB]
 | x::s,p,z,hs=>by
  rw [Q5];have ih:=Prod_L2 s (p++[x]) z (by rw [← Qr]; exact hs);rw [← Qr] at ih;simp only [QU,if_true,Qy,Qe,mid_W hs,ih,bigB_cons];by_cases hn:x > 65536 <;> simp [hn]
theorem Prod_L3:∀ (s p:List Int) (m:Int),Sm (p++s).length→(∀ d∈s,1≤d∧d≤65536)→1≤m→m≤65536→Q6 (p++s,m,(p.length:Int))=some (if m * prodI s > 65536 then .inl () else .inr (m * prodI s))
 | [],p,m,hs,hd,h1,h2=>by
  rw [Q6]; simp only [Q4,if_false,prodI_nil,Int.mul_one];rw [if_neg y5]
 | x::s,p,m,hs,hd,h1,h2=>by
  rw [Q6];have hx:=hd x (jM ..);have b1:=Int.mul_le_mul h2 hx.2 y5 y5;have b2:=Int.mul_le_mul h1 hx.1 y5 y5;have hw:W (m * x)=m * x:=W_ok y5 y5;have hds:∀ d∈s,1≤d∧d≤65536:=fun d h=>hd d (jG _ h)
  simp only [QU,if_true,Qy,Qe,mid_W hs,hw,prodI_cons];rw [← Int.mul_assoc];by_cases hn:m * x > 65536
  ·have hp:=prodI_pos (l:=s) (fun d h=>(hds d h).1)
   have:m * x * 1≤m * x * prodI s:=Int.mul_le_mul_of_nonneg_left hp y5
   rw [if_pos hn,if_pos y5]
  ·have ih:=Prod_L3 s (p++[x]) (m * x) (by rw [← Qr]; exact hs) hds y5 y5;rw [← Qr] at ih;rw [if_neg hn,ih]
theorem neg_all {l:List Int} (h:negB l=false):∀ d∈l,0≤d:=fun d hd=>by
 have:=List.any_eq_false.1 h d hd;simp at this; omega
theorem big_all {l:List Int} (h:bigB l=false):∀ d∈l,d≤65536:=fun d hd=>by
 have:=List.any_eq_false.1 h d hd;simp at this; omega
theorem Product_ok (l:List Int) (hs:Sm l.length):Yb l=some (prodR l):=by
 have e1:QV (l,false,0)=_:=Prod_L1 l [] false hs;have e2:∀ z,Q5 (l,z,0)=_:=fun z=>Prod_L2 l [] z hs
 simp only [Yb,e1,Qe,prodR];by_cases hn:negB l=true
 ·simp [hn]
 ·have hn':negB l=false:=by simpa using hn
  simp only [hn',j6,if_false,Bool.false_or,e2,Qe];by_cases hb:bigB l=true
  ·simp [hb]
  ·have hb':bigB l=false:=by simpa using hb
   simp only [hb',j6,if_false];by_cases hz:(l.any (· == 0))=true
   ·have:prodI l=0:=prodI_zero (by simpa using hz)
    simp [hz,this]
   ·have hz':l.any (· == 0)=false:=(Bool.not_eq_true _).mp hz
    have e3:Q6 (l,1,0)=_:=Prod_L3 l [] 1 hs (fun d hd=>by
     have h1:=neg_all hn' d hd;have h2:=big_all hb' d hd;have h3:d≠0:=fun e=>by have:=List.any_eq_false.1 hz' d hd; simp [e] at this
     omega) y5 y5
    simp only [hz',j6,if_false,e3,Qe,Int.one_mul];by_cases hp:prodI l > 65536 <;> simp [hp]
theorem Check_L1:∀ (s p:List Int),Sm (p++s).length→Zv (p++s,(p.length:Int))=some (if negB s then .inl () else .inr ())
 | [],p,hs=>by
  rw [Zv]; simp only [Q4,if_false]; simp [negB]
 | x::s,p,hs=>by
  rw [Zv];have ih:=Check_L1 s (p++[x]) (by rw [← Qr]; exact hs);rw [← Qr] at ih;simp only [QU,if_true,Qy,Qe,mid_W hs,ih,negB_cons];by_cases hn:x < 0 <;> simp [hn]
theorem Check_ok (l:List Int) (hs:Sm l.length):ZU l=some (checkR l):=by
 have e1:Zv (l,0)=_:=Check_L1 l [] hs;simp only [ZU,e1,Qe,checkR,Product_ok l hs];by_cases hn:negB l=true
 ·simp [hn]
 ·simp only [hn,if_false,prodR,j6];by_cases hl:l.length > 16
  ·have:(l.length:Int) > 16:=by omega
   simp [hl,this,Qe]
  ·have:¬ (l.length:Int) > 16:=by omega
   by_cases hb:bigB l=true
   ·simp [hl,this,hb,Qe]
   ·by_cases hp:prodI l > 65536 <;> simp [hl,this,hb,hp,Qe]
end Go.Proofs.Tryz
