/-
 Models of functions, their walks, and plain laws.
-/
import Derived.Laws.RangeString
import Derived.Test.YtokglhlanejjjaaGreatDoorKPsiElabB
namespace Go.Proofs.Tryz
open Go Go.Pm
set_option linter.all false
set_option maxHeartbeats 2000000
set_option maxRecDepth 2000
def X5 (x:((List Int) × Int × Int × (List Int) × Int × Int × (List Int) × (List Qh) × (List Qp))):Option (Int ⊕ ((List Int) × (List Int) × Nat × (List Int) × Nat × (List Int) × Nat × (List Int) × Nat)) :=
 match x with
 | (q0,q1,q2,q3,q4,q5,q6,q7,q8) =>
 Zd q0>>=fun v1 =>
 if v1≠0 then
  some (Sum.inl v1)
 else
 Yk q0>>=fun v2 =>
 Z8 q0>>=fun v3 =>
 makeM 8 v3 0>>=fun v4 =>
 Qak (v2,v4,q1,q0,q2,q3,q4,q5,q6,q7,q8)>>=fun v5 =>
 some (Sum.inr (v5,v2,v4.length,v2,v4.length,v2,v4.length,v2,v4.length))
theorem QcG {q0 q1 q2 q3 q4 q5 q6 q7 q8 r} (hm:X5 (q0,q1,q2,q3,q4,q5,q6,q7,q8)=some r):PC prog env 35 [(La q0),(.fn 36 [(.ptr 0 0)])] [(QaD q1 q0 q2 q3 q4 q5 q6 q7 q8),(.box [Ea,Ea])] (match r with|.inl v5001=>(.tup [(.dat (.agg [Eb,Eb])),(Qe v5001)])|.inr ((v5002,v5003,v5004,v5005,v5006,v5007,v5008,v5009,v5010))=>(.tup [(.agg [(La v5009),(.arr 4 0 v5010 v5010)]),(Qe 0)])) (match r with|.inl v5001=>[(QaD q1 q0 q2 q3 q4 q5 q6 q7 q8),(.box [Ea,Ea]),Qgt,(.box [Ea,Ea])]|.inr ((v5002,v5003,v5004,v5005,v5006,v5007,v5008,v5009,v5010))=>[(QaD q1 q0 q2 q3 q4 q5 q6 q7 q8),(.box [Ea,Ea]),Qgt,(QeT v5003 v5004),(.box (cellsOf Qf v5002)),(QeT v5005 v5006),(QeT v5007 v5008)]):=by
 unfold X5 at hm;exact PC_sxB (fn:=f35) rfl (ge 3 (Qi (gr 1 (bi hm fun v1 hx hm=>cp (ZF hx) (re 1 (ge 2 (rix hm (fun hm=>ge 4 (Qj zf)) (fun hm=>Qk (gr 1 (bi hm fun v2 hx hm=>cp (Qd1 hx) (Qd 1 (bi hm fun v3 hx hm=>cp (QaQ hx) (bi hm fun v4 hx hm=>ZR (v:=.arr 4 0 v4.length v4.length) (fun H=>H++[.box (cellsOf Qf v4)]) rfl kr (by intro K hk; exact QeP 4 Qf (z:=0) (n:=v3) (bytes:=8) hx (e:=2) kr kr kr kr rfl rfl kr kr hk) (re 3 (gr 2 (bi hm fun v5 hx hm=>QM (Qgc hx) (Yf (ge 3 (Qj zf)))))))))))))))))))
def Qcw (x:Q9):Option Qo :=
 match x with
 | p0 =>
 (
 X5 (p0.core.shape,p0.core.kind,p0.core.buffer,p0.core.starts,p0.core.axis,p0.core.amount,p0.core.perm,p0.core.kids,p0.sources)>>=fun out =>
 match out with
 | .inl v1 =>
  some (⟨([]:(List Int)),([]:(List Int))⟩:Qo)
 | .inr ((v2,v3,v4,v5,v6,v7,v8,v9,v10)) =>
  QS (v2.length=v10)>>=fun _ =>
  some (⟨v9,v2⟩:Qo)
 )
theorem QhU {p0 r0} (hm:Qcw p0=some r0):FQ 13 [(Q9.toD p0)] (.dat (Qo.toD r0)):=by
 unfold Qcw at hm;exact fp (fn:=f13) rfl (ge 2 (gr 4 (bs hm (fun v1 hx hm=>QM (QcG hx) (re 6 (ge 2 (Qj zf)))) fun ⟨v2,v3,v4,v5,v6,v7,v8,v9,v10⟩ hx hm=>QM (QcG hx) (re 6 (ge 2 (Qj (gi hm fun hl11 hm=>(by obtain rfl:=Qij hm; exact ⟨trivial,ZT [(.agg [(La v9),(.arr 4 0 v10 v10)])] kr (po_agg (pc_cons kr (pc_cons (pc_arr Qf v2 hl11 zY kr) pc_nil)))⟩))))))))
def XD (x:((List Int) × Int × (List (List Int)) × Int × (List (List Int)) × Int)):Option ((List (List Int))) :=
 match x with
 | (p0,v202,v201,v803,v1403,v1404) =>
 idx p0 v202>>=fun v1804 =>
 if v1404 < v1804 then
  idx v201 v803>>=fun v1805 =>
  app 8 ([]:List Int) v1805>>=fun v1806 =>
  app 8 v1806 ([v1404]:List Int)>>=fun v1807 =>
  app 24 v1403 ([v1807]:List (List Int))>>=fun v1808 =>
  XD (p0,v202,v201,v803,v1808,(W (v1404+1)))
 else
 some v1403
 partial_fixpoint
theorem Qd8:∀ x r,XD x=some r→match x with|(p0,v202,v201,v803,v1403,v1404)=>LQ f118 118 [1,1,0,1,0,0,1,0,0,1,0,1,0,0,1,0,0,1,0,0] 1 ⟨kp 44 [(0,(La p0)),(3,(ZI v201)),(4,(Qe v202)),(5,(Qgm v1403)),(6,(Qe v803)),(7,(Qe v1404))],[(.tok 32 v1403.length)]⟩ (P1 (.exit 4) (fun v1803 d=>⟨sl d 44 [(0,(La p0)),(3,(ZI v201)),(4,(Qe v202)),(5,(Qgm v1803)),(6,(Qe v803))],[(.tok 32 v1803.length)]⟩) r):=by
 refine XD.partial_correctness _ (fun XD Qd8 x r hm=>?_);obtain ⟨p0,v202,v201,v803,v1403,v1404⟩:=x
 exact lp (Qi (gr 3 (QV 1 Qf hm fun v1804 hm=>re 2 (ri hm (fun hm=>Qk (Qi (Qn (R_G (Qd 4 (bi hm fun v1805 hx hm=>XA 1 (fun l=>Dat.lst ((List.map Qf) l)) v201 v803 v1805 (es:=(List.map (fun l=>Dat.lst ((List.map Qf) l))) v201) (d:=(Lb v1805)) rfl hx rfl rfl (Qd 1 (bi hm fun v1806 hx hm=>Y9 3 1 8 1 Qf ([]:List Int) v1805 v1806 (xs:=(List.map Qf) ([]:List Int)) (es:=(List.map Qf) v1805) (L:=(List.map Qf)) zY rfl rfl zY hx (Qd 2 (bi hm fun v1807 hx hm=>Y9 3 1 8 1 Qf v1806 ([v1404]:List Int) v1807 (xs:=(List.map Qf) v1806) (es:=(List.map Qf) ([v1404]:List Int)) (L:=(List.map Qf)) zY rfl rfl zY hx (Qd 1 (bi hm fun v1808 hx hm=>Y9 32 1 24 0 (fun l=>Dat.lst ((List.map Qf) l)) v1403 ([v1807]:List (List Int)) v1808 (xs:=(List.map (fun l=>Dat.lst ((List.map Qf) l))) v1403) (es:=(List.map (fun l=>Dat.lst ((List.map Qf) l))) ([v1807]:List (List Int))) (L:=(List.map (fun l=>Dat.lst ((List.map Qf) l)))) zY rfl rfl zY hx (re 1 (R_G (re 3 (Qd8 _ _ hm _ kr)))))))))))))))) (fun hm=>QE zf)))))
def Xf (x:((List (List Int)) × (List Int) × Int × (List (List Int)) × Int)):Option ((List (List Int))) :=
 match x with
 | (v201,p0,v202,v802,v803) =>
 if v803 < (v201.length:Int) then
  XD (p0,v202,v201,v803,v802,0)>>=fun v1803 =>
  Xf (v201,p0,v202,v1803,(W (v803+1)))
 else
 some v802
 partial_fixpoint
theorem Qd7:∀ x r,Xf x=some r→match x with|(v201,p0,v202,v802,v803)=>LQ f118 118 [1,1,0,1,0,0,1,0,0,1,0,1,0,0] 1 ⟨kp 44 [(0,(La p0)),(3,(ZI v201)),(4,(Qe v202)),(5,(Qgm v802)),(6,(Qe v803))],[(.tok 32 v802.length)]⟩ (P1 (.exit 2) (fun v1202 d=>⟨sl d 44 [(0,(La p0)),(4,(Qe v202)),(5,(Qgm v1202))],[(.tok 32 v1202.length)]⟩) r):=by
 refine Xf.partial_correctness _ (fun Xf Qd7 x r hm=>?_);obtain ⟨v201,p0,v202,v802,v803⟩:=x;exact lp (Qi (gr 2 (Qae (fun l=>Dat.lst ((List.map Qf) l)) v201 (es:=(List.map (fun l=>Dat.lst ((List.map Qf) l))) v201) rfl (re 1 (ri hm (fun hm=>Qk (Qi (Qn (ge 1 (Qn (ru1 hm (Qd8 _) fun v1803 d hm=>R_G (re 3 (Qd7 _ _ hm _ kr)))))))) (fun hm=>QE zf))))))
def Xe (x:((List Int) × (List (List Int)) × Int)):Option ((List (List Int))) :=
 match x with
 | (p0,v201,v202) =>
 if v202 < (p0.length:Int) then
  Xf (v201,p0,v202,([]:List (List Int)),0)>>=fun v1202 =>
  Xe (p0,v1202,(W (v202+1)))
 else
 some v201
 partial_fixpoint
theorem Qd6:∀ x r,Xe x=some r→match x with|(p0,v201,v202)=>LQ f118 118 [1,1,0,1,0,0] 0 ⟨kp 44 [(0,(La p0)),(3,(ZI v201)),(4,(Qe v202))],[]⟩ (P1 (.exit 0) (fun v601 d=>⟨sl d 44 [(3,(ZI v601))],[]⟩) r):=by
 refine Xe.partial_correctness _ (fun Xe Qd6 x r hm=>?_);obtain ⟨p0,v201,v202⟩:=x;exact lp (Qi (gr 2 (QH Qf p0 (re 1 (ri hm (fun hm=>Qk (Qi (Qn (ge 1 (Qi (ge 1 (Qn (ru1 hm (Qd7 _) fun v1202 d hm=>R_G (re 2 (R_G (re 3 (Qd6 _ _ hm _ kr)))))))))))) (fun hm=>QE zf))))))
def Qcg (x:(List Int)):Option (List (List Int)) :=
 match x with
 | p0 =>
 Xe (p0,([([]:(List Int))]:List (List Int)),0)>>=fun v601 =>
 some v601
theorem Qiy {p0 r0} (hm:Qcg p0=some r0):FQ 118 [(Lb p0)] (ZI r0):=by
 unfold Qcg at hm;exact fp (fn:=f118) rfl (ge 1 (ge 3 (Qi (ge 1 (Qn (ru1 hm (Qd6 _) fun v601 d hm=>ge 2 (Qj zf)))))))
def YA (x:((List Int) × (List Int) × Int)):Option (Unit ⊕ Unit) :=
 match x with
 | (p0,p1,v201) =>
 if v201 < (p0.length:Int) then
  (idx p1 v201>>=fun v602 =>
  if v602 < 0 then
   some true
  else
  idx p1 v201>>=fun v603 =>
  idx p0 v201>>=fun v604 =>
  some (decide (v603≥v604))
  )>>=fun (v601:Bool) =>
  if v601=true then
   some (Sum.inl ())
  else
  YA (p0,p1,(W (v201+1)))
 else
 some (Sum.inr ())
 partial_fixpoint
theorem QcQ:∀ x r,YA x=some r→match x with|(p0,p1,v201)=>LQ f186 186 [1,1,0,1,0,0] 0 ⟨kp 33 [(0,(La p0)),(1,(La p1)),(5,(Qe v201))],[]⟩ (P2 .ret (fun _ d=>⟨sl d 33 [(4,(Qm false))],[]⟩) (.exit 0) (fun _ d=>⟨sl d 33 [],[]⟩) r):=by
 refine YA.partial_correctness _ (fun YA QcQ x r hm=>?_);obtain ⟨p0,p1,v201⟩:=x;exact lp (Qi (gr 2 (QH Qf p0 (re 1 (ri hm (fun hm=>Qk (Qi (Qn (Qi (bi hm fun v601 hs hm=>QY (fun d=>⟨sl d 33 [(0,(La p0)),(1,(La p1)),(5,(Qe v201)),(32,(Qm v601))],[]⟩) (have hm:=hs;Yv (Qd 2 (QV 1 Qf hm fun v602 hm=>Qd 3 (gs 22 hm (fun hm=>re 10 ⟨kr,zf⟩) (fun hm=>Qd 2 (QV 1 Qf hm fun v603 hm=>Qd 3 (QV 1 Qf hm fun v604 hm=>re 3 ⟨kr,zf⟩))))))) (fun d=>rib hm (fun hm=>ge 1 (Qj zf)) (fun hm=>Qk (R_G (re 3 (QcQ _ _ hm _ kr)))))))))) (fun hm=>QE zf))))))
def JQ (x:((List Int) × (List Int))):Option Bool :=
 match x with
 | (p0,p1) =>
 if (p0.length:Int)≠(p1.length:Int) then
  some false
 else
 (
 YA (p0,p1,0)>>=fun out =>
 match out with
 | .inl _ =>
  some false
 | .inr (_) =>
  some true
 )
theorem QhA {p0 p1 r0} (hm:JQ (p0,p1)=some r0):FQ 186 [(Lb p0),(Lb p1)] (Qm r0):=by
 unfold JQ at hm;exact fp (fn:=f186) rfl (ge 1 (Qi (gr 1 (QH Qf p0 (Qd 1 (QH Qf p1 (re 1 (rix hm (fun hm=>ge 1 (Qj zf)) (fun hm=>Qk (Qi (ge 1 (Qn (ru2 hm (QcQ _) (fun _ d hm=>zf) fun _ d hm=>ge 1 (Qj zf))))))))))))))
def Yb (x:((List Int) × (List Int) × Int × Int)):Option (Int) :=
 match x with
 | (p0,p1,v202,v203) =>
 if v203 < (p0.length:Int) then
  idx p0 v203>>=fun v603 =>
  idx p1 v203>>=fun v604 =>
  Yb (p0,p1,(W ((W (v202 * v603))+v604)),(W (v203+1)))
 else
 some v202
 partial_fixpoint
theorem QcH:∀ x r,Yb x=some r→match x with|(p0,p1,v202,v203)=>LQ f159 159 [1,1,1,0,1,0,0] 0 ⟨kp 29 [(0,(La p0)),(1,(La p1)),(5,(Qe v202)),(6,(Qe v203))],[]⟩ (P1 (.exit 0) (fun v602 d=>⟨sl d 29 [(5,(Qe v602))],[]⟩) r):=by
 refine Yb.partial_correctness _ (fun Yb QcH x r hm=>?_);obtain ⟨p0,p1,v202,v203⟩:=x;exact lp (Qi (gr 2 (QH Qf p0 (re 1 (ri hm (fun hm=>Qk (Qi (Qn (Yv (Qd 3 (QV 1 Qf hm fun v603 hm=>Qd 4 (QV 1 Qf hm fun v604 hm=>re 3 ⟨kr,R_G (re 3 (QcH _ _ hm _ kr))⟩))))))) (fun hm=>QE zf))))))
def Xg (x:((List Int) × (List Int))):Option Int :=
 match x with
 | (p0,p1) =>
 JQ (p0,p1)>>=fun v1 =>
 if v1=false then
  some (-1)
 else
 Yb (p0,p1,0,0)>>=fun v602 =>
 some v602
theorem Qho {p0 p1 r0} (hm:Xg (p0,p1)=some r0):FQ 159 [(Lb p0),(Lb p1)] (Qe r0):=by
 unfold Xg at hm;exact fp (fn:=f159) rfl (ge 1 (Qi (gr 2 (bi hm fun v1 hx hm=>cp (QhA hx) (re 1 (rin hm (fun hm=>ge 1 (Qj zf)) (fun hm=>Qk (ge 1 (Qi (ge 1 (Qn (ru1 hm (QcH _) fun v602 d hm=>ge 2 (Qj zf)))))))))))))
def Xi (x:(Qo × (List Int))):Option Int :=
 match x with
 | (p0,p1) =>
 Xg (p0.shape,p1)>>=fun v1 =>
 if v1 < 0 then
  some 0
 else
 idx p0.data v1>>=fun v2 =>
 some v2
theorem QcK {p0 p1 r0} (hm:Xi (p0,p1)=some r0):FQ 119 [(Qo.toD p0),(Lb p1)] (Qe r0):=by
 unfold Xi at hm;exact fp (fn:=f119) rfl (ge 2 (gr 3 (bi hm fun v1 hx hm=>cp (Qho hx) (re 1 (Qi (ge 2 (ri hm (fun hm=>ge 1 (Qj zf)) (fun hm=>Qk (gr 3 (QV 1 Qf hm fun v2 hm=>re 2 (Qj zf)))))))))))
def Y3 (x:((List Int) × Qa × (List Qo) × (List (List Int)) × Int × (List Int) × (List Int) × Qo × (List Int) × Int)):Option ((List Int)) :=
 match x with
 | (v604,p0,p1,v1,v203,v603,v202,v605,v806,v807) =>
 if v807 < (v604.length:Int) then
  QS (v806.length=v604.length)>>=fun _ =>
  idx v806 v807>>=fun v1207 =>
  idx v806 v807>>=fun v1209 =>
  idx p0.starts v807>>=fun v1210 =>
  QS (v806.length=v604.length)>>=fun _ =>
  idx v806 v807>>=fun v1211 =>
  setM v806 v807 (W (v1209+v1210))>>=fun v1213 =>
  Y3 (v604,p0,p1,v1,v203,v603,v202,v605,v1213,(W (v807+1)))
 else
 some v806
 partial_fixpoint
theorem QcV:∀ x r,Y3 x=some r→match x with|(v604,p0,p1,v1,v203,v603,v202,v605,v806,v807)=>LQ f73 73 [1,1,1,0,1,0,0,1,0,0,1,1,0,1,0,1,0,1,0,0] 7 ⟨kp 186 [(1,(QeV p1)),(2,(.ptr 0 0)),(4,(.ptr 1 0)),(5,(.ptr 3 0)),(6,(ZI v1)),(7,(Qe v203)),(8,(.ms 5 (gb 0 v603.isEmpty) 0 v604.length v604.length)),(9,(.ptr 6 0)),(10,(Qe v807))],(Qfz p0.kind p0.shape p0.buffer p0.starts p0.axis p0.amount p0.perm p0.kids v202.length v202 v603.isEmpty v806 v605.shape v605.data)⟩ (P1 (.exit 3) (fun v1206 d=>⟨sl d 186 [(1,(QeV p1)),(2,(.ptr 0 0)),(4,(.ptr 1 0)),(5,(.ptr 3 0)),(6,(ZI v1)),(7,(Qe v203)),(8,(.ms 5 (gb 0 v603.isEmpty) 0 v604.length v604.length)),(9,(.ptr 6 0))],(Qfz p0.kind p0.shape p0.buffer p0.starts p0.axis p0.amount p0.perm p0.kids v202.length v202 v603.isEmpty v1206 v605.shape v605.data)⟩) r):=by
 refine Y3.partial_correctness _ (fun Y3 QcV x r hm=>?_);obtain ⟨v604,p0,p1,v1,v203,v603,v202,v605,v806,v807⟩:=x
 exact lp (Qi (gr 2 (Qd 1 (re 1 (ri hm (fun hm=>Qk (Qi (Qn (Yv (Qd 4 (gi hm fun hl1208 hm=>bi hm fun v1207 hx hm=>QG rfl (fun _=>ZS (e:=3) (n:=v807) (j:=(v807).toNat) (tt:=5) (g:=(gb 0 v603.isEmpty)) (lo:=0) (len:=v604.length) (cap:=v604.length) (k:=.i64) kr kr rfl kr kr (idx_nat hx) (jY (idx_lt hx) hl1208)) (bi hm fun v1209 hx hm=>QG rfl (fun _=>Qaz (tt:=5) (g:=(gb 0 v603.isEmpty)) (j:=(0+(v807).toNat)) (e:=3) (cs:=cellsOf Qf v806) (v:=.dat (Qf v1209)) kr kr rfl kr (Z2 kr) (cells_idx Qf hx)) (Qd 3 (QV 1 Qf hm fun v1210 hm=>Qd 2 (gi hm fun hl1212 hm=>bi hm fun v1211 hx hm=>QG rfl (fun _=>ZS (e:=3) (n:=v807) (j:=(v807).toNat) (tt:=5) (g:=(gb 0 v603.isEmpty)) (lo:=0) (len:=v604.length) (cap:=v604.length) (k:=.i64) kr kr rfl kr kr (idx_nat hx) (jY (idx_lt hx) hl1212)) (bi hm fun v1213 hx hm=>ZR (fun H=>H.set 5 (QbN v603.isEmpty v1213)) rfl kr (fun _=>QeA Qf (l:=v806) (n:=v807) (y:=(W (v1209+v1210))) hx zY kr rfl kr kr kr kr) (Yf ⟨kr,R_G (re 3 (QcV _ _ hm _ (prune_of2 (Qfz p0.kind p0.shape p0.buffer p0.starts p0.axis p0.amount p0.perm p0.kids v202.length v202 v603.isEmpty v1213 v605.shape v605.data) (fun _=>(pg_cons kr (pg_cons kr (pg_cons kr (pg_cons kr (pg_cons kr (pg_cons (purge_mt Qf _ _ _ _ _) (pg_cons kr pg_nil)))))))) rfl)))⟩)))))))))))) (fun hm=>QE zf))))))
def Y4 (x:(Qa × (List (List Int)) × Int × (List Qo) × (List Int) × (List Int) × (List Int) × Qo × Nat × (List Int) × Int)):Option ((Nat × (List Int))) :=
 match x with
 | (p0,v1,v203,p1,v202,v603,v604,v605,v1434,v1435,v1436) =>
 if v1436 < (p0.perm.length:Int) then
  idx v1 v203>>=fun v1836 =>
  idx p0.perm v1436>>=fun v1837 =>
  idx v1836 v1837>>=fun v1838 =>
  app 8 v1435 ([v1838]:List Int)>>=fun v1839 =>
  Y4 (p0,v1,v203,p1,v202,v603,v604,v605,(gb v1434 ([v1838]:List Int).isEmpty),v1839,(W (v1436+1)))
 else
 some (v1434,v1435)
 partial_fixpoint
theorem QcW:∀ x r,Y4 x=some r→match x with|(p0,v1,v203,p1,v202,v603,v604,v605,v1434,v1435,v1436)=>LQ f73 73 [1,1,1,0,1,0,0,1,0,0,1,1,0,1,0,1,1,1,1,1,1,1,0,1,1,0,0] 8 ⟨kp 186 [(1,(QeV p1)),(2,(.ptr 0 0)),(4,(.ptr 1 0)),(5,(.ptr 3 0)),(6,(ZI v1)),(7,(Qe v203)),(8,(.ms 7 v1434 0 v1435.length v1435.length)),(9,(.ptr 6 0)),(11,(Qe v1436))],[(QX p0.kind p0.shape p0.buffer p0.starts p0.axis p0.amount p0.perm p0.kids),(.box [Ea,Ea]),(.tok 2 v202.length),(QdW p0.shape v202),(.tok 2 (([]:List Int).length)),(QbN v603.isEmpty v604),(YW v605.shape v605.data),(Qcp v1434 v1435)]⟩ (P1 (.exit 5) (fun (v1834,v1835) d=>⟨sl d 186 [(1,(QeV p1)),(2,(.ptr 0 0)),(4,(.ptr 1 0)),(5,(.ptr 3 0)),(6,(ZI v1)),(7,(Qe v203)),(8,(.ms 7 v1834 0 v1835.length v1835.length)),(9,(.ptr 6 0))],[(QX p0.kind p0.shape p0.buffer p0.starts p0.axis p0.amount p0.perm p0.kids),(.box [Ea,Ea]),(.tok 2 v202.length),(QdW p0.shape v202),(.tok 2 (([]:List Int).length)),(QbN v603.isEmpty v604),(YW v605.shape v605.data),(Qcp v1834 v1835)]⟩) r):=by
 refine Y4.partial_correctness _ (fun Y4 QcW x r hm=>?_);obtain ⟨p0,v1,v203,p1,v202,v603,v604,v605,v1434,v1435,v1436⟩:=x
 exact lp (Qi (gr 3 (QH Qf p0.perm (re 1 (ri hm (fun hm=>Qk (Qi (Qn (Yv (Qd 3 (bi hm fun v1836 hx hm=>XA 1 (fun l=>Dat.lst ((List.map Qf) l)) v1 v203 v1836 (es:=(List.map (fun l=>Dat.lst ((List.map Qf) l))) v1) (d:=(Lb v1836)) rfl hx rfl rfl (Qd 4 (QV 1 Qf hm fun v1837 hm=>Qd 1 (QV 1 Qf hm fun v1838 hm=>Qd 2 (bi hm fun v1839 hx hm=>ZR (v:=.ms 7 (gb v1434 ([v1838]:List Int).isEmpty) 0 v1839.length v1839.length) (fun H=>H.set 7 (.mt 3 (gb v1434 ([v1838]:List Int).isEmpty) (cellsOf Qf v1839))) rfl kr (fun _ hk=>QgX Qf (l:=v1435) (es:=([v1838]:List Int)) (bytes:=8) (e:=3) (tt:=7) (g:=v1434) (m:=v1435.length) hx zY kr kr kr kr rfl rfl kr rfl kr kr hk) (re 1 ⟨kr,R_G (re 3 (QcW _ _ hm _ (prune_of2 [(QX p0.kind p0.shape p0.buffer p0.starts p0.axis p0.amount p0.perm p0.kids),(.box [Ea,Ea]),(.tok 2 v202.length),(QdW p0.shape v202),(.tok 2 (([]:List Int).length)),(QbN v603.isEmpty v604),(YW v605.shape v605.data),(.mt 3 (gb v1434 ([v1838]:List Int).isEmpty) (cellsOf Qf v1839))] (fun _=>(pg_cons kr (pg_cons kr (pg_cons kr (pg_cons kr (pg_cons kr (pg_cons (purge_mt Qf _ _ _ _ _) (pg_cons kr (pg_cons (purge_mt Qf _ _ _ _ _) pg_nil))))))))) rfl)))⟩))))))))))) (fun hm=>QE zf))))))
def Q4 (x:((List (List Int)) × (List Qo) × Qa × (List Int) × Int)):Option ((List Int)) :=
 match x with
 | (v1,p1,p0,v202,v203) =>
 if v203 < (v1.length:Int) then
  idx v1 v203>>=fun v603 =>
  app 8 ([]:List Int) v603>>=fun v604 =>
  idx p1 0>>=fun v605 =>
  if p0.kind=2 then
   Y3 (v604,p0,p1,v1,v203,v603,v202,v605,v604,0)>>=fun v1206 =>
   QS (v1206.length=v604.length)>>=fun _ =>
   Xi (v605,v1206)>>=fun v1215 =>
   app 8 v202 ([v1215]:List Int)>>=fun v1216 =>
   Q4 (v1,p1,p0,v1216,(W (v203+1)))
  else
  if p0.kind=3 then
   idx v605.shape p0.axis>>=fun v1217 =>
   idx v604 p0.axis>>=fun v1218 =>
   idx v604 p0.axis>>=fun v1219 =>
   idx v604 p0.axis>>=fun v1220 =>
   setM v604 p0.axis (W ((W (v1217 - 1)) - v1219))>>=fun v1221 =>
   QS (v1221.length=v604.length)>>=fun _ =>
   Xi (v605,v1221)>>=fun v1223 =>
   app 8 v202 ([v1223]:List Int)>>=fun v1224 =>
   Q4 (v1,p1,p0,v1224,(W (v203+1)))
  else
  if p0.kind=4 then
   idx v604 p0.axis>>=fun v1225 =>
   idx v604 p0.axis>>=fun v1226 =>
   idx v605.shape p0.axis>>=fun v1227 =>
   remM (W (v1226+p0.amount)) v1227>>=fun v1228 =>
   idx v604 p0.axis>>=fun v1229 =>
   setM v604 p0.axis v1228>>=fun v1230 =>
   QS (v1230.length=v604.length)>>=fun _ =>
   Xi (v605,v1230)>>=fun v1232 =>
   app 8 v202 ([v1232]:List Int)>>=fun v1233 =>
   Q4 (v1,p1,p0,v1233,(W (v203+1)))
  else
  if p0.kind=5 then
   Y4 (p0,v1,v203,p1,v202,v603,v604,v605,0,([]:List Int),0)>>=fun (v1834,v1835) =>
   Xi (v605,v1835)>>=fun v1840 =>
   app 8 v202 ([v1840]:List Int)>>=fun v1841 =>
   Q4 (v1,p1,p0,v1841,(W (v203+1)))
  else
  if p0.kind=6 then
   if (v605.data.length:Int)=0 then
    app 8 v202 ([0]:List Int)>>=fun v1842 =>
    Q4 (v1,p1,p0,v1842,(W (v203+1)))
   else
   remM v203 (v605.data.length:Int)>>=fun v1843 =>
   idx v605.data v1843>>=fun v1844 =>
   app 8 v202 ([v1844]:List Int)>>=fun v1845 =>
   Q4 (v1,p1,p0,v1845,(W (v203+1)))
  else
  (if p0.kind=7 then
   idx v604 p0.axis>>=fun v1849 =>
   idx v604 p0.axis>>=fun v1850 =>
   idx v605.shape p0.axis>>=fun v1851 =>
   if v1850≥v1851 then
    idx v604 p0.axis>>=fun v1852 =>
    idx v604 p0.axis>>=fun v1853 =>
    idx v605.shape p0.axis>>=fun v1854 =>
    idx v604 p0.axis>>=fun v1855 =>
    setM v604 p0.axis (W (v1853 - v1854))>>=fun v1856 =>
    idx p1 1>>=fun v1857 =>
    some (v1856,v1857.shape,v1857.data)
   else
   some (v604,v605.shape,v605.data)
  else
  some (v604,v605.shape,v605.data)
  )>>=fun ((v1846,v1847,v1848):((List Int) × (List Int) × (List Int))) =>
  QS (v1846.length=v604.length)>>=fun _ =>
  Xi ((⟨v1847,v1848⟩:Qo),v1846)>>=fun v1859 =>
  app 8 v202 ([v1859]:List Int)>>=fun v1860 =>
  Q4 (v1,p1,p0,v1860,(W (v203+1)))
 else
 some v202
 partial_fixpoint
theorem YF:∀ x r,Q4 x=some r→match x with|(v1,p1,p0,v202,v203)=>LQ f73 73 [1,1,1,0,1,0,0] 5 ⟨kp 186 [(1,(QeV p1)),(2,(.ptr 0 0)),(4,(.ptr 1 0)),(5,(.ptr 3 0)),(6,(ZI v1)),(7,(Qe v203))],[(QX p0.kind p0.shape p0.buffer p0.starts p0.axis p0.amount p0.perm p0.kids),(.box [Ea,Ea]),(.tok 2 v202.length),(QdW p0.shape v202),(.tok 2 (([]:List Int).length))]⟩ (P1 (.exit 0) (fun v602 d=>⟨sl d 186 [(4,(.ptr 1 0)),(5,(.ptr 3 0))],[(QX p0.kind p0.shape p0.buffer p0.starts p0.axis p0.amount p0.perm p0.kids),(.box [Ea,Ea]),(.tok 2 v602.length),(QdW p0.shape v602),(.tok 2 (([]:List Int).length))]⟩) r):=by
 refine Q4.partial_correctness _ (fun Q4 YF x r hm=>?_);obtain ⟨v1,p1,p0,v202,v203⟩:=x
 exact lp (Qi (gr 2 (Qae (fun l=>Dat.lst ((List.map Qf) l)) v1 (es:=(List.map (fun l=>Dat.lst ((List.map Qf) l))) v1) rfl (re 1 (ri hm (fun hm=>Qk (Qi (Qn (gr 3 (bi hm fun v603 hx hm=>XA 1 (fun l=>Dat.lst ((List.map Qf) l)) v1 v203 v603 (es:=(List.map (fun l=>Dat.lst ((List.map Qf) l))) v1) (d:=(Lb v603)) rfl hx rfl rfl (Qd 1 (bi hm fun v604 hx hm=>ZR (v:=.ms 5 (gb 0 v603.isEmpty) 0 v604.length v604.length) (fun H=>H.set 5 (QbN v603.isEmpty v604)) rfl kr (fun _ hk=>QgX Qf (l:=([]:List Int)) (es:=v603) (bytes:=8) (e:=3) (tt:=5) (g:=0) (m:=([]:List Int).length) hx zY kr kr kr kr rfl rfl kr rfl kr (source_lst zY) hk) (re 1 (gr 1 (QV 2 Qo.toD hm fun v605 hm=>re 3 (Qi (ge 2 (Qn (ge 2 (riq hm (fun hm=>ge 1 (Qn (ru1 hm (QcV _) (fun v1206 d hm=>Yv (Qd 4 (gi hm fun hl1214 hm=>bi hm fun v1215 hx hm=>QdH (args:=[(QdU v605.shape v605.data),(.ms 5 (gb 0 v603.isEmpty) 0 v604.length v604.length)]) (QcK hx []) (ps_cons kr (ps_cons (p1_ms (pc_ms (e:=3) Qf v1206 hl1214 zY kr)) ps_nil)) (Qd 1 (bi hm fun v1216 hx hm=>Y9 2 1 8 2 Qf v202 ([v1215]:List Int) v1216 (xs:=(List.map Qf) v202) (es:=(List.map Qf) ([v1215]:List Int)) (L:=(List.map Qf)) zY rfl rfl zY hx (re 2 ⟨kr,R_G (re 3 (YF _ _ hm _ kr))⟩)))))) (hst:=(prune_of2 (Qfz p0.kind p0.shape p0.buffer p0.starts p0.axis p0.amount p0.perm p0.kids v202.length v202 v603.isEmpty v604 v605.shape v605.data) (fun _=>(pg_cons kr (pg_cons kr (pg_cons kr (pg_cons kr (pg_cons kr (pg_cons (purge_mt Qf _ _ _ _ _) (pg_cons kr pg_nil)))))))) rfl))))) (fun hm=>ge 2 (riq hm (fun hm=>Yv (Qd 7 (QV 1 Qf hm fun v1217 hm=>Qd 5 (bi hm fun v1218 hx hm=>QG rfl (fun _=>ZS (e:=3) (n:=p0.axis) (j:=(p0.axis).toNat) (tt:=5) (g:=(gb 0 v603.isEmpty)) (lo:=0) (len:=v604.length) (cap:=v604.length) (k:=.i64) kr kr rfl kr kr (idx_nat hx) (jY (idx_lt hx) rfl)) (bi hm fun v1219 hx hm=>QG rfl (fun _=>Qaz (tt:=5) (g:=(gb 0 v603.isEmpty)) (j:=(0+(p0.axis).toNat)) (e:=3) (cs:=cellsOf Qf v604) (v:=.dat (Qf v1219)) kr kr rfl kr (Z2 kr) (cells_idx Qf hx)) (Qd 1 (bi hm fun v1220 hx hm=>QG rfl (fun _=>ZS (e:=3) (n:=p0.axis) (j:=(p0.axis).toNat) (tt:=5) (g:=(gb 0 v603.isEmpty)) (lo:=0) (len:=v604.length) (cap:=v604.length) (k:=.i64) kr kr rfl kr kr (idx_nat hx) (jY (idx_lt hx) rfl)) (bi hm fun v1221 hx hm=>ZR (fun H=>H.set 5 (QbN v603.isEmpty v1221)) rfl kr (fun _=>QeA Qf (l:=v604) (n:=p0.axis) (y:=(W ((W (v1217 - 1)) - v1219))) hx zY kr rfl kr kr kr kr) (Yf ⟨kr,Yv (Qd 4 (gi hm fun hl1222 hm=>bi hm fun v1223 hx hm=>QdH (args:=[(QdU v605.shape v605.data),(.ms 5 (gb 0 v603.isEmpty) 0 v604.length v604.length)]) (QcK hx []) (ps_cons kr (ps_cons (p1_ms (pc_ms (e:=3) Qf v1221 hl1222 zY kr)) ps_nil)) (Qd 1 (bi hm fun v1224 hx hm=>Y9 2 1 8 2 Qf v202 ([v1223]:List Int) v1224 (xs:=(List.map Qf) v202) (es:=(List.map Qf) ([v1223]:List Int)) (L:=(List.map Qf)) zY rfl rfl zY hx (re 2 ⟨kr,R_G (re 3 (YF _ _ hm _ kr))⟩)))))⟩))))))))) (fun hm=>ge 2 (riq hm (fun hm=>Yv (Qd 6 (bi hm fun v1225 hx hm=>QG rfl (fun _=>ZS (e:=3) (n:=p0.axis) (j:=(p0.axis).toNat) (tt:=5) (g:=(gb 0 v603.isEmpty)) (lo:=0) (len:=v604.length) (cap:=v604.length) (k:=.i64) kr kr rfl kr kr (idx_nat hx) (jY (idx_lt hx) rfl)) (bi hm fun v1226 hx hm=>QG rfl (fun _=>Qaz (tt:=5) (g:=(gb 0 v603.isEmpty)) (j:=(0+(p0.axis).toNat)) (e:=3) (cs:=cellsOf Qf v604) (v:=.dat (Qf v1226)) kr kr rfl kr (Z2 kr) (cells_idx Qf hx)) (Qd 7 (QV 1 Qf hm fun v1227 hm=>Qd 1 (bi hm fun v1228 hx hm=>QG rfl (fun _=>QhN (a:=(W (v1226+p0.amount))) (b:=v1227) hx rfl kr kr) (bi hm fun v1229 hx hm=>QG rfl (fun _=>ZS (e:=3) (n:=p0.axis) (j:=(p0.axis).toNat) (tt:=5) (g:=(gb 0 v603.isEmpty)) (lo:=0) (len:=v604.length) (cap:=v604.length) (k:=.i64) kr kr rfl kr kr (idx_nat hx) (jY (idx_lt hx) rfl)) (bi hm fun v1230 hx hm=>ZR (fun H=>H.set 5 (QbN v603.isEmpty v1230)) rfl kr (fun _=>QeA Qf (l:=v604) (n:=p0.axis) (y:=v1228) hx zY kr rfl kr kr kr kr) (Yf ⟨kr,Yv (Qd 4 (gi hm fun hl1231 hm=>bi hm fun v1232 hx hm=>QdH (args:=[(QdU v605.shape v605.data),(.ms 5 (gb 0 v603.isEmpty) 0 v604.length v604.length)]) (QcK hx []) (ps_cons kr (ps_cons (p1_ms (pc_ms (e:=3) Qf v1230 hl1231 zY kr)) ps_nil)) (Qd 1 (bi hm fun v1233 hx hm=>Y9 2 1 8 2 Qf v202 ([v1232]:List Int) v1233 (xs:=(List.map Qf) v202) (es:=(List.map Qf) ([v1232]:List Int)) (L:=(List.map Qf)) zY rfl rfl zY hx (re 2 ⟨kr,R_G (re 3 (YF _ _ hm _ kr))⟩)))))⟩)))))))))) (fun hm=>ge 2 (riq hm (fun hm=>ge 1 (ge 1 (Qn (ru1 hm (QcW _) (fun ⟨v1834,v1835⟩ d hm=>Yv (Qd 4 (bi hm fun v1840 hx hm=>QdH (args:=[(QdU v605.shape v605.data),(.ms 7 v1834 0 v1835.length v1835.length)]) (QcK hx []) (ps_cons kr (ps_cons (p1_ms (pc_ms (e:=3) Qf v1835 rfl zY kr)) ps_nil)) (Qd 1 (bi hm fun v1841 hx hm=>Y9 2 1 8 2 Qf v202 ([v1840]:List Int) v1841 (xs:=(List.map Qf) v202) (es:=(List.map Qf) ([v1840]:List Int)) (L:=(List.map Qf)) zY rfl rfl zY hx (re 2 ⟨kr,R_G (re 3 (YF _ _ hm _ kr))⟩)))))) (hst:=(prune_of2 [(QX p0.kind p0.shape p0.buffer p0.starts p0.axis p0.amount p0.perm p0.kids),(.box [Ea,Ea]),(.tok 2 v202.length),(QdW p0.shape v202),(.tok 2 (([]:List Int).length)),(QbN v603.isEmpty v604),(YW v605.shape v605.data),(.mt 3 0 (cellsOf Qf ([]:List Int)))] (fun _=>(pg_cons kr (pg_cons kr (pg_cons kr (pg_cons kr (pg_cons kr (pg_cons (purge_mt Qf _ _ _ _ _) (pg_cons kr (pg_cons (purge_mt Qf _ _ _ _ _) pg_nil))))))))) rfl)))))) (fun hm=>ge 2 (riq hm (fun hm=>Qi (gr 2 (QH Qf v605.data (re 1 (riq hm (fun hm=>gr 3 (bi hm fun v1842 hx hm=>Y9 2 1 8 2 Qf v202 ([0]:List Int) v1842 (xs:=(List.map Qf) v202) (es:=(List.map Qf) ([0]:List Int)) (L:=(List.map Qf)) zY rfl rfl zY hx (re 2 (QE (R_G (re 3 (YF _ _ hm _ kr))))))) (fun hm=>Qk (Qi (Yv (Qd 7 (QH Qf v605.data (bi hm fun v1843 hx hm=>QG rfl (fun _=>QhN (a:=v203) (b:=(v605.data.length:Int)) hx rfl kr kr) (QV 1 Qf hm fun v1844 hm=>Qd 2 (bi hm fun v1845 hx hm=>Y9 2 1 8 2 Qf v202 ([v1844]:List Int) v1845 (xs:=(List.map Qf) v202) (es:=(List.map Qf) ([v1844]:List Int)) (L:=(List.map Qf)) zY rfl rfl zY hx (re 2 ⟨kr,QE (R_G (re 3 (YF _ _ hm _ kr)))⟩)))))))))))))) (fun hm=>ge 2 (bi3 hm fun v1846 v1847 v1848 hs hm=>QY (fun d=>⟨sl d 186 [(1,(QeV p1)),(2,(.ptr 0 0)),(4,(.ptr 1 0)),(5,(.ptr 3 0)),(6,(ZI v1)),(7,(Qe v203)),(8,(.ms 5 (gb 0 v603.isEmpty) 0 v604.length v604.length)),(9,(.ptr 6 0))],(Qfz p0.kind p0.shape p0.buffer p0.starts p0.axis p0.amount p0.perm p0.kids v202.length v202 v603.isEmpty v1846 v1847 v1848)⟩) (have hm:=hs;riq hm (fun hm=>Qi (Yv (Qd 3 (bi hm fun v1849 hx hm=>QG rfl (fun _=>ZS (e:=3) (n:=p0.axis) (j:=(p0.axis).toNat) (tt:=5) (g:=(gb 0 v603.isEmpty)) (lo:=0) (len:=v604.length) (cap:=v604.length) (k:=.i64) kr kr rfl kr kr (idx_nat hx) (jY (idx_lt hx) rfl)) (bi hm fun v1850 hx hm=>QG rfl (fun _=>Qaz (tt:=5) (g:=(gb 0 v603.isEmpty)) (j:=(0+(p0.axis).toNat)) (e:=3) (cs:=cellsOf Qf v604) (v:=.dat (Qf v1850)) kr kr rfl kr (Z2 kr) (cells_idx Qf hx)) (Qd 4 (QV 1 Qf hm fun v1851 hm=>re 2 ⟨kr,ri hm (fun hm=>Qi (Yv (Qd 6 (bi hm fun v1852 hx hm=>QG rfl (fun _=>ZS (e:=3) (n:=p0.axis) (j:=(p0.axis).toNat) (tt:=5) (g:=(gb 0 v603.isEmpty)) (lo:=0) (len:=v604.length) (cap:=v604.length) (k:=.i64) kr kr rfl kr kr (idx_nat hx) (jY (idx_lt hx) rfl)) (bi hm fun v1853 hx hm=>QG rfl (fun _=>Qaz (tt:=5) (g:=(gb 0 v603.isEmpty)) (j:=(0+(p0.axis).toNat)) (e:=3) (cs:=cellsOf Qf v604) (v:=.dat (Qf v1853)) kr kr rfl kr (Z2 kr) (cells_idx Qf hx)) (Qd 4 (QV 1 Qf hm fun v1854 hm=>Qd 2 (bi hm fun v1855 hx hm=>QG rfl (fun _=>ZS (e:=3) (n:=p0.axis) (j:=(p0.axis).toNat) (tt:=5) (g:=(gb 0 v603.isEmpty)) (lo:=0) (len:=v604.length) (cap:=v604.length) (k:=.i64) kr kr rfl kr kr (idx_nat hx) (jY (idx_lt hx) rfl)) (bi hm fun v1856 hx hm=>ZR (fun H=>H.set 5 (QbN v603.isEmpty v1856)) rfl kr (fun _=>QeA Qf (l:=v604) (n:=p0.axis) (y:=(W (v1853 - v1854))) hx zY kr rfl kr kr kr kr) (Yf ⟨kr,R_G (Qd 1 (QV 2 Qo.toD hm fun v1857 hm=>re 2 zf))⟩)))))))))) (fun hm=>Qk zf)⟩))))))) (fun hm=>Qk zf)) (fun d=>Yv (Qd 4 (gi hm fun hl1858 hm=>bi hm fun v1859 hx hm=>QdH (args:=[(QdU v1847 v1848),(.ms 5 (gb 0 v603.isEmpty) 0 v604.length v604.length)]) (QcK hx []) (ps_cons kr (ps_cons (p1_ms (pc_ms (e:=3) Qf v1846 hl1858 zY kr)) ps_nil)) (Qd 1 (bi hm fun v1860 hx hm=>Y9 2 1 8 2 Qf v202 ([v1859]:List Int) v1860 (xs:=(List.map Qf) v202) (es:=(List.map Qf) ([v1859]:List Int)) (L:=(List.map Qf)) zY rfl rfl zY hx (re 2 ⟨kr,R_G (re 3 (YF _ _ hm _ kr))⟩))))))))))))))))))))))))))))))) (fun hm=>QE zf))))))
def QbU (x:(Qa × (List Qo))):Option Qo :=
 match x with
 | (p0,p1) =>
 Qcg p0.shape>>=fun v1 =>
 Q4 (v1,p1,p0,([]:List Int),0)>>=fun v602 =>
 some (⟨p0.shape,v602⟩:Qo)
theorem QhK {p0 p1 r0} (hm:QbU (p0,p1)=some r0):FQ 73 [(Qa.ex p0),(.lst ((List.map Qo.toD) p1))] (.dat (Qo.toD r0)):=by
 unfold QbU at hm;exact fp (fn:=f73) rfl (ge 2 (ge 5 (gr 2 (bi hm fun v1 hx hm=>cp (Qiy hx) (re 1 (Qi (ge 1 (Qn (ru1 hm (YF _) fun v602 d hm=>ge 2 (Qj zf))))))))))
mutual
def ZQ (x:(Qa × QA × (List Qo) × Int)):Option ((List Qo)) :=
 match x with
 | (p1,p0,v202,v203) =>
 if v203 < (p1.kids.length:Int) then
  idx p1.kids v203>>=fun v603 =>
  XH (p0,v603)>>=fun v604 =>
  app 48 v202 ([v604]:List Qo)>>=fun v605 =>
  ZQ (p1,p0,v605,(W (v203+1)))
 else
 some v202
 partial_fixpoint
def XH (x:(QA × Qa)):Option Qo :=
 match x with
 | (p0,p1) =>
 if p1.kind=1 then
  idx p0.sources p1.buffer>>=fun v1 =>
  some v1.value
 else
 ZQ (p1,p0,([]:List Qo),0)>>=fun v602 =>
 QbU ((⟨p1.kind,p1.shape,p1.buffer,p1.starts,p1.axis,p1.amount,p1.perm,p1.kids⟩:Qa),v602)>>=fun v606 =>
 some v606
 partial_fixpoint
end
def QaW:(Qa × QA × (List Qo) × Int)→((List Qo))→Prop:=fun x r=>match x with
 | (p1,p0,v202,v203)=>LQ f37 37 [1,1,1,0,1,0,0] 4 ⟨kp 37 [(2,(.ptr 0 0)),(3,(.ptr 1 0)),(4,(.ptr 2 0)),(5,(.vec 3 ((List.map Qo.toD) v202))),(6,(Qe v203))],[(QeW p0.core.kind p0.core.shape p0.core.buffer p0.core.starts p0.core.axis p0.core.amount p0.core.perm p0.core.kids p0.sources),(QX p1.kind p1.shape p1.buffer p1.starts p1.axis p1.amount p1.perm p1.kids),(.box [Ea,Ea]),(.tok 54 v202.length)]⟩ (P1 (.exit 0) (fun v602 d=>⟨sl d 37 [(3,(.ptr 1 0)),(4,(.ptr 2 0)),(5,(.vec 3 ((List.map Qo.toD) v602)))],[(QeW p0.core.kind p0.core.shape p0.core.buffer p0.core.starts p0.core.axis p0.core.amount p0.core.perm p0.core.kids p0.sources),(QX p1.kind p1.shape p1.buffer p1.starts p1.axis p1.amount p1.perm p1.kids),(.box [Ea,Ea]),(.tok 54 v602.length)]⟩) r)
def Qcl:(QA × Qa)→Qo→Prop:=fun x r=>match x,r with
 | (p0,p1),r0=>∀ H,PC prog env 37 ([(QA.toD p0),(Qa.ex p1)].map .dat) H (.dat (Qo.toD r0)) H
theorem g_ref16_Direct_L1:(∀ x r,ZQ x=some r→QaW x r)∧(∀ x r,XH x=some r→Qcl x r):=by
 refine ZQ.mutual_partial_correctness QaW Qcl ?_ ?_
 ·intro ZQ XH Qa7 Qec x r hm;unfold QaW;obtain ⟨p1,p0,v202,v203⟩:=x;exact lp (Qi (gr 3 (Qae Qa.toD p1.kids (es:=Qa.toDs p1.kids) (Qa.toDs_eq _) (re 1 (ri hm (fun hm=>Qk (Qi (Qn (Yv (Qd 5 (bi hm fun v603 hx hm=>XA 8 Qa.toD p1.kids v203 v603 (es:=Qa.toDs p1.kids) (d:=(Qa.ex v603)) (Qa.toDs_eq _) hx (Qa.toD_eq v603) rfl (Qd 1 (bi hm fun v604 hx hm=>ZL (Qec _ _ hx []) (Qd 1 (bi hm fun v605 hx hm=>Y9 54 2 48 3 Qo.toD v202 ([v604]:List Qo) v605 (xs:=(List.map Qo.toD) v202) (es:=(List.map Qo.toD) ([v604]:List Qo)) (L:=(List.map Qo.toD)) zY rfl rfl Qo.fit hx (re 1 ⟨kr,R_G (re 3 (Qa7 _ _ hm _ kr))⟩))))))))))) (fun hm=>QE zf))))))
 ·intro ZQ Qa7 x r0 hm;unfold Qcl;obtain ⟨p0,p1⟩:=x;intro H;refine PC_sx (ds:=[(QA.toD p0),(Qa.ex p1)]) (fn:=f37) rfl ?_;exact ge 3 (Qi (ge 3 (riq hm (fun hm=>gr 4 (QV 3 Ql.toD hm fun v1 hm=>re 3 (Qj zf))) (fun hm=>Qk (ge 1 (Qi (ge 1 (Qn (ru1 hm (Qa7 _) fun v602 d hm=>gr 2 (bi hm fun v606 hx hm=>cp (QhK hx) (re 1 (Qj zf))))))))))))
theorem Qa7:∀ x r,ZQ x=some r→QaW x r:=g_ref16_Direct_L1.1
theorem Qec:∀ x r,XH x=some r→Qcl x r:=g_ref16_Direct_L1.2
def QcA (x:((List Qg) × Qc)):Option (Qo × Int) :=
 match x with
 | (p0,p1) =>
 JI (p0,p1)>>=fun (v1,v2) =>
 if v2≠0 then
  some ((⟨([]:(List Int)),([]:(List Int))⟩:Qo),v2)
 else
 XH ((⟨(⟨v1.core.kind,v1.core.shape,v1.core.buffer,v1.core.starts,v1.core.axis,v1.core.amount,v1.core.perm,v1.core.kids⟩:Qa),v1.sources⟩:QA),(⟨v1.core.kind,v1.core.shape,v1.core.buffer,v1.core.starts,v1.core.axis,v1.core.amount,v1.core.perm,v1.core.kids⟩:Qa))>>=fun v3 =>
 some (v3,0)
theorem Qh1 {p0 p1 r0 r1} (hm:QcA (p0,p1)=some (r0,r1)):FQ 14 [(.lst ((List.map Qg.toD) p0)),(Qc.ex p1)] (.tup [(.dat (Qo.toD r0)),(Qe r1)]):=by
 unfold QcA at hm;exact fp (fn:=f14) rfl (ge 3 (gr 2 (bi2 hm fun v1 v2 hx hm=>cp (QgG hx) (re 6 (Qi (ge 2 (rix hm (fun hm=>ge 4 (Qj zf)) (fun hm=>Qk (gr 3 (bi hm fun v3 hx hm=>ZL (Qec _ _ hx []) (re 2 (Qj zf))))))))))))
def QaE (x:((List Qg) × Qc)):Option Bool :=
 match x with
 | (p0,p1) =>
 (Qc5 ()>>=fun (v2:Bool) =>
 (if v2=false then
  some true
 else
 QbS (p0,300)>>=fun v4 =>
 some (!v4)
 )>>=fun (v3:Bool) =>
 if v3=true then
  some true
 else
 QbQ ((⟨p1.kind,p1.fn,p1.axis,p1.name,p1.nums,p1.kids⟩:Qc),40)>>=fun v5 =>
 some (!v5)
 )>>=fun (v1:Bool) =>
 if v1=true then
  Qc5 ()>>=fun v6 =>
  some v6
 else
 (
 Jn p0>>=fun out =>
 match out with
 | .inl (v7,v8,v9,v10,v11,v12) =>
  some false
 | .inr ((v13,v14,v15)) =>
  QaX (p1.kind,p1.fn,p1.axis,p1.name,p1.nums,p1.kids,v13,v14,v15)>>=fun (v16,v17,v18,v19,v20,v21,v22,v23,v24,v25,v26,v27,v28,v29,v30,v31,v32,v33,v34,v35,v36,v37,v38,v39,v40,v41,v42,v43) =>
  JI (p0,(⟨p1.kind,p1.fn,p1.axis,p1.name,p1.nums,p1.kids⟩:Qc))>>=fun (v44,v45) =>
  ((if v43≠v45 then
   some true
  else
  some (v45 != 0)
  )>>=fun (v47:Bool) =>
  if v47=true then
   some true
  else
  QcB (v44,400)>>=fun v48 =>
  some (!v48)
  )>>=fun (v46:Bool) =>
  if v46=true then
   some (v43 == v45)
  else
  Qcv (⟨(⟨v34,v35,v36,v37,v38,v39,v40,v41⟩:Qh),v42⟩:Q9)>>=fun v49 =>
  Qcz (v49,v44)>>=fun v50 =>
  if v50=false then
   some false
  else
  Qcw (⟨(⟨v34,v35,v36,v37,v38,v39,v40,v41⟩:Qh),v42⟩:Q9)>>=fun v51 =>
  QcA (p0,(⟨p1.kind,p1.fn,p1.axis,p1.name,p1.nums,p1.kids⟩:Qc))>>=fun (v52,v53) =>
  QaM (v51,v52)>>=fun v54 =>
  if v54=true then
   ZP (v51.shape,v35)>>=fun v55 =>
   some v55
  else
  some false
 )
def Qfl:((List Qg) × Qc)→Bool→Prop:=fun x r=>match x,r with
 | (p0,p1),r0=>∀ H,PC prog env 3 ([(.lst ((List.map Qg.toD) p0)),(Qc.ex p1)].map .dat) H (Qm r0) H
theorem w_law16_PsiElab:∀ x r,QaE x=some r→Qfl x r:=by
 intro x r0 hm;unfold QaE at hm;unfold Qfl;obtain ⟨p0,p1⟩:=x;intro H;refine PC_sx (ds:=[(.lst ((List.map Qg.toD) p0)),(Qc.ex p1)]) (fn:=f3) rfl ?_
 exact ge 2 (Qi (Qi (bi hm fun v1 hs hm=>QY (fun d=>⟨sl d 81 [(0,(Xs p0)),(3,(.iptr [(Qf p1.kind),(Qf p1.fn),(Qf p1.axis),(strD p1.name),(Lb p1.nums),(.lst (Qc.toDs p1.kids))])),(24,(Qm v1))],[]⟩) (have hm:=hs;Qdg (bi hm fun v2 hx hm=>ZL (Qf1 _ _ hx []) (Qd 2 (bi hm fun v3 hs hm=>ZH (j:=7) (fun d=>⟨sl d 81 [(0,(Xs p0)),(3,(.iptr [(Qf p1.kind),(Qf p1.fn),(Qf p1.axis),(strD p1.name),(Lb p1.nums),(.lst (Qc.toDs p1.kids))])),(19,(Qm v3))],[]⟩) (fun d=>Qd 1 (gsb 20 hm (fun hm=>re 4 ⟨kr,zf⟩) (fun hm=>Qd 1 (bi hm fun v5 hx hm=>cp (QhE hx) (re 2 ⟨kr,zf⟩))))) (fun hJ=>gsn 15 hs (fun hm=>Qd 4 zf) (fun hm=>Qd 1 (bi hm fun v4 hx hm=>cp (QhG hx) (Qd 2 zf)))))))) (fun d=>rib hm (fun hm=>Qi (R_G (bi hm fun v6 hx hm=>ZL (Qf1 _ _ hx []) (re 1 (Qj zf))))) (fun hm=>Qk (gr 1 (bs hm (fun ⟨v7,v8,v9,v10,v11,v12⟩ hx hm=>QM (Qd4 _ _ hx) (re 1 (Qi (ge 2 (Qb8 kr (ge 1 (Qj zf))))))) fun ⟨v13,v14,v15⟩ hx hm=>QM (Qd4 _ _ hx) (re 1 (Qi (ge 2 (XN kr (Qk (gr 2 (bi hm fun ⟨v16,v17,v18,v19,v20,v21,v22,v23,v24,v25,v26,v27,v28,v29,v30,v31,v32,v33,v34,v35,v36,v37,v38,v39,v40,v41,v42,v43⟩ hx hm=>QM (Qgy hx) (re 6 (gr 2 (bi2 hm fun v44 v45 hx hm=>cp (QgG hx) (re 6 (Qi (Qi (bi hm fun v46 hs hm=>QY (fun d=>⟨sl d 81 [(0,(Xs p0)),(3,(.iptr [(Qf p1.kind),(Qf p1.fn),(Qf p1.axis),(strD p1.name),(Lb p1.nums),(.lst (Qc.toDs p1.kids))])),(6,(.ptr 9 0)),(7,(Qe v43)),(8,(.ptr 10 0)),(9,(Qe v45)),(53,(Qm v46))],[(.map (smE v13)),(.tok 64 v14.length),(Zp v14),(.tok 64 (([]:List Qg).length)),(Zp v15),(QaD v16 v17 v18 v19 v20 v21 v22 v23 v24),(.tok 91 v25.length),(QdR v25),(JE v26 v27 v28 v29 v30 v31 v32 v33),(QaD v34 v35 v36 v37 v38 v39 v40 v41 v42),(QeW v44.core.kind v44.core.shape v44.core.buffer v44.core.starts v44.core.axis v44.core.amount v44.core.perm v44.core.kids v44.sources)]⟩) (have hm:=hs;Qdg (Qd 4 (bi hm fun v47 hs hm=>ZH (j:=7) (fun d=>⟨sl d 81 [(0,(Xs p0)),(3,(.iptr [(Qf p1.kind),(Qf p1.fn),(Qf p1.axis),(strD p1.name),(Lb p1.nums),(.lst (Qc.toDs p1.kids))])),(6,(.ptr 9 0)),(7,(Qe v43)),(8,(.ptr 10 0)),(9,(Qe v45)),(48,(Qm v47))],[(.map (smE v13)),(.tok 64 v14.length),(Zp v14),(.tok 64 (([]:List Qg).length)),(Zp v15),(QaD v16 v17 v18 v19 v20 v21 v22 v23 v24),(.tok 91 v25.length),(QdR v25),(JE v26 v27 v28 v29 v30 v31 v32 v33),(QaD v34 v35 v36 v37 v38 v39 v40 v41 v42),(QeW v44.core.kind v44.core.shape v44.core.buffer v44.core.starts v44.core.axis v44.core.amount v44.core.perm v44.core.kids v44.sources)]⟩) (fun d=>Qd 1 (gsb 49 hm (fun hm=>re 4 ⟨kr,zf⟩) (fun hm=>Qd 1 (bi hm fun v48 hx hm=>cp (Qh2 hx) (re 2 ⟨kr,zf⟩))))) (fun hJ=>gsx 45 hs (fun hm=>Qd 3 zf) (fun hm=>Qd 3 zf))))) (fun d=>rib hm (fun hm=>ge 4 (Qj zf)) (fun hm=>Qk (Qi (Qi (Yv (Qd 1 (bi hm fun v49 hx hm=>ZL (QhT _ _ hx []) (Qd 1 (bi hm fun v50 hx hm=>cp (QhZ hx) (re 1 ⟨kr,rin hm (fun hm=>ge 1 (Qj zf)) (fun hm=>Qk (gr 1 (bi hm fun v51 hx hm=>cp (QhU hx) (re 2 (gr 2 (bi2 hm fun v52 v53 hx hm=>cp (Qh1 hx) (re 6 (gr 2 (bi hm fun v54 hx hm=>cp (Qf4 hx) (Qd 1 (gsb 73 hm (fun hm=>Qd 5 (bi hm fun v55 hx hm=>cp (Jg hx) (re 2 (Qj zf)))) (fun hm=>re 8 (Qj zf)))))))))))))⟩)))))))))))))))))))))))))))))))
theorem Equal_L1:∀ (s t p q:List Int),s.length=t.length→p.length=q.length→Sm (p++s).length→Yy (p++s,q++t,(p.length:Int))=some (if s=t then .inr () else .inl ())
 | [],[],p,q,_,_,hs=>by
  rw [Yy]; simp only [Ze,if_false,if_true]
 | x::s,y::t,p,q,h1,h2,hs=>by
  rw [Yy];have ih:=Equal_L1 s t (p++[x]) (q++[y]) (by simpa using h1) (by simp [h2]) (by rw [← Qt]; exact hs);rw [← Qt,← Qt] at ih;simp only [QN,if_true,Qz,Qb,mid_W hs,ih];rw [h2,Qz];by_cases he:x=y <;> simp [he,Qb]
 | [],_::_,_,_,h,_,_=>by cases h
 | _::_,[],_,_,h,_,_=>by cases h
theorem Equal_ok (a b:List Int) (hs:Sm a.length):ZP (a,b)=some (decide (a=b)):=by
 simp only [ZP];by_cases h:a.length=b.length
 ·have e:=Equal_L1 a b [] [] h rfl hs;have e2:¬ ((a.length:Int)≠(b.length:Int)):=by omega
  simp only [e2,if_false];have e3:Yy (a,b,0)=_:=e;rw [e3];by_cases hab:a=b
  ·subst hab; simp
  ·rw [if_neg hab,zP hab]; rfl
 ·have e2:((a.length:Int)≠(b.length:Int)):=by omega
  have e3:a≠b:=fun e=>h (by rw [e])
  rw [if_pos e2,zP e3]

def prodI (l:List Int):Int:=l.foldl (· * ·) 1
def negB (l:List Int):Bool:=l.any fun d=>decide (d < 0)
def bigB (l:List Int):Bool:=l.any fun d=>decide (d > 65536)
def prodR (l:List Int):Int × Int:=if negB l then (0,6) else if bigB l then (0,7) else if prodI l > 65536 then (0,7) else (prodI l,0)
def checkR (l:List Int):Int:=if negB l then 6 else if l.length > 16∨bigB l=true∨prodI l > 65536 then 7 else 0
def cellsR (l:List Int):Int:=if checkR l=0 then prodI l else 0
theorem foldl_mul:∀ (l:List Int) (x:Int),l.foldl (· * ·) x=x * l.foldl (· * ·) 1
 | [],x=>by simp
 | d::l,x=>by rw [List.foldl_cons,foldl_mul l (x * d),List.foldl_cons,foldl_mul l (1 * d),Int.one_mul,Int.mul_assoc]
theorem prodI_cons (d:Int) (l:List Int):prodI (d::l)=d * prodI l:=by rw [prodI,List.foldl_cons,foldl_mul,Int.one_mul]; rfl
theorem prodI_nil:prodI []=1:=rfl
theorem prodI_append (a b:List Int):prodI (a++b)=prodI a * prodI b:=by rw [prodI,prodI,prodI,List.foldl_append,foldl_mul]
theorem prodI_pos:∀ {l:List Int},(∀ d∈l,1≤d)→1≤prodI l
 | [],_=>by simp [prodI]
 | d::l,h=>by
  have h1:=prodI_pos (l:=l) (fun x hx=>h x (jF _ hx));have h2:=h d (jL ..);rw [prodI_cons];have:=Int.mul_le_mul h2 h1 zV zV;omega
theorem prodI_zero {l:List Int} (h:(0:Int)∈l):prodI l=0:=by
 obtain ⟨s,t,rfl⟩:=List.append_of_mem h;rw [prodI_append,prodI_cons]; simp
theorem negB_cons (d:Int) (l:List Int):negB (d::l)=(decide (d < 0) || negB l):=rfl
theorem bigB_cons (d:Int) (l:List Int):bigB (d::l)=(decide (d > 65536) || bigB l):=rfl

theorem Prod_L1:∀ (s p:List Int) (z:Bool),Sm (p++s).length→ZD (p++s,z,(p.length:Int))=some (if negB s then .inl () else .inr (z || s.any (· == 0)))
 | [],p,z,hs=>by
  rw [ZD]; simp only [Ze,if_false]; simp [negB]
 | x::s,p,z,hs=>by
  rw [ZD];have ih:=fun z=>Prod_L1 s (p++[x]) z (by rw [← Qt]; exact hs)
  rw [← Qt] at ih;simp only [QN,if_true,Qz,Qb,mid_W hs,ih,negB_cons];by_cases hn:x < 0
  ·simp [hn]
  ·cases z <;> by_cases hz:x=0 <;> simp [hn,hz]
theorem Prod_L2:∀ (s p:List Int) (z:Bool),Sm (p++s).length→ZU (p++s,z,(p.length:Int))=some (if bigB s then .inl () else .inr ())
 | [],p,z,hs=>by
  rw [ZU]; simp only [Ze,if_false]; simp [bigB]
 | x::s,p,z,hs=>by
  rw [ZU];have ih:=Prod_L2 s (p++[x]) z (by rw [← Qt]; exact hs);rw [← Qt] at ih;simp only [QN,if_true,Qz,Qb,mid_W hs,ih,bigB_cons];by_cases hn:x > 65536 <;> simp [hn]
theorem Prod_L3:∀ (s p:List Int) (m:Int),Sm (p++s).length→(∀ d∈s,1≤d∧d≤65536)→1≤m→m≤65536→ZV (p++s,m,(p.length:Int))=some (if m * prodI s > 65536 then .inl () else .inr (m * prodI s))
 | [],p,m,hs,hd,h1,h2=>by
  rw [ZV]; simp only [Ze,if_false,prodI_nil,Int.mul_one];rw [if_neg zV]
 | x::s,p,m,hs,hd,h1,h2=>by
  rw [ZV];have hx:=hd x (jL ..);have b1:=Int.mul_le_mul h2 hx.2 zV zV;have b2:=Int.mul_le_mul h1 hx.1 zV zV;have hw:W (m * x)=m * x:=W_ok zV zV;have hds:∀ d∈s,1≤d∧d≤65536:=fun d h=>hd d (jF _ h)
  simp only [QN,if_true,Qz,Qb,mid_W hs,hw,prodI_cons];rw [← Int.mul_assoc];by_cases hn:m * x > 65536
  ·have hp:=prodI_pos (l:=s) (fun d h=>(hds d h).1)
   have:m * x * 1≤m * x * prodI s:=Int.mul_le_mul_of_nonneg_left hp zV
   rw [if_pos hn,if_pos zV]
  ·have ih:=Prod_L3 s (p++[x]) (m * x) (by rw [← Qt]; exact hs) hds zV zV;rw [← Qt] at ih;rw [if_neg hn,ih]
theorem neg_all {l:List Int} (h:negB l=false):∀ d∈l,0≤d:=fun d hd=>by
 have:=List.any_eq_false.1 h d hd;simp at this; omega
theorem big_all {l:List Int} (h:bigB l=false):∀ d∈l,d≤65536:=fun d hd=>by
 have:=List.any_eq_false.1 h d hd;simp at this; omega
theorem Product_ok (l:List Int) (hs:Sm l.length):JB l=some (prodR l):=by
 have e1:ZD (l,false,0)=_:=Prod_L1 l [] false hs;have e2:∀ z,ZU (l,z,0)=_:=fun z=>Prod_L2 l [] z hs
 simp only [JB,e1,Qb,prodR];by_cases hn:negB l=true
 ·simp [hn]
 ·have hn':negB l=false:=by simpa using hn
  simp only [hn',j5,if_false,Bool.false_or,e2,Qb];by_cases hb:bigB l=true
  ·simp [hb]
  ·have hb':bigB l=false:=by simpa using hb
   simp only [hb',j5,if_false];by_cases hz:(l.any (· == 0))=true
   ·have:prodI l=0:=prodI_zero (by simpa using hz)
    simp [hz,this]
   ·have hz':l.any (· == 0)=false:=(Bool.not_eq_true _).mp hz
    have e3:ZV (l,1,0)=_:=Prod_L3 l [] 1 hs (fun d hd=>by
     have h1:=neg_all hn' d hd;have h2:=big_all hb' d hd;have h3:d≠0:=fun e=>by have:=List.any_eq_false.1 hz' d hd; simp [e] at this
     omega) zV zV
    simp only [hz',j5,if_false,e3,Qb,Int.one_mul];by_cases hp:prodI l > 65536 <;> simp [hp]
theorem Check_L1:∀ (s p:List Int),Sm (p++s).length→Yx (p++s,(p.length:Int))=some (if negB s then .inl () else .inr ())
 | [],p,hs=>by
  rw [Yx]; simp only [Ze,if_false]; simp [negB]
 | x::s,p,hs=>by
  rw [Yx];have ih:=Check_L1 s (p++[x]) (by rw [← Qt]; exact hs);rw [← Qt] at ih;simp only [QN,if_true,Qz,Qb,mid_W hs,ih,negB_cons];by_cases hn:x < 0 <;> simp [hn]
theorem Check_ok (l:List Int) (hs:Sm l.length):Yr l=some (checkR l):=by
 have e1:Yx (l,0)=_:=Check_L1 l [] hs;simp only [Yr,e1,Qb,checkR,Product_ok l hs];by_cases hn:negB l=true
 ·simp [hn]
 ·simp only [hn,if_false,prodR,j5];by_cases hl:l.length > 16
  ·have:(l.length:Int) > 16:=by omega
   simp [hl,this,Qb]
  ·have:¬ (l.length:Int) > 16:=by omega
   by_cases hb:bigB l=true
   ·simp [hl,this,hb,Qb]
   ·by_cases hp:prodI l > 65536 <;> simp [hl,this,hb,hp,Qb]
def remL (l:List Int) (k:Nat):List Int:=l.take k++l.drop (k+1)
def insL (l:List Int) (k:Nat) (v:Int):List Int:=l.take k++v::l.drop k
def repL (l:List Int) (k:Nat) (v:Int):List Int:=l.take k++v::l.drop (k+1)
theorem checkR_zero {l:List Int}:checkR l=0↔(∀ d∈l,0≤d∧d≤65536)∧l.length≤16∧prodI l≤65536:=by
 unfold checkR;constructor
 ·intro h;cases hn:negB l
  ·rw [hn,if_neg zZ] at h;split at h
   ·cases h
   ·rename_i h2
    have hb:bigB l=false:=by
     cases hb:bigB l
     ·rfl
     ·exact absurd (Or.inr (Or.inl hb)) h2
    exact ⟨fun d hd=>⟨neg_all hn d hd,big_all hb d hd⟩,by have:=fun h=>h2 (Or.inl h); omega,by have:=fun h=>h2 (Or.inr (Or.inr h)); omega⟩
  ·rw [hn] at h; cases h
 ·rintro ⟨h1,h2,h3⟩
  have hn:negB l=false:=List.any_eq_false.2 fun d hd=>by have:=h1 d hd; simp; omega
  have hb:bigB l=false:=List.any_eq_false.2 fun d hd=>by have:=h1 d hd; simp; omega
  rw [hn,hb,if_neg zZ,if_neg]
  rintro (h|h|h)
  ·omega
  ·cases h
  ·omega
theorem prod_rep (l:List Int) (i:Nat) (x:Int):prodI (repL l i x)=x * prodI (remL l i):=by
 rw [repL,remL,prodI_append,prodI_cons,prodI_append,Int.mul_left_comm]
theorem rep_self {l:List Int} {i:Nat} (hi:i < l.length):repL l i l[i]=l:=by
 rw [repL,← List.drop_eq_getElem_cons hi,zU]
theorem rep_mem {l:List Int} {i:Nat} {x d:Int}:d∈repL l i x↔d=x∨d∈remL l i:=by
 simp only [repL,remL,List.mem_append,List.mem_cons];constructor
 ·rintro (h|h|h)
  ·exact .inr (.inl h)
  ·exact .inl h
  ·exact .inr (.inr h)
 ·rintro (h|h|h)
  ·exact .inr (.inl h)
  ·exact .inl h
  ·exact .inr (.inr h)
theorem rep_len {l:List Int} {i:Nat} {x:Int} (hi:i < l.length):(repL l i x).length=l.length:=by simp [repL]; omega
theorem rem_mem {l:List Int} {i:Nat} {d:Int} (h:d∈remL l i):d∈l:=by
 simp only [remL,List.mem_append] at h;rcases h with h|h
 ·exact zI h
 ·exact List.mem_of_mem_drop h
theorem prodI_nonneg:∀ {l:List Int},(∀ d∈l,0≤d)→0≤prodI l
 | [],_=>by simp [prodI]
 | d::l,h=>by
  rw [prodI_cons];exact Int.mul_nonneg (h d (jL ..)) (prodI_nonneg fun x hx=>h x (jF _ hx))
theorem part_right {l:List Int} {i:Nat} {x y:Int} (hi:i < l.length) (h:checkR (repL l i y)=0) (h0:0≤x) (hx:x≤y):checkR (repL l i x)=0:=by
 obtain ⟨h1,h2,h3⟩:=checkR_zero.1 h;have hr:∀ d∈remL l i,0≤d∧d≤65536:=fun d hd=>h1 d (rep_mem.2 (.inr hd))
 have hy:=h1 y (rep_mem.2 (.inl rfl));refine checkR_zero.2 ⟨fun d hd=>?_,?_,?_⟩
 ·rcases rep_mem.1 hd with rfl|hd
  ·omega
  ·exact hr d hd
 ·rw [rep_len hi] at h2 ⊢; exact h2
 ·rw [prod_rep] at h3 ⊢;have:=Int.mul_le_mul_of_nonneg_right hx (prodI_nonneg fun d hd=>(hr d hd).1);omega
theorem rep_other {a b:List Int} {i:Nat} (ha:i < a.length) (hb:i < b.length) (hrem:remL a i=remL b i) (x:Int):repL a i x=repL b i x:=by
 have e1:a.take i=b.take i:=by
  have:=congrArg (List.take i) hrem
  simpa [remL,List.take_append_of_le_length,Nat.le_of_lt ha,Nat.le_of_lt hb,zL,List.take_take] using this
 have e2:a.drop (i+1)=b.drop (i+1):=by
  have h3:a.take i++a.drop (i+1)=b.take i++b.drop (i+1):=hrem;rw [e1] at h3;exact List.append_cancel_left h3
 rw [repL,repL,e1,e2]
def Dims (X:List Int):Prop:=∀ d∈X,0≤d∧d≤65536
theorem getD_in {X:List Int} {k:Nat} (h:Dims X) (hk:k < X.length):0≤X.getD k 0∧X.getD k 0≤65536:=by
 rw [jA,jB hk]; exact h _ (z0 hk)
theorem idx_getD {X:List Int} {k:Nat} (hk:k < X.length):idx X (k:Int)=some (X.getD k 0):=by
 rw [idx_ok hk,jA,jB hk]; rfl
inductive Below:List Int→List Int→Prop
 | nil:Below [] []
 | cons {x y:Int} {s t:List Int} (h0:0≤x) (h1:x≤y) (h:Below s t):Below (x::s) (y::t)
theorem Below.len {s t:List Int} (h:Below s t):s.length=t.length:=by
 induction h with
 | nil=>rfl
 | cons _ _ _ ih=>simp [ih]
theorem Below.prod {s t:List Int} (h:Below s t):0≤prodI s∧prodI s≤prodI t:=by
 induction h with
 | nil=>simp [prodI]
 | cons h0 h1 _ ih =>
  rw [prodI_cons,prodI_cons];exact ⟨Int.mul_nonneg h0 ih.1,Int.mul_le_mul h1 ih.2 ih.1 zV⟩
theorem Below.dims {s t:List Int} (h:Below s t) (ht:Dims t):Dims s:=by
 induction h with
 | nil=>intro d hd; cases hd
 | @cons x y s t h0 h1 _ ih =>
  intro d hd;rcases List.mem_cons.1 hd with rfl|hd
  ·have:=ht y (jL ..); omega
  ·exact ih (fun z hz=>ht z (jF _ hz)) d hd
theorem Below.right {s t:List Int} (h:Below s t) (ht:checkR t=0):checkR s=0:=by
 obtain ⟨h1,h2,h3⟩:=checkR_zero.1 ht;have:=h.prod;exact checkR_zero.2 ⟨h.dims h1,by rw [h.len]; exact h2,by omega⟩
theorem check_dims {X:List Int} (h0:∀ d∈X,0≤d):checkR X=0∨checkR X=7:=by
 have hn:negB X=false:=List.any_eq_false.2 fun d hd=>by have:=h0 d hd; simp; omega
 unfold checkR;rw [hn];simp only [j5,if_false];split
 ·exact .inr rfl
 ·exact .inl rfl
theorem prodI_ones:∀ n:Nat,prodI (List.replicate n 1)=1
 | 0=>rfl
 | n+1=>by rw [List.replicate_succ,prodI_cons,prodI_ones n]; rfl
theorem check_ones {n:Nat} (h:n≤16):checkR (List.replicate n 1)=0 :=
 checkR_zero.2 ⟨fun d hd=>by rw [List.eq_of_mem_replicate hd]; omega,by simpa using h,by rw [prodI_ones]; omega⟩
theorem Cont1_L1:∀ (s p:List Int),Sm (p++s).length→∃ r,QC (p++s,(p.length:Int))=some r∧(negB s=true→∃ j:Nat,r=.inl (j:Int))∧(negB s=false→r=.inr ())
 | [],p,hs=>by
  rw [QC]; simp only [Ze,if_false]; exact ⟨_,rfl,fun h=>(by cases h),fun _=>rfl⟩
 | x::s,p,hs=>by
  rw [QC];obtain ⟨r,h1,h2,h3⟩:=Cont1_L1 s (p++[x]) (by rw [← Qt]; exact hs);rw [← Qt] at h1;simp only [QN,if_true,Qz,Qb,mid_W hs,QcE,negB_cons];by_cases hn:x < 0
  ·simp only [hn,decide_true,if_true]; exact ⟨_,rfl,fun _=>⟨_,rfl⟩,fun h=>by simp at h⟩
  ·simp only [hn,zQ,j5,if_false,Bool.false_or]; exact ⟨r,h1,h2,h3⟩
theorem Cont1_ok (l:List Int) (hs:Sm l.length):Q2 l=some (negB l):=by
 obtain ⟨r,h1,h2,h3⟩:=Cont1_L1 l [] hs;have e:QC (l,0)=some r:=h1;simp only [Q2,Zy,e,Qb];cases hn:negB l
 ·rw [h3 hn]; rfl
 ·obtain ⟨j,rfl⟩:=h2 hn; simp [Qb]
theorem Cont2_L1:∀ (s p:List Int),Sm (p++s).length→∃ r,QD (p++s,(p.length:Int))=some r∧(bigB s=true→∃ j:Nat,r=.inl (j:Int))∧(bigB s=false→r=.inr ())
 | [],p,hs=>by
  rw [QD]; simp only [Ze,if_false]; exact ⟨_,rfl,fun h=>(by cases h),fun _=>rfl⟩
 | x::s,p,hs=>by
  rw [QD];obtain ⟨r,h1,h2,h3⟩:=Cont2_L1 s (p++[x]) (by rw [← Qt]; exact hs);rw [← Qt] at h1;simp only [QN,if_true,Qz,Qb,mid_W hs,QcF,bigB_cons];by_cases hn:x > 65536
  ·simp only [hn,decide_true,if_true]; exact ⟨_,rfl,fun _=>⟨_,rfl⟩,fun h=>by simp at h⟩
  ·simp only [hn,zQ,j5,if_false,Bool.false_or]; exact ⟨r,h1,h2,h3⟩
theorem Cont2_ok (l:List Int) (hs:Sm l.length):Q3 l=some (bigB l):=by
 obtain ⟨r,h1,h2,h3⟩:=Cont2_L1 l [] hs;have e:QD (l,0)=some r:=h1;simp only [Q3,Zz,e,Qb];cases hn:bigB l
 ·rw [h3 hn]; rfl
 ·obtain ⟨j,rfl⟩:=h2 hn; simp [Qb]
def errR (l:List Int):Int:=if negB l then 6 else if bigB l then 7 else 0
theorem sizecheck_ok (l:List Int) (hs:Sm l.length):Qar l=some (errR l):=by
 simp only [Qar,Cont1_ok l hs,Cont2_ok l hs,Qb,errR];by_cases h1:negB l=true
 ·simp [h1]
 ·by_cases h2:bigB l=true <;> simp [h1,h2]
theorem Index_L1 (v:Int):∀ (s p:List Int),Sm (p++s).length→∃ r,Q8 (p++s,v,(p.length:Int))=some r∧(s.any (v == ·)=true→∃ j:Nat,r=.inl (j:Int))∧(s.any (v == ·)=false→r=.inr ())
 | [],p,hs=>by
  rw [Q8]; simp only [Ze,if_false]; exact ⟨_,rfl,fun h=>(by cases h),fun _=>rfl⟩
 | x::s,p,hs=>by
  rw [Q8];obtain ⟨r,h1,h2,h3⟩:=Index_L1 v s (p++[x]) (by rw [← Qt]; exact hs);rw [← Qt] at h1;simp only [QN,if_true,Qz,Qb,mid_W hs];by_cases hn:v=x
  ·rw [if_pos hn]; exact ⟨_,rfl,fun _=>⟨_,rfl⟩,fun h=>by simp [hn] at h⟩
  ·rw [if_neg hn]; exact ⟨r,h1,fun h=>h2 (by simpa [hn] using h),fun h=>h3 (by simpa [hn] using h)⟩
theorem Contains_ok (l:List Int) (v:Int) (hs:Sm l.length):YI (l,v)=some (l.any (v == ·)):=by
 obtain ⟨r,h1,h2,h3⟩:=Index_L1 v l [] hs;have e:Q8 (l,v,0)=some r:=h1;simp only [YI,X8,e,Qb];cases hn:l.any (v == ·)
 ·rw [h3 hn]; rfl
 ·obtain ⟨j,rfl⟩:=h2 hn; simp [Qb]
theorem Mul_ok {a b:Int} (ha:1≤a∧a≤65536) (hb:1≤b∧b≤65536):QdZ (a,b,65536)=some (if a * b > 65536 then (0,false) else (a * b,true)):=by
 have m1:=Int.mul_le_mul ha.2 hb.2 zV zV;have m2:=Int.mul_le_mul ha.1 hb.1 zV zV;have hq0:(65536:Int).tdiv b=65536 / b:=Int.tdiv_eq_ediv_of_nonneg zV;have hq1:(65536:Int) / b≤65536:=Int.ediv_le_self _ zV;have hq2:0≤(65536:Int) / b:=Int.ediv_nonneg zV zV
 have hq:quoM 65536 b=some (65536 / b):=by
  rw [quoM,if_neg zV,hq0,W_ok zV zV]
 have hlt:(a > 65536 / b)=(a * b > 65536):=by
  have:=Int.ediv_lt_iff_lt_mul (a:=65536) (b:=a) (c:=b) zV;simp only [gt_iff_lt,eq_iff_iff];exact this
 simp only [QdZ,show ¬ a < 0 by omega,show ¬ b < 0 by omega,show ¬ a > 65536 by omega,show ¬ b > 65536 by omega,show b > 0 by omega,if_false,if_true,hq,Qb,hlt,zQ,j5];by_cases h:a * b > 65536
 ·simp [h]
 ·simp only [h,zQ,Qb,j5,if_false]; rw [W_ok zV zV]
theorem foldP_L1:∀ (s p:List Int) (m:Int),Sm (p++s).length→(∀ d∈s,1≤d∧d≤65536)→1≤m→m≤65536 →
  ∃ r,QL (p++s,m,(p.length:Int))=some r∧(m * prodI s > 65536→∃ v,r=.inl v)∧(¬ m * prodI s > 65536→r=.inr (m * prodI s))
 | [],p,m,hs,hd,h1,h2=>by
  rw [QL]; simp only [Ze,if_false,prodI_nil,Int.mul_one];exact ⟨_,rfl,fun h=>zV,fun _=>rfl⟩
 | x::s,p,m,hs,hd,h1,h2=>by
  rw [QL];have hx:=hd x (jL ..);have hds:∀ d∈s,1≤d∧d≤65536:=fun d h=>hd d (jF _ h)
  have b2:=Int.mul_le_mul h1 hx.1 zV zV;simp only [QN,if_true,Qz,Qb,mid_W hs,QbE,Mul_ok ⟨h1,h2⟩ hx,prodI_cons];rw [← Int.mul_assoc];by_cases hn:m * x > 65536
  ·have hp:=prodI_pos (l:=s) (fun d h=>(hds d h).1)
   have:m * x * 1≤m * x * prodI s:=Int.mul_le_mul_of_nonneg_left hp zV
   simp only [hn,if_true,Qb];exact ⟨_,rfl,fun _=>⟨_,rfl⟩,fun h=>absurd h zV⟩
  ·obtain ⟨r,e1,e2,e3⟩:=foldP_L1 s (p++[x]) (m * x) (by rw [← Qt]; exact hs) hds zV zV;rw [← Qt] at e1;simp only [hn,if_false,Qb,jN];exact ⟨r,e1,e2,e3⟩
theorem sProduct_ok (l:List Int) (hs:Sm l.length):J8 l=some (prodR l):=by
 simp only [J8,sizecheck_ok l hs,Qb,YC,prodR,errR];by_cases hn:negB l=true
 ·simp [hn,Qb]
 ·have hn':negB l=false:=(Bool.not_eq_true _).mp hn;by_cases hb:bigB l=true
  ·simp [hn,hb,Qb]
  ·have hb':bigB l=false:=(Bool.not_eq_true _).mp hb;simp only [hn',hb',j5,if_false,if_true,Contains_ok l 0 hs,Qb];by_cases hz:l.any ((0:Int) == ·)=true
   ·have h0:(0:Int)∈l:=by
     obtain ⟨x,hx,he⟩:=List.any_eq_true.1 hz
     have:(0:Int)=x:=by simpa using he
     rw [this]; exact hx
    have:=prodI_zero h0;simp [hz,this,Qb]
   ·have hall:∀ d∈l,1≤d∧d≤65536:=fun d hd=>by
     have h1:=neg_all hn' d hd;have h2:=big_all hb' d hd;have h3:d≠0:=fun e=>hz (List.any_eq_true.2 ⟨d,hd,by simp [e]⟩)
     omega
    obtain ⟨r,e1,e2,e3⟩:=foldP_L1 l [] 1 hs hall zV zV;have e4:QL (l,1,0)=some r:=e1;rw [Int.one_mul] at e2 e3;simp only [hz,if_false,Qb,YD,e4,ne_eq,not_true];by_cases hp:prodI l > 65536
    ·obtain ⟨v,rfl⟩:=e2 hp; simp [hp,Qb]
    ·rw [e3 hp]; simp [hp,Qb]
theorem shapeCheck_ok (l:List Int) (hs:Sm l.length):Zd l=some (checkR l):=by
 simp only [Zd,sProduct_ok l hs,Qb,prodR,checkR];by_cases hn:negB l=true
 ·simp [hn,Qb]
 ·by_cases hl:l.length > 16
  ·have h16:(l.length:Int) > 16:=by omega
   by_cases hb:bigB l=true
   ·simp [hn,hb,hl,h16,Qb]
   ·by_cases hp:prodI l > 65536 <;> simp [hn,hb,hp,hl,h16,Qb]
  ·have h16:¬ (l.length:Int) > 16:=by omega
   by_cases hb:bigB l=true
   ·simp [hn,hb,hl,h16,Qb]
   ·by_cases hp:prodI l > 65536 <;> simp [hn,hb,hp,hl,h16,Qb]
theorem Sm_le {n:Nat} (h:n≤1000):Sm n:=Sm_of (show n≤1000 from h)
theorem Clone_ok (l:List Int) (hl:l.length≤1000):Qs l=some l:=by
 rw [Qs,app_ok (by simp [room]; omega)]; rfl
theorem app1 {l:List Int} {v:Int} (hl:l.length≤100000):app 8 l [v]=some (l++[v]):=app_ok (by simp [room]; omega)
def zeroRule:Qr:=⟨[],[],[],[],0,0,[]⟩
theorem failed_ok (e:Int):Zx e=some (zeroRule,e):=rfl
def absI (v:Int):Int:=if v < 0 then -v else v
def bigM (v:Int):Bool:=decide (v > 65536) || decide (v < -65536)
theorem Mag_ok (v:Int):Jk v=some (if bigM v then (0,7) else (absI v,0)):=by
 simp only [Jk,bigM];by_cases h1:v > 65536
 ·simp [h1,Qb]
 ·by_cases h2:v < -65536
  ·simp [h1,h2,Qb]
  ·have w:W (0 - v)=0 - v:=W_ok zV zV;have e:(if v < 0 - v then 0 - v else v)=absI v:=by unfold absI; split <;> split <;> omega
   simp only [h1,h2,if_false,zQ,Qb,j5,Bool.or_false,w,e]
def seenL (a:List Int) (n:Nat):List Int:=if a=[] then List.replicate n 1 else a
theorem seen_ok (a:List Int) (n:Nat):Qbo (a,(n:Int))=some (if a=[]∧n > 16 then ([],7) else (seenL a n,0)):=by
 simp only [Qbo,Qeo,XW];cases a with
 | cons x a=>rw [if_pos zX]; simp [seenL]
 | nil =>
  rw [if_neg zX];by_cases h:n > 16
  ·rw [if_pos (show (n:Int) > 16 by omega)]; simp [h]
  ·rw [if_neg (show ¬ (n:Int) > 16 by omega),if_pos ⟨by simp,by omega,by omega⟩];simp [h,Qb,seenL]
theorem seen_check {a:List Int} {n:Nat} (h:checkR a=0) (hn:¬ (a=[]∧n > 16)):checkR (seenL a n)=0:=by
 unfold seenL;split
 ·rename_i he; exact check_ones (Nat.le_of_not_lt fun hc=>hn ⟨he,hc⟩)
 ·exact h
def stI (v d:Int):Int:=if v < 0 then d - absI v else 0
theorem zip_mid {f:Int→Int→Int} {p q:List Int} {x y:Int} (h:p.length=q.length):List.zipWith f (p++[x]) (q++[y])=List.zipWith f p q++[f x y]:=by
 rw [List.zipWith_append h]; rfl
theorem take_L1 (sc:Bool):∀ (s t p q:List Int),s.length=t.length→p.length=q.length→(p++s).length≤1000→Dims t →
  ∃ o,YP (⟨p++s,sc⟩,q++t,p.map absI,List.zipWith stI p q,(p.length:Int))=some o ∧
   (s.any bigM=true→∃ m n,o=.inl ([],[],[],[],0,0,[],7,m,n))∧(s.any bigM=false→o=.inr ((p++s).map absI,List.zipWith stI (p++s) (q++t)))
 | [],[],p,q,_,h2,h3,h4=>by
  rw [YP]; simp only [Ze,if_false];exact ⟨_,rfl,(fun h=>by simp at h),(fun _=>by simp)⟩
 | x::s,y::t,p,q,h1,h2,h3,h4=>by
  have hy:=h4 y (jL ..);have hlp:(p.map absI).length≤100000:=by simp at h3 ⊢; omega
  have hlq:(List.zipWith stI p q).length≤100000:=by simp at h3 ⊢; omega
  have hi:idx (q++y::t) (p.length:Int)=some y:=by rw [h2]; exact Qz
  rw [YP];simp only [QN,if_true,Qz,hi,Qb,Mag_ok];cases hb:bigM x with
  | true =>
   simp only [if_true,ne_eq,failed_ok,Qb,zeroRule];rw [if_pos zZ];exact ⟨_,rfl,fun _=>⟨_,_,rfl⟩,fun h=>by simp [hb] at h⟩
  | false =>
   obtain ⟨o,e,ho⟩:=take_L1 sc s t (p++[x]) (q++[y]) (by simpa using h1) (by simp [h2]) (by rw [← Qt]; exact h3) (fun d hd=>h4 d (jF _ hd));rw [← Qt,← Qt,zip_mid h2,zD] at e;rw [← Qt,← Qt] at ho;have hx:-65536≤x∧x≤65536:=by simp [bigM] at hb; omega
   have ha:0≤absI x∧absI x≤65536:=by unfold absI; split <;> omega
   simp only [j5,if_false,app1 hlp,app1 hlq,mid_W (Sm_le h3),Qb];rw [if_neg zZ];have hbs:(x::s).any bigM=s.any bigM:=by simp [hb]
   rw [hbs];by_cases hn:x < 0
   ·have w:W (y - absI x)=stI x y:=by rw [W_ok zV zV]; simp [stI,hn]
    rw [if_pos hn,w];exact ⟨o,e,ho⟩
   ·have w:stI x y=0:=by simp [stI,hn]
    rw [if_neg hn];rw [w] at e;exact ⟨o,e,ho⟩
 | [],_::_,_,_,h,_,_,_=>by cases h
 | _::_,[],_,_,h,_,_,_=>by cases h
def takeE (l a:List Int):Int:=if a=[]∧l.length > 16 then 7 else if l.length≠(seenL a l.length).length then 5 else if l.any bigM then 7 else checkR (l.map absI)
def takeR (l a:List Int):Qr × Int:=if takeE l a=0 then (⟨[],seenL a l.length,l.map absI,List.zipWith stI l (seenL a l.length),-1,0,[]⟩,0) else (zeroRule,takeE l a)
theorem Take_ok (l:List Int) (sc:Bool) (a:List Int) (hl:l.length≤1000) (ha:checkR a=0):Qdr (⟨l,sc⟩,a)=some (takeR l a):=by
 simp only [Qdr,seen_ok,Qb,takeR,takeE];by_cases h1:a=[]∧l.length > 16
 ·rw [if_pos h1]; simp [h1,failed_ok,Qb]
 ·rw [if_neg h1];have hc:=seen_check ha h1;simp only [ne_eq,not_true,if_false];generalize seenL a l.length=r at hc ⊢;obtain ⟨r1,r2,r3⟩:=checkR_zero.1 hc;by_cases h2:l.length=r.length
  ·have h2':¬ ¬ (l.length:Int)=(r.length:Int):=by omega
   rw [if_neg h2'];obtain ⟨o,e,ho1,ho2⟩:=take_L1 sc l r [] [] h2 rfl zW r1;have e':YP (⟨l,sc⟩,r,[],[],0)=some o:=e;rw [e'];simp only [Qb,h2,not_true,if_false,h1];cases hb:l.any bigM with
   | true=>obtain ⟨m,n,rfl⟩:=ho1 hb; simp [zeroRule]
   | false =>
    rw [ho2 hb];have hm:(l.map absI).length≤1000:=by simp; omega
    have hr:r.length≤1000:=by omega
    simp only [jP,JY,Qb,Qa1,shapeCheck_ok _ (Sm_le hm),Clone_ok _ hm,Clone_ok _ hr,Jv,j5,if_false];by_cases h4:checkR (l.map absI)=0
    ·simp [h4,show ¬ 16 < r.length by omega]
    ·simp [h4,zeroRule,show ¬ 16 < r.length by omega]
  ·have h2':(l.length:Int)≠(r.length:Int):=by omega
   rw [if_pos h2']; simp [h1,h2,failed_ok,Qb]
def dropD (d v:Int):Int:=d - (if absI v > d then d else absI v)
def dropS (d v:Int):Int:=if v < 0 then 0 else (if absI v > d then d else absI v)
theorem dropped_ok {d:Int} (hd:0≤d∧d≤65536) (v:Int):Qbn (d,v)=some (dropD d v,dropS d v):=by
 simp only [Qbn,Mag_ok,Qb];have hr:∀ k:Int,0≤k→k≤d→W (d - k)=d - k:=fun k h1 h2=>W_ok zV zV
 have ha:0≤absI v:=by unfold absI; split <;> omega
 cases hb:bigM v with
 | true =>
  have h1:absI v > d:=by simp [bigM] at hb; unfold absI; split <;> omega
  have w:W 0=0:=by have:=hr d hd.1 zV; simpa using this
  by_cases hn:v < 0 <;> simp [Qb,h1,hn,dropD,dropS,w]
 | false =>
  by_cases h1:absI v > d
  ·have w:W 0=0:=by have:=hr d hd.1 zV; simpa using this
   by_cases hn:v < 0 <;> simp [Qb,h1,hn,dropD,dropS,w]
  ·have w:=hr (absI v) ha zV;by_cases hn:v < 0 <;> simp [Qb,h1,hn,dropD,dropS,w]
theorem set_at {α:Type} {p s:List α} {x y:α} {n:Nat} (h:n=p.length):(p++x::s).set n y=p++y::s:=by subst h; simp
theorem drop_L1 (sc:Bool) (v7 v8:List Int):∀ (s p q t:List Int),s.length≤t.length→p.length=q.length→(q++t).length≤1000→v7.length=(q++t).length→v8.length=(q++t).length→Dims t →
  Xj (⟨p++s,sc⟩,q++t,v7,v8,List.zipWith dropD q p++t,List.zipWith dropS q p++List.replicate t.length 0,(p.length:Int))
   = some (List.zipWith dropD q p++(List.zipWith dropD t s++t.drop s.length),List.zipWith dropS q p++(List.zipWith dropS t s++List.replicate (t.length - s.length) 0))
 | [],p,q,t,_,h2,h3,h4,h5,h6=>by
  rw [Xj]; simp only [Ze,if_false]; simp
 | x::s,p,q,y::t,h1,h2,h3,h4,h5,h6=>by
  have hy:=h6 y (jL ..);have hz:(List.zipWith dropD q p).length=p.length:=by simp; omega
  have hz2:(List.zipWith dropS q p).length=p.length:=by simp; omega
  have hi:idx (q++y::t) (p.length:Int)=some y:=by rw [h2]; exact Qz
  have g1:(List.zipWith dropD q p++y::t).length=v7.length:=by rw [h4]; simp; omega
  have g2:(List.zipWith dropS q p++List.replicate (y::t).length 0).length=v8.length:=by rw [h5]; simp; omega
  have j1:p.length < (List.zipWith dropD q p++y::t).length:=by simp; omega
  have j2:p.length < (List.zipWith dropS q p++List.replicate (y::t).length 0).length:=by simp; omega
  have s1:(List.zipWith dropD q p++y::t).set p.length (dropD y x)=List.zipWith dropD (q++[y]) (p++[x])++t:=by
   rw [zip_mid h2.symm,set_at hz.symm]; simp
  have s2:(List.zipWith dropS q p++List.replicate (y::t).length 0).set p.length (dropS y x)=List.zipWith dropS (q++[y]) (p++[x])++List.replicate t.length 0:=by
   rw [zip_mid h2.symm,z8,List.replicate_succ,set_at hz2.symm]; simp
  have ih:=drop_L1 sc v7 v8 s (p++[x]) (q++[y]) t (by simpa using h1) (by simp [h2]) (by rw [← Qt]; exact h3) (by rw [← Qt]; exact h4) (by rw [← Qt]; exact h5) (fun d hd=>h6 d (jF _ hd));rw [← Qt,← Qt] at ih;have hw:W ((p.length:Int)+1)=((p++[x]).length:Int):=by simp at h1 h3; rw [W_ok zV zV]; simp
  have m1:setM (List.zipWith dropD q p++y::t) (p.length:Int) (dropD y x)=some (List.zipWith dropD (q++[y]) (p++[x])++t):=by
   rw [setM,if_pos ⟨by omega,by simpa using j1⟩,Int.toNat_natCast,s1]
  have m2:setM (List.zipWith dropS q p++List.replicate (y::t).length 0) (p.length:Int) (dropS y x)=some (List.zipWith dropS (q++[y]) (p++[x])++List.replicate t.length 0):=by
   rw [setM,if_pos ⟨by omega,by simpa using j2⟩,Int.toNat_natCast,s2]
  have k1:QS ((List.zipWith dropD q p++y::t).length=v7.length)=some ():=if_pos g1;have k2:QS ((List.zipWith dropS q p++List.replicate (y::t).length 0).length=v8.length)=some ():=if_pos g2;rw [Xj];simp only [QN,if_true,Qz,hi,Qb,dropped_ok hy,k1,k2,idx_ok j1,idx_ok j2,m1,m2,hw,ih];rw [zip_mid h2.symm,zip_mid h2.symm];simp
 | _::_,_,_,[],h,_,_,_,_,_=>by simp at h
def dropE (l a:List Int):Int:=if a=[]∧l.length > 16 then 7 else if l.length > (seenL a l.length).length then 5 else 0
def dropL (l r:List Int):List Int:=List.zipWith dropD r l++r.drop l.length
def dropF (l r:List Int):List Int:=List.zipWith dropS r l++List.replicate (r.length - l.length) 0
def dropR (l a:List Int):Qr × Int:=if dropE l a=0 then (⟨[],seenL a l.length,dropL l (seenL a l.length),dropF l (seenL a l.length),-1,0,[]⟩,0) else (zeroRule,dropE l a)
theorem dropD_in {d:Int} (hd:0≤d) (v:Int):0≤dropD d v∧dropD d v≤d:=by
 have ha:0≤absI v:=by unfold absI; split <;> omega
 unfold dropD; split <;> omega
theorem below_drop:∀ (l r:List Int),l.length≤r.length→Dims r→Below (dropL l r) r
 | [],r,_,h=>by
  have:dropL [] r=r:=by simp [dropL]
  rw [this];induction r with
  | nil=>exact .nil
  | cons y r ih=>exact .cons (h y (jL ..)).1 (Int.le_refl _) (ih zX (fun d hd=>h d (jF _ hd)) (by simp [dropL]))
 | x::l,y::r,h1,h=>by
  have e:dropL (x::l) (y::r)=dropD y x::dropL l r:=by simp [dropL]
  have hy:=h y (jL ..);have hd:=dropD_in hy.1 x;rw [e];exact .cons hd.1 hd.2 (below_drop l r (by simpa using h1) fun d hd=>h d (jF _ hd))
 | _::_,[],h,_=>by simp at h
theorem Drop_ok (l:List Int) (sc:Bool) (a:List Int) (hl:l.length≤1000) (ha:checkR a=0):Qch (⟨l,sc⟩,a)=some (dropR l a):=by
 by_cases h1:a=[]∧l.length > 16
 ·simp only [Qch,seen_ok,Qb,dropR,dropE];rw [if_pos h1]; simp [h1,failed_ok,Qb]
 ·have hs:Qbo (a,(l.length:Int))=some (seenL a l.length,0):=by rw [seen_ok,if_neg h1]
  have hc:=seen_check ha h1;unfold dropR dropE;generalize seenL a l.length=r at hs hc ⊢;simp only [Qch,hs,Qb,ne_eq,not_true,if_false];obtain ⟨r1,r2,r3⟩:=checkR_zero.1 hc;by_cases h2:l.length > r.length
  ·rw [if_pos (show (l.length:Int) > (r.length:Int) by omega)]; simp [h1,h2,failed_ok,Qb]
  ·have hr:r.length≤1000:=by omega
   have hm:makeM 8 (r.length:Int) 0=some (List.replicate r.length (0:Int)):=by
    rw [makeM,if_pos ⟨by omega,by simp [room]; omega,by omega⟩]; simp
   have e:=drop_L1 sc r (List.replicate r.length 0) l [] [] r zV rfl (by simpa using hr) rfl zX r1;have e':Xj (⟨l,sc⟩,r,r,List.replicate r.length 0,r,List.replicate r.length 0,0)=some (dropL l r,dropF l r):=e;have hb:=below_drop l r zV r1;have hd:(dropL l r).length≤1000:=by rw [hb.len]; omega
   have hf:(dropF l r).length=r.length:=by simp [dropF]; omega
   rw [if_neg (show ¬ (l.length:Int) > (r.length:Int) by omega)];simp only [Clone_ok _ hr,hm,Qb,e',JZ,Qa3,QS,hb.len,if_true,shapeCheck_ok _ (Sm_le hd),hb.right hc,ne_eq,not_true,if_false,Clone_ok _ hd,Jw,hf,zB,h1,h2]
theorem gEqual_L1:∀ (s t p q:List Int),s.length=t.length→p.length=q.length→Sm (p++s).length→Q5 (p++s,q++t,(p.length:Int))=some (if s=t then .inr () else .inl ())
 | [],[],p,q,_,_,hs=>by
  rw [Q5]; simp only [Ze,if_false,if_true]
 | x::s,y::t,p,q,h1,h2,hs=>by
  rw [Q5];have ih:=gEqual_L1 s t (p++[x]) (q++[y]) (by simpa using h1) (by simp [h2]) (by rw [← Qt]; exact hs);rw [← Qt,← Qt] at ih;simp only [QN,if_true,Qz,Qb,mid_W hs,ih];rw [h2,Qz];by_cases he:x=y <;> simp [he,Qb]
 | [],_::_,_,_,h,_,_=>by cases h
 | _::_,[],_,_,h,_,_=>by cases h
theorem gEqual_ok (a b:List Int) (hs:Sm a.length):YE (a,b)=some (decide (a=b)):=by
 simp only [YE];by_cases h:a.length=b.length
 ·have e:=gEqual_L1 a b [] [] h rfl hs;have e2:¬ ((a.length:Int)≠(b.length:Int)):=by omega
  simp only [e2,if_false];have e3:Q5 (a,b,0)=_:=e;rw [e3];by_cases hab:a=b
  ·subst hab; simp
  ·rw [if_neg hab,zP hab]; rfl
 ·have e2:((a.length:Int)≠(b.length:Int)):=by omega
  have e3:a≠b:=fun e=>h (by rw [e])
  rw [if_pos e2,zP e3]
theorem sEqual_ok (a b:List Int) (hs:Sm a.length):Jf (a,b)=some (decide (a=b)):=by
 simp only [Jf,gEqual_ok a b hs,Qb]
theorem sEqual_ok' (a b:List Int) (hs:Sm b.length):Jf (a,b)=some (decide (a=b)):=by
 by_cases h:a.length=b.length
 ·exact sEqual_ok a b (by rw [h]; exact hs)
 ·have e2:((a.length:Int)≠(b.length:Int)):=by omega
  have e3:a≠b:=fun e=>h (by rw [e])
  simp only [Jf,YE];rw [if_pos e2,zP e3]; rfl
theorem Sum2_ok {a b:Int} (ha:0≤a∧a≤65536) (hb:0≤b∧b≤65536):Qd0 [a,b]=some (if a+b > 65536 then (0,7) else (a+b,0)):=by
 have hs:Sm [a,b].length:=by unfold Sm; simp
 have he:errR [a,b]=0:=by
  have h1:negB [a,b]=false:=by simp [negB]; omega
  have h2:bigB [a,b]=false:=by simp [bigB]; omega
  simp [errR,h1,h2]
 have w0:W (0+a)=a:=by rw [W_ok zV zV]; omega
 have w1:W (a+b)=a+b:=W_ok zV zV;have i0:idx [a,b] 0=some a:=rfl;have i1:idx [a,b] 1=some b:=rfl;have c0:W (0+1)=1:=W_ok zV zV;have c1:W (1+1)=2:=W_ok zV zV
 have hf:QR ([a,b],0,0)=some (if a+b > 65536 then .inl (a+b) else .inr (a+b)):=by
  rw [QR];simp only [z8,jK,i0,Qb,QcD,w0,show a≤65536 from ha.2,decide_true,jN,if_false,c0];rw [if_pos zV,QR];simp only [z8,jK,i1,Qb,QcD,w1,c1];rw [if_pos zV];by_cases h:a+b > 65536
  ·have h':¬ a+b≤65536:=by omega
   simp [h,h']
  ·have h':a+b≤65536:=by omega
   simp only [h',decide_true,jN,if_false];rw [QR];simp [h]
 simp only [Qd0,Xk,sizecheck_ok _ hs,he,Qb,Xl,hf];by_cases h:a+b > 65536 <;> simp [h,Qb]
theorem sub_lo {l:List Int} {k:Nat} (h:k≤l.length):sub l 0 (k:Int)=some (l.take k):=by
 rw [sub,if_pos ⟨by omega,by omega,by omega⟩]; simp
theorem sub_hi {l:List Int} {k:Nat} (h:k≤l.length):sub l (k:Int) (l.length:Int)=some (l.drop k):=by
 rw [sub,if_pos ⟨by omega,by omega,by omega⟩]; simp
theorem Concat_ok (ls:List (List Int)) (h1:ls.length≤1000) (h2:ls.flatten.length≤1000000):Yh ls=some ls.flatten:=if_pos ⟨h1,h2⟩
theorem W_nat {k:Nat} (h:k≤1000000):W ((k:Int)+1)=((k+1:Nat):Int):=W_succ zV
theorem Insert_ok (l:List Int) (k:Nat) (v:Int) (hk:k≤l.length) (hl:l.length≤1000):Qbp (l,(k:Int),v)=some (insL l k v,0):=by
 have c:=Concat_ok [l.take k,[v],l.drop k] zX zW;have a1:¬ ((k:Int) < 0):=by omega
 have a2:¬ ((k:Int) > (l.length:Int)):=by omega
 have a3:¬ ((k:Int) > (k:Int)):=by omega
 simp only [Qbp,Qci,Xy,Qb,sub_lo hk,sub_hi hk,Xn,c,a1,a2,a3,if_false,zQ,j5];simp [insL]
theorem Replace_ok (l:List Int) (k:Nat) (v:Int) (hk:k < l.length) (hl:l.length≤1000):X2 (l,(k:Int),v)=some (repL l k v,0):=by
 have c:=Concat_ok [l.take k,[v],l.drop (k+1)] zX zW;have a0:¬ ((k:Int)≥(l.length:Int)):=by omega
 have a1:¬ ((k:Int) < 0):=by omega
 have a2:¬ (((k+1:Nat):Int) > (l.length:Int)):=by omega
 have a3:¬ ((k:Int) > ((k+1:Nat):Int)):=by omega
 simp only [X2,Qci,W_nat (show k≤1000000 by omega),Xz,Qb,sub_lo (show k≤l.length by omega),sub_hi (show k+1≤l.length by omega),Xn,c,a0,a1,a2,a3,if_false,zQ,j5];simp [repL]
theorem Remove_ok (l:List Int) (k:Nat) (hk:k < l.length) (hl:l.length≤1000):XJ (l,(k:Int))=some (remL l k,0):=by
 have c:=Concat_ok [l.take k,[],l.drop (k+1)] zX zW;have a0:¬ ((k:Int)≥(l.length:Int)):=by omega
 have a1:¬ ((k:Int) < 0):=by omega
 have a2:¬ (((k+1:Nat):Int) > (l.length:Int)):=by omega
 have a3:¬ ((k:Int) > ((k+1:Nat):Int)):=by omega
 simp only [XJ,W_nat (show k≤1000000 by omega),Xx,Qb,sub_lo (show k≤l.length by omega),sub_hi (show k+1≤l.length by omega),QbC,c,a0,a1,a2,a3,if_false,zQ,j5];simp [remL]
theorem insL_len (p:List Int) (k:Nat) (v:Int):(insL p k v).length=p.length+1:=by simp [insL]; omega
theorem remL_len {l:List Int} {k:Nat} (hk:k < l.length):(remL l k).length+1=l.length:=by simp [remL]; omega
def sumAt (X Y:List Int) (k:Nat):Int:=X.getD k 0+Y.getD k 0
def tailE (X Y:List Int) (k:Nat):Int:=if remL X k≠remL Y k then 5 else if checkR (repL X k (sumAt X Y k))≠0 then 7 else 0
theorem big_rep {X:List Int} {k:Nat} {n:Int} (hX:Dims X) (h0:0≤n) (hn:n > 65536):checkR (repL X k n)≠0:=fun h=>by
 have:=(checkR_zero.1 h).1 n (rep_mem.2 (.inl rfl)); omega
theorem check_rep {X:List Int} {k:Nat} {n:Int} (hX:Dims X) (h0:0≤n) (h:checkR (repL X k n)≠0):checkR (repL X k n)=7:=by
 have hn:negB (repL X k n)=false:=List.any_eq_false.2 fun d hd=>by
  have:0≤d:=by
   rcases rep_mem.1 hd with rfl|h
   ·exact h0
   ·exact (hX d (rem_mem h)).1
  simp; omega
 unfold checkR at h ⊢;rw [hn] at h ⊢;simp only [j5,if_false] at h ⊢;split
 ·rfl
 ·rename_i h2; rw [if_neg h2] at h; exact absurd rfl h
theorem cat_tail {p0:Int} {a b X Y:List Int} {k R:Nat} (hR:(max (max (a.length:Int) (b.length:Int)) 1)=(R:Int)) (hk:k < R) (hR16:R≤16) (hax:(if p0=-1 then some (W ((R:Int) - 1)) else some p0)=some (k:Int))
  (hX:Yn (a,b,(R:Int),(k:Int))=some (X,0)) (hY:Yn (b,a,(R:Int),(k:Int))=some (Y,0)) (lX:X.length=R) (lY:Y.length=R) (dX:Dims X) (dY:Dims Y) :
  Xr (p0,a,b)=some (if tailE X Y k=0 then ⟨X,Y,repL X k (sumAt X Y k),[],k,0,[]⟩ else zeroRule,tailE X Y k):=by
 have hkX:k < X.length:=by omega
 have hkY:k < Y.length:=by omega
 have gX:=getD_in dX hkX;have gY:=getD_in dY hkY;have eX:XJ (X,(k:Int))=_:=Remove_ok X k hkX zV;have eY:XJ (Y,(k:Int))=_:=Remove_ok Y k hkY zV;have rX:=remL_len hkX;have e0:∀ n:Int,X2 (X,(k:Int),n)=some (repL X k n,0):=fun n=>Replace_ok X k n hkX zV
 simp only [Xr,hR,hax,Qb,hX,hY];rw [if_neg (show ¬ ((k:Int)≥(R:Int)) by omega)];simp only [ne_eq,not_true,if_false,Qb,bne_self_eq_false,j5,Qda,eX,eY,sEqual_ok _ _ (Sm_le (show (remL X k).length≤1000 by omega)),idx_getD hkX,idx_getD hkY,Sum2_ok gX gY,e0];unfold tailE;by_cases h1:remL X k=remL Y k
 ·rw [decide_eq_true h1];simp only [jN,if_false,h1,not_true,ne_eq];by_cases h2:X.getD k 0+Y.getD k 0 > 65536
  ·have h3:checkR (repL X k (sumAt X Y k))≠0:=big_rep dX (by unfold sumAt; omega) h2;simp only [h2,if_true,Qb,h3,z5,failed_ok];rfl
  ·simp only [h2,if_false,Qb,not_true,Xw,Qa0,Clone_ok Y (show Y.length≤1000 by omega),JK,XS];have e5:(repL X k (X.getD k 0+Y.getD k 0)).length≤1000:=by rw [rep_len hkX]; omega
   rw [shapeCheck_ok _ (Sm_le e5),Clone_ok _ e5];have e6:X.getD k 0+Y.getD k 0=sumAt X Y k:=rfl;rw [e6];by_cases h4:checkR (repL X k (sumAt X Y k))=0
   ·simp [h4,Qb]
   ·have h7:=check_rep dX (by unfold sumAt; omega) h4;simp [h7,Qb,zeroRule]
 ·rw [zP h1];simp [h1,Qb,failed_ok]
theorem ins_mem {l:List Int} {i:Nat} {x d:Int} (h:d∈insL l i x):d=x∨d∈l:=by
 simp only [insL,List.mem_append,List.mem_cons] at h;rcases h with h|h|h
 ·exact .inr (zI h)
 ·exact .inl h
 ·exact .inr (List.mem_of_mem_drop h)
def widR (a b:List Int) (R k:Nat):List Int:=if a.length=R then a else if a.length+1=R then insL a k 1 else repL b k 1
theorem widR_dims {a b:List Int} {R k:Nat} (ha:Dims a) (hb:Dims b):Dims (widR a b R k):=by
 intro d hd;unfold widR at hd;split at hd
 ·exact ha d hd
 ·split at hd
  ·rcases ins_mem hd with rfl|h
   ·omega
   ·exact ha d h
  ·rcases rep_mem.1 hd with rfl|h
   ·omega
   ·exact hb d (rem_mem h)
theorem widR_len {a b:List Int} {R k:Nat} (hk:k < R) (h:a.length=R∨a.length+1=R∨b.length=R):(widR a b R k).length=R:=by
 unfold widR;split
 ·assumption
 ·split
  ·rw [insL_len]; assumption
  ·rw [rep_len zV]; omega
theorem wid_ok {a b:List Int} {R k:Nat} (hk:k < R) (hR:R≤16) (h:a.length=R∨a.length+1=R∨(a.length=0∧b.length=R)):Yn (a,b,(R:Int),(k:Int))=some (widR a b R k,0):=by
 have wR:W ((R:Int) - 1)=(R:Int) - 1:=W_ok zV zV;simp only [Yn,wR,widR];by_cases h1:a.length=R
 ·rw [if_pos zV,if_pos h1,Clone_ok a zV]; rfl
 ·rw [if_neg zV,if_neg h1];by_cases h2:a.length+1=R
  ·rw [if_pos zV,if_pos h2,Insert_ok a k 1 zV zV]; rfl
  ·rw [if_neg zV,if_neg h2,if_pos zV,Replace_ok b k 1 zV zV]; rfl
theorem wid_bad {a b:List Int} {R k:Nat} (hR:R≤16) (h1:a.length≠R) (h2:a.length+1≠R) (h3:a.length≠0):Yn (a,b,(R:Int),(k:Int))=some ([],4):=by
 by_cases hz:R=0
 ·subst hz;have wR:W (((0:Nat):Int) - 1)=-1:=W_ok zV zV;simp only [Yn,wR];rw [if_neg zV,if_neg zV,if_neg zV]
 ·have wR:W ((R:Int) - 1)=(R:Int) - 1:=W_ok zV zV;simp only [Yn,wR];rw [if_neg zV,if_neg zV,if_neg zV]

def catR (p0:Int) (a b:List Int):Qr × Int :=
 let R:=max (max a.length b.length) 1
 let k:=(if p0=-1 then (R:Int) - 1 else p0).toNat
 if p0≥(R:Int) then (zeroRule,4)
 else if (a.length≠R∧a.length+1≠R∧a.length≠0)∨(b.length≠R∧b.length+1≠R∧b.length≠0) then (zeroRule,4)
 else if tailE (widR a b R k) (widR b a R k) k=0 then (⟨widR a b R k,widR b a R k,repL (widR a b R k) k (sumAt (widR a b R k) (widR b a R k) k),[],k,0,[]⟩,0)
 else (zeroRule,tailE (widR a b R k) (widR b a R k) k)
theorem Cat_ok {p0:Int} {a b:List Int} (hp:-1≤p0) (la:a.length≤16) (lb:b.length≤16) (da:Dims a) (db:Dims b):Xr (p0,a,b)=some (catR p0 a b):=by
 unfold catR;obtain ⟨R,hRdef⟩:∃ R,R=max (max a.length b.length) 1:=⟨_,rfl⟩;have hR:(max (max (a.length:Int) (b.length:Int)) 1)=(R:Int):=by omega
 have hR16:R≤16:=by omega
 have wR:W ((R:Int) - 1)=(R:Int) - 1:=W_ok zV zV;simp only [← hRdef];by_cases hbig:p0≥(R:Int)
 ·rw [if_pos hbig];simp only [Xr,hR,show ¬ p0=-1 by omega,if_false,Qb,hbig,if_true,failed_ok]
 obtain ⟨k,hk⟩:∃ k:Nat,(k:Int)=if p0=-1 then (R:Int) - 1 else p0:=by
  by_cases h:p0=-1
  ·exact ⟨R - 1,by rw [if_pos h]; omega⟩
  ·exact ⟨p0.toNat,by rw [if_neg h]; omega⟩
 have hkR:k < R:=by by_cases h:p0=-1 <;> simp [h] at hk <;> omega
 have hax1:(if p0=-1 then some (W ((R:Int) - 1)) else some p0)=some (k:Int):=by
  rw [wR,hk]; by_cases h:p0=-1 <;> simp [h]
 rw [if_neg hbig,← hk,Int.toNat_natCast];by_cases hbad:(a.length≠R∧a.length+1≠R∧a.length≠0)∨(b.length≠R∧b.length+1≠R∧b.length≠0)
 ·rw [if_pos hbad];simp only [Xr,hR,hax1,Qb];rw [if_neg (show ¬ ((k:Int)≥(R:Int)) by omega)];rcases hbad with ⟨h1,h2,h3⟩|⟨h1,h2,h3⟩
  ·have hb:b.length=R:=by omega
   rw [wid_bad hR16 h1 h2 h3,wid_ok hkR hR16 (.inl hb)]; rfl
  ·have ha:a.length=R:=by omega
   rw [wid_bad hR16 h1 h2 h3,wid_ok hkR hR16 (.inl ha)]; rfl
 ·have hA:a.length=R∨a.length+1=R∨(a.length=0∧b.length=R):=by omega
  have hB:b.length=R∨b.length+1=R∨(b.length=0∧a.length=R):=by omega
  rw [if_neg hbad,cat_tail hR hkR hR16 hax1 (wid_ok hkR hR16 hA) (wid_ok hkR hR16 hB) (widR_len hkR zV) (widR_len hkR zV) (widR_dims da db) (widR_dims db da)];split <;> rename_i h
  ·rw [h]
  ·rfl
theorem guardT {h:Decidable True}:@QS True h=some ():=if_pos trivial
theorem Clone64_ok (l:List Int) (hl:l.length≤1000):Yp l=some l:=by
 rw [Yp,app_ok (by simp [room]; omega)]; rfl
theorem room_ok (n:Nat) (h:n≤1000):QS (0≤(n:Int)∧(n:Int) * (8:Int)≤(room:Int)∧(n:Int)≤9223372036854775807)=some ():=if_pos ⟨by omega,by simp [room]; omega,by omega⟩
def setOf (l:List Int):List Int:=l.foldl insK []
theorem setOf_snoc (l:List Int) (x:Int):setOf (l++[x])=insK (setOf l) x:=by simp [setOf]
theorem mem_insK {l:List Int} {x y:Int}:y∈insK l x↔y∈l∨y=x:=by
 unfold insK;split
 ·rename_i h;constructor
  ·exact .inl
  ·rintro (h'|rfl)
   ·exact h'
   ·exact h
 ·simp
theorem insK_nodup {l:List Int} {x:Int} (h:l.Nodup):(insK l x).Nodup:=by
 unfold insK;split
 ·exact h
 ·rename_i hx;rw [List.nodup_append];exact ⟨h,by simp,fun a ha b hb=>by rw [List.mem_singleton] at hb; subst hb; exact fun e=>hx (e ▸ ha)⟩
theorem snocInd {α:Type} {P:List α→Prop} (h0:P []) (h1:∀ l x,P l→P (l++[x])) (l:List α):P l:=by
 have:∀ m:List α,P m.reverse:=fun m=>by
  induction m with
  | nil=>exact h0
  | cons x m ih=>rw [List.reverse_cons]; exact h1 _ _ ih
 have:=this l.reverse
 rwa [List.reverse_reverse] at this
theorem mem_setOf (l:List Int):∀ y,y∈setOf l↔y∈l:=by
 induction l using snocInd with
 | h0=>intro y; simp [setOf]
 | h1 l x ih=>intro y; rw [setOf_snoc,mem_insK,ih]; simp
theorem setOf_nodup (l:List Int):(setOf l).Nodup:=by
 induction l using snocInd with
 | h0=>simp [setOf]
 | h1 l x ih=>rw [setOf_snoc]; exact insK_nodup ih
def inR (n:Nat) (v:Int):Bool:=decide (0≤v) && decide (v < (n:Int))
theorem conv_L1 (q1:List Int) (q2:Bool) (n:Nat):∀ (s p:List Int),(p++s).length≤1000→∃ o,QJ (p++s,q1,q2,(n:Int),setOf p,p,(p.length:Int))=some o ∧
  (s.all (inR n)=true→o=.inr (setOf (p++s),p++s))∧(s.all (inR n)=false→∃ a m,o=.inl (a,6,m))
 | [],p,hs=>by
  rw [QJ]; simp only [Ze,if_false];exact ⟨_,rfl,(fun _=>by simp),(fun h=>by simp at h)⟩
 | x::s,p,hs=>by
  rw [QJ];have hlp:p.length≤100000:=by simp at hs; omega
  simp only [QN,if_true,Qz,Qb,Xm,mid_W (Sm_le hs)];by_cases h1:x < 0
  ·simp only [h1,if_true,Qb,ne_eq];rw [if_pos zZ];exact ⟨_,rfl,(fun h=>by simp [inR,show ¬ 0≤x by omega] at h),(fun _=>⟨_,_,rfl⟩)⟩
  ·by_cases h2:x≥(n:Int)
   ·simp only [h1,if_false,Qb,h2,decide_true,if_true,ne_eq];rw [if_pos zZ];exact ⟨_,rfl,(fun h=>by simp [inR,show ¬ x < (n:Int) by omega] at h),(fun _=>⟨_,_,rfl⟩)⟩
   ·obtain ⟨o,e,ho⟩:=conv_L1 q1 q2 n s (p++[x]) (by rw [← Qt]; exact hs);rw [← Qt,setOf_snoc] at e;rw [← Qt] at ho;have hx:inR n x=true:=by simp [inR]; omega
    have ha:(x::s).all (inR n)=s.all (inR n):=by simp [hx]
    rw [ha];simp only [h1,if_false,Qb,h2,zQ,j5,ne_eq,not_true,app1 hlp,e];exact ⟨o,rfl,ho⟩
def maxF (l:List Int) (m:Int):Int:=l.foldl (fun a x=>if a < x then x else a) m
def maxL (l:List Int):Int:=match l with|[]=>0|x::s=>maxF s x
theorem max_L1:∀ (s p:List Int) (m:Int),(p++s).length≤1000→Zh (p++s,m,(p.length:Int))=some (maxF s m)
 | [],p,m,hs=>by
  rw [Zh]; simp only [Ze,if_false]; rfl
 | x::s,p,m,hs=>by
  rw [Zh];have ih:=max_L1 s (p++[x]) (if m < x then x else m) (by rw [← Qt]; exact hs);rw [← Qt] at ih;simp only [QN,if_true,Qz,Qb,mid_W (Sm_le hs),ih]; rfl
theorem Max_ok {l:List Int} (hl:l.length≤1000) (h0:l≠[]):Y5 l=some (maxL l):=by
 cases l with
 | nil=>exact absurd rfl h0
 | cons x s =>
  have e:Zh (x::s,x,1)=some (maxF s x):=max_L1 s [x] x hl;have hi:idx (x::s) 0=some x:=rfl;simp only [Y5,hi,Qb,e];rw [if_neg zW]; rfl
theorem maxF_ge:∀ (l:List Int) (m:Int),m≤maxF l m∧(∀ x∈l,x≤maxF l m)∧(maxF l m=m∨maxF l m∈l)
 | [],m=>⟨Int.le_refl _,by simp,.inl rfl⟩
 | y::l,m=>by
  obtain ⟨h1,h2,h3⟩:=maxF_ge l (if m < y then y else m);have e:maxF (y::l) m=maxF l (if m < y then y else m):=rfl;rw [e];have hm:m≤(if m < y then y else m)∧y≤(if m < y then y else m)∧((if m < y then y else m)=m∨(if m < y then y else m)=y):=by split <;> omega
  refine ⟨by omega,fun x hx=>?_,?_⟩
  ·rcases List.mem_cons.1 hx with rfl|hx
   ·omega
   ·exact h2 x hx
  ·rcases h3 with h3|h3
   ·rcases hm.2.2 with h|h
    ·left; omega
    ·right; rw [h3,h]; exact jL ..
   ·right; exact jF _ h3
theorem maxL_ge {l:List Int} (h0:l≠[]):(∀ x∈l,x≤maxL l)∧maxL l∈l:=by
 cases l with
 | nil=>exact absurd rfl h0
 | cons y l =>
  obtain ⟨h1,h2,h3⟩:=maxF_ge l y;refine ⟨fun x hx=>?_,?_⟩
  ·rcases List.mem_cons.1 hx with rfl|hx
   ·exact h1
   ·exact h2 x hx
  ·show maxF l y∈y::l
   rcases h3 with h3|h3
   ·rw [h3]; exact jL ..
   ·exact jF _ h3
def permE (v:List Int) (n:Nat):Int:=if v.length≠n then 5 else if v.all (inR n)=false then 6 else if n > 0∧((setOf v).length:Int)≠maxL v+1 then 6 else 0
theorem Permutation_ok (v:List Int) (sc:Bool) (n:Nat) (hv:v.length≤1000):Js (⟨v,sc⟩,(n:Int))=some (if permE v n=0 then (v,0) else ([],permE v n)):=by
 simp only [Js,J9,permE];by_cases h1:v.length=n
 ·subst h1;obtain ⟨o,e,h2,h3⟩:=conv_L1 v sc v.length v [] zW;have e':QJ (v,v,sc,(v.length:Int),[],[],0)=some o:=e;simp only [if_false,Clone64_ok v zV,Qb,ne_eq,not_true,Ye,room_ok _ (show v.length≤1000 by omega),e'];cases ha:v.all (inR v.length) with
  | false =>
   obtain ⟨a,m,rfl⟩:=h3 ha;simp [Qb]
  | true =>
   rw [h2 ha];simp only [jP,jN,if_false,Qb];by_cases h4:v.length > 0
   ·have hn:v≠[]:=by intro h; subst h; simp at h4
    have hm:0≤maxL v∧maxL v < v.length:=by
     have:=List.all_eq_true.1 ha _ (maxL_ge hn).2
     simpa [inR] using this
    have w:W (maxL v+1)=maxL v+1:=W_ok zV zV;simp only [show (v.length:Int) > 0 by omega,if_true,Max_ok (show v.length≤1000 by omega) hn,Qb,w,h4,true_and];by_cases h5:((setOf v).length:Int)=maxL v+1 <;> simp [h5]
   ·simp only [h4,Qb,show ¬ (v.length:Int) > 0 by omega,if_false,false_and,if_true]; rfl
 ·have h1':(v.length:Int)≠(n:Int):=by omega
  simp only [h1',if_true,Qb,ne_eq,z5,h1];simp
def padTo (l:List Int) (j:Nat):List Int:=l++List.replicate (j+1 - l.length) 65536
def minI (a b:Int):Int:=if b < a then b else a
def stepP (l:List Int) (j:Nat) (x:Int):List Int:=(padTo l j).set j (minI ((padTo l j).getD j 0) x)
def permF:List Int→List Int→List Int→List Int
 | l,j::p,x::a=>permF (stepP l j.toNat x) p a
 | l,_,_=>l
def permL (p a:List Int):List Int:=permF [] p a
theorem padTo_len (l:List Int) (j:Nat):(padTo l j).length=max l.length (j+1):=by simp [padTo]; omega
theorem stepP_len (l:List Int) (j:Nat) (x:Int):(stepP l j x).length=max l.length (j+1):=by simp [stepP,padTo_len]
theorem pad_L2 (j:Nat) (hj:j < 100) (p1:List Int) (v204:Int) (p0:List Int):∀ (m:Nat) (l:List Int) (g:Nat),m=j+1 - l.length→l.length≤1000→∃ g',Ym ((j:Int),p1,v204,p0,g,l,l.length)=some (g',padTo l j,(padTo l j).length)
 | 0,l,g,hm,hl=>by
  have h:¬ (l.length:Int)≤(j:Int):=by omega
  rw [Ym];simp only [h,if_false];refine ⟨g,?_⟩
  have:padTo l j=l:=by unfold padTo; rw [← hm]; simp
  rw [this]
 | m+1,l,g,hm,hl=>by
  have h:(l.length:Int)≤(j:Int):=by omega
  obtain ⟨g',e⟩:=pad_L2 j hj p1 v204 p0 m (l++[65536]) (gb g ([65536]:List Int).isEmpty) zW zW;rw [Ym];have hg:QS (l.length=l.length)=some ():=if_pos rfl;simp only [h,if_true,hg,Qb,app1 (show l.length≤100000 by omega),e]
  have hp:padTo (l++[65536]) j=padTo l j:=by
   unfold padTo;rw [List.append_assoc,jU,List.length_singleton,show j+1 - l.length=(j+1 - (l.length+1))+1 by omega,List.replicate_succ]; rfl
  rw [hp];exact ⟨g',rfl⟩
theorem perm_L1:∀ (s t p q l:List Int) (g:Nat),s.length=t.length→p.length=q.length→(p++s).length≤100→(∀ x∈s,0≤x∧x < 100)→l.length≤100 →
  ∃ g',ZW (p++s,q++t,g,l,l.length,(p.length:Int))=some (g',permF l s t,(permF l s t).length)
 | [],[],p,q,l,g,_,h2,h3,h4,h5=>by
  rw [ZW]; simp only [Ze,if_false];exact ⟨g,rfl⟩
 | j::s,x::t,p,q,l,g,h1,h2,h3,h4,h5=>by
  have hj:=h4 j (jL ..);obtain ⟨k,rfl⟩:=jZ hj.1;obtain ⟨g1,e1⟩:=pad_L2 k zV (q++x::t) (p.length:Int) (p++(k:Int)::s) (k+1 - l.length) l g rfl zV;obtain ⟨g2,e2⟩:=perm_L1 s t (p++[(k:Int)]) (q++[x]) (stepP l k x) g1 (by simpa using h1) (by simp [h2]) (by rw [← Qt]; exact h3) (fun y hy=>h4 y (jF _ hy)) (by rw [stepP_len]; omega);rw [← Qt,← Qt] at e2;have hk:k < (padTo l k).length:=by rw [padTo_len]; omega
  have hi:idx (q++x::t) (p.length:Int)=some x:=by rw [h2]; exact Qz
  have hs:setM (padTo l k) (k:Int) (minI ((padTo l k).getD k 0) x)=some (stepP l k x):=by
   rw [setM,if_pos ⟨by omega,by simpa using hk⟩,Int.toNat_natCast]; rfl
  have hg:QS ((padTo l k).length=(padTo l k).length)=some ():=if_pos rfl;have hlen:(padTo l k).length=(stepP l k x).length:=by rw [padTo_len,stepP_len]
  rw [ZW];have hmin:(if x < (padTo l k).getD k 0 then x else (padTo l k).getD k 0)=minI ((padTo l k).getD k 0) x:=rfl;simp only [QN,if_true,Qz,hi,Qb,e1,hg,idx_getD hk,hmin,hs,mid_W (Sm_le (show (p++(k:Int)::s).length≤1000 by omega))];rw [hlen,e2];exact ⟨g2,rfl⟩
 | [],_::_,_,_,_,_,h,_,_,_,_=>by cases h
 | _::_,[],_,_,_,_,h,_,_,_,_=>by cases h
theorem permF_len:∀ (s t l:List Int),(∀ x∈s,0≤x∧x < 100)→l.length≤100→(permF l s t).length≤100
 | [],_,l,_,h=>by unfold permF; exact h
 | _::_,[],l,_,h=>by unfold permF; exact h
 | j::s,x::t,l,hs,h=>by
  have hj:=hs j (jL ..);rw [permF];exact permF_len s t _ (fun y hy=>hs y (jF _ hy)) (by rw [stepP_len]; omega)
def transE (v a:List Int):Int:=if permE v a.length=0 then checkR (permL v a) else permE v a.length
def transR (v a:List Int):Qr × Int:=if transE v a=0 then (⟨[],a,permL v a,[],-1,0,v⟩,0) else (zeroRule,transE v a)
theorem permE_zero {v:List Int} {n:Nat} (h:permE v n=0):v.length=n∧(∀ x∈v,0≤x∧x < (n:Int))∧(n > 0→((setOf v).length:Int)=maxL v+1):=by
 unfold permE at h;by_cases h1:v.length=n
 ·rw [if_neg zV] at h;cases ha:v.all (inR n) with
  | false=>rw [if_pos ha] at h; cases h
  | true =>
   rw [if_neg (by rw [ha]; decide)] at h;refine ⟨h1,fun x hx=>by have:=List.all_eq_true.1 ha x hx; simpa [inR] using this,fun hn=>?_⟩;by_cases h5:((setOf v).length:Int)=maxL v+1
   ·exact h5
   ·rw [if_pos ⟨hn,h5⟩] at h; cases h
 ·rw [if_pos h1] at h; cases h
theorem permuted_ok (v a:List Int) (ha:a.length≤16) (hl:v.length=a.length) (hv:∀ x∈v,0≤x∧x < (a.length:Int)):JD (v,a)=some (if checkR (permL v a)=0 then (⟨[],a,permL v a,[],-1,0,v⟩,0) else (zeroRule,checkR (permL v a))):=by
 have hv':∀ x∈v,0≤x∧x < 100:=fun x hx=>by have:=hv x hx; omega
 obtain ⟨g,e⟩:=perm_L1 v a [] [] [] 0 hl rfl zW hv' zX;have e':ZW (v,a,0,[],([]:List Int).length,0)=some (g,permL v a,(permL v a).length):=e;have hL:(permL v a).length≤100:=permF_len v a [] hv' zX;have hg:QS ((permL v a).length=(permL v a).length)=some ():=if_pos rfl;simp only [JD,e',Qb,QaY,hg,shapeCheck_ok _ (Sm_le (show (permL v a).length≤1000 by omega)),Clone_ok a zV,Clone_ok _ (show (permL v a).length≤1000 by omega),XV];by_cases h:checkR (permL v a)=0
 ·simp [h,guardT]
 ·simp [h,zeroRule,guardT]
theorem Transpose_ok (v:List Int) (sc:Bool) (a:List Int) (hv:v.length≤1000) (ha:a.length≤16):J7 (⟨v,sc⟩,a)=some (transR v a):=by
 simp only [J7,Permutation_ok v sc a.length hv,Qb,transR,transE];by_cases h:permE v a.length=0
 ·obtain ⟨h1,h2,h3⟩:=permE_zero h;simp only [h,if_true,ne_eq,not_true,if_false,permuted_ok v a ha h1 h2,Qb]
 ·simp [h,failed_ok,Qb]
theorem dimN_L1:∀ (s p:List Int),Sm (p++s).length→∃ r,Qy (p++s,(p.length:Int))=some r∧(negB s=true→∃ j:Nat,r=.inl (j:Int))∧(negB s=false→r=.inr ())
 | [],p,hs=>by
  rw [Qy]; simp only [Ze,if_false]; exact ⟨_,rfl,fun h=>(by cases h),fun _=>rfl⟩
 | x::s,p,hs=>by
  rw [Qy];obtain ⟨r,h1,h2,h3⟩:=dimN_L1 s (p++[x]) (by rw [← Qt]; exact hs);rw [← Qt] at h1;simp only [QN,if_true,Qz,Qb,mid_W hs,J0,negB_cons];by_cases hn:x < 0
  ·simp only [hn,decide_true,if_true]; exact ⟨_,rfl,fun _=>⟨_,rfl⟩,fun h=>by simp at h⟩
  ·simp only [hn,zQ,j5,if_false,Bool.false_or]; exact ⟨r,h1,h2,h3⟩
theorem dimN_ok (l:List Int) (hs:Sm l.length):QO l=some (negB l):=by
 obtain ⟨r,h1,h2,h3⟩:=dimN_L1 l [] hs;have e:Qy (l,0)=some r:=h1;simp only [QO,Q7,e,Qb];cases hn:negB l
 ·rw [h3 hn]; rfl
 ·obtain ⟨j,rfl⟩:=h2 hn; simp [Qb]
theorem dimC_L1 (sc:Bool):∀ (s p:List Int),(p++s).length≤1000→negB s=false→∃ o,QI (p++s,sc,p,(p.length:Int))=some o ∧
  (bigB s=true→∃ m,o=.inl (7,m))∧(bigB s=false→o=.inr (p++s))
 | [],p,hs,_=>by
  rw [QI]; simp only [Ze,if_false];exact ⟨_,rfl,(fun h=>by simp [bigB] at h),(fun _=>by simp)⟩
 | x::s,p,hs,hn=>by
  rw [QI];have hlp:p.length≤100000:=by simp at hs; omega
  rw [negB_cons,Bool.or_eq_false_iff] at hn;have hx:¬ x < 0:=by simpa using hn.1
  simp only [QN,if_true,Qz,Qb,mid_W (Sm_le hs),QbD,hx,if_false,bigB_cons];by_cases hb:x > 65536
  ·simp only [hb,if_true,Qb,ne_eq];rw [if_pos zZ];exact ⟨_,rfl,(fun _=>⟨_,rfl⟩),(fun h=>by simp at h)⟩
  ·obtain ⟨o,e,ho⟩:=dimC_L1 sc s (p++[x]) (by rw [← Qt]; exact hs) hn.2;rw [← Qt] at e ho;simp only [hb,if_false,Qb,ne_eq,not_true,app1 hlp,e,zQ,Bool.false_or];exact ⟨o,rfl,ho⟩
theorem Dimensions_ok (l:List Int) (sc:Bool) (hl:l.length≤1000):JM ⟨l,sc⟩=some (if checkR l=0 then (l,0) else ([],checkR l)):=by
 simp only [JM,dimN_ok l (Sm_le hl),Qb];cases hn:negB l with
 | true =>
  have hc:checkR l=6:=by rw [checkR,hn]; rfl
  simp [hc]
 | false =>
  obtain ⟨o,e,h1,h2⟩:=dimC_L1 sc l [] hl hn;have e':QI (l,sc,[],0)=some o:=e;simp only [j5,if_false,Yd,room_ok _ hl,Qb,e'];cases hb:bigB l with
  | true =>
   obtain ⟨m,rfl⟩:=h1 hb;have hc:checkR l=7:=by rw [checkR,hn,hb]; simp
   simp [hc,Qb]
  | false =>
   rw [h2 hb];simp only [jP,Qb,shapeCheck_ok l (Sm_le hl)];by_cases hc:checkR l=0 <;> simp [hc]
def reshR (l a:List Int):Qr × Int:=if checkR l=0 then (⟨[],a,l,[],-1,0,[]⟩,0) else (zeroRule,checkR l)
theorem Reshape_ok (l:List Int) (sc:Bool) (a:List Int) (hl:l.length≤1000) (ha:a.length≤1000):Qbj (⟨l,sc⟩,a)=some (reshR l a):=by
 simp only [Qbj,Dimensions_ok l sc hl,Qb,reshR];by_cases h:checkR l=0
 ·simp [h,Qa2,shapeCheck_ok l (Sm_le hl),Clone_ok l hl,Clone_ok a ha,Qb]
 ·simp [h,failed_ok,Qb]
theorem Cells_ok (l:List Int) (hs:Sm l.length):Xv l=some (cellsR l):=by
 simp only [Xv,Check_ok l hs,Qb,Product_ok l hs,cellsR];by_cases hc:checkR l=0
 ·have:(prodR l).1=prodI l:=by
   unfold checkR at hc;unfold prodR;by_cases hn:negB l=true
   ·simp [hn] at hc
   ·by_cases hb:bigB l=true
    ·simp [hn,hb] at hc
    ·by_cases hp:prodI l > 65536
     ·simp [hn,hb,hp] at hc
     ·simp [hn,hb,hp]
  simp [hc,this]
 ·simp [hc]
theorem check_nil:checkR []=0:=rfl
def okR (r:Qr):Prop:=checkR r.left=0∧checkR r.right=0∧checkR r.shape=0
theorem okR_zero:okR zeroRule:=⟨check_nil,check_nil,check_nil⟩
theorem okR_take {l a:List Int} (ha:checkR a=0):okR (takeR l a).1:=by
 unfold takeR;split
 ·rename_i h;unfold takeE at h;by_cases h1:a=[]∧l.length > 16
  ·rw [if_pos h1] at h; cases h
  ·rw [if_neg h1] at h;split at h
   ·cases h
   ·split at h
    ·cases h
    ·exact ⟨check_nil,seen_check ha h1,h⟩
 ·exact okR_zero
theorem okR_drop {l a:List Int} (ha:checkR a=0):okR (dropR l a).1:=by
 unfold dropR;split
 ·rename_i h;unfold dropE at h;by_cases h1:a=[]∧l.length > 16
  ·rw [if_pos h1] at h; cases h
  ·rw [if_neg h1] at h;have hc:=seen_check ha h1;split at h
   ·cases h
   ·exact ⟨check_nil,hc,(below_drop l _ zV (checkR_zero.1 hc).1).right hc⟩
 ·exact okR_zero
theorem okR_trans {v a:List Int} (ha:checkR a=0):okR (transR v a).1:=by
 unfold transR;split
 ·rename_i h;unfold transE at h;split at h
  ·exact ⟨check_nil,ha,h⟩
  ·rename_i h2; exact absurd h h2
 ·exact okR_zero
theorem okR_resh {v a:List Int} (ha:checkR a=0):okR (reshR v a).1:=by
 unfold reshR;split
 ·rename_i h; exact ⟨check_nil,ha,h⟩
 ·exact okR_zero
theorem getD_el {X:List Int} {k:Nat} (h:k < X.length):X.getD k 0=X[k]:=by simp [jA,h]
theorem okR_cat {p0:Int} {a b:List Int} (hp:-1≤p0) (ha:checkR a=0) (hb:checkR b=0):okR (catR p0 a b).1:=by
 obtain ⟨da,la,_⟩:=checkR_zero.1 ha;obtain ⟨db,lb,_⟩:=checkR_zero.1 hb;unfold catR;obtain ⟨R,hR⟩:∃ R,R=max (max a.length b.length) 1:=⟨_,rfl⟩;simp only [← hR];split
 ·exact okR_zero
 ·rename_i hk;obtain ⟨k,ek⟩:∃ k,k=(if p0=-1 then (R:Int) - 1 else p0).toNat:=⟨_,rfl⟩;have hkR:k < R:=by rw [ek]; split <;> omega
  rw [← ek];split
  ·exact okR_zero
  ·rename_i hbad;split
   ·rename_i ht;have lX:(widR a b R k).length=R:=widR_len hkR zV;have lY:(widR b a R k).length=R:=widR_len hkR zV;have dX:Dims (widR a b R k):=widR_dims da db;have dY:Dims (widR b a R k):=widR_dims db da;generalize widR a b R k=X at *;generalize widR b a R k=Y at *;unfold tailE at ht;by_cases c1:remL X k=remL Y k
    ·rw [if_neg (fun h=>h c1)] at ht;by_cases c2:checkR (repL X k (sumAt X Y k))=0
     ·have gX:=getD_in dX (show k < X.length by omega);have gY:=getD_in dY (show k < Y.length by omega);have kX:k < X.length:=by omega
      have kY:k < Y.length:=by omega
      refine ⟨?_,?_,c2⟩
      ·have:=part_right (x:=X.getD k 0) zV c2 gX.1 (by unfold sumAt; omega);rw [getD_el kX,rep_self kX] at this; exact this
      ·have:=part_right (x:=Y.getD k 0) zV c2 gY.1 (by unfold sumAt; omega);rw [rep_other kX kY c1,getD_el kY,rep_self kY] at this; exact this
     ·rw [if_pos c2] at ht; cases ht
    ·rw [if_pos c1] at ht; cases ht
   ·exact okR_zero
theorem stepP_get (l:List Int) (j:Nat) (x:Int) (i:Nat):(stepP l j x).getD i 65536=if i=j then minI (l.getD j 65536) x else l.getD i 65536:=by
 have hp:∀ i,(padTo l j).getD i 65536=l.getD i 65536:=fun i=>by
  unfold padTo;simp only [jA];by_cases h:i < l.length
  ·rw [zG h]
  ·rw [zF zV,List.getElem?_eq_none (l:=l) zV];by_cases h2:i - l.length < j+1 - l.length
   ·rw [zE]; simp [h2]
   ·rw [List.getElem?_eq_none zW]
 have hk:j < (padTo l j).length:=by rw [padTo_len]; omega
 have h0:(padTo l j).getD j 0=l.getD j 65536:=by
  rw [← hp j]; simp [jA,hk]
 unfold stepP;rw [h0,jA,z6];by_cases h:i=j
 ·subst h; simp [hk]
 ·rw [if_neg (fun e=>h e.symm),if_neg h,← jA,hp]
def rng (n:Nat):List Int:=(List.range n).map fun (k:Nat)=>(k:Int)
theorem rng_nodup (n:Nat):(rng n).Nodup:=List.Pairwise.map _ (fun a b h e=>h zV) List.nodup_range
theorem mem_rng {n:Nat} {x:Int}:x∈rng n↔0≤x∧x < (n:Int):=by
 unfold rng;rw [List.mem_map];constructor
 ·rintro ⟨k,hk,rfl⟩; have:=List.mem_range.1 hk; omega
 ·intro h; exact ⟨x.toNat,List.mem_range.2 zV,by omega⟩
theorem perm_rng {v:List Int} (h1:v.Nodup) (h2:∀ x∈v,0≤x∧x < (v.length:Int)):v.Perm (rng v.length):=by
 refine (List.perm_ext_iff_of_nodup h1 (rng_nodup _)).2 fun x=>⟨fun h=>mem_rng.2 (h2 x h),fun h=>?_⟩
 rcases Classical.em (x∈v) with hx|hx
 ·exact hx
 ·have hle:=List.Nodup.length_le_of_subset (l₁:=x::v) (l₂:=rng v.length) (List.nodup_cons.2 ⟨hx,h1⟩) (fun y hy=>by
   rcases List.mem_cons.1 hy with rfl|hy
   ·exact h
   ·exact mem_rng.2 (h2 y hy))
  simp [rng] at hle;omega
theorem ite_som {c:Prop} [Decidable c] {α:Type} (a b:α):(if c then some a else some b)=some (if c then a else b):=by split <;> rfl
def rr (r:Qr):Qw:=⟨r.left,r.right,r.shape,r.starts,r.axis,r.amount,r.perm⟩
theorem rMag_ok (v:Int):JH v=some (if bigM v then (0,7) else (absI v,0)):=by
 unfold JH bigM absI;dsimp only;by_cases h1:v > 65536
 ·simp [h1,Qb]
 by_cases h2:v < -65536
 ·simp [h1,h2,Qb]
 simp only [h1,h2,if_false,zQ,Bool.or_self,Qb,j5];by_cases h3:v < 0
 ·simp only [h3,if_true];rw [W_ok zV zV,Int.zero_sub]
 ·simp only [h3,if_false]
theorem rseen_L1 (n:Nat) (hn:n≤1000):∀ (m j:Nat),j+m=n→Xq ((n:Int),List.replicate j 1,(j:Int))=some (List.replicate n 1)
 | 0,j,h=>by
  rw [Xq]
  have:¬ ((j:Int) < (n:Int)):=by omega
  simp only [this,if_false];rw [show j=n by omega]
 | m+1,j,h=>by
  rw [Xq];have h1:((j:Int) < (n:Int)):=by omega
  have w:W ((j:Int)+1)=((j+1:Nat):Int):=W_succ zV;have e:=rseen_L1 n hn m (j+1) zV;simp only [h1,if_true,app1 (show (List.replicate j (1:Int)).length≤100000 by simp; omega),Qb,w];rw [← List.replicate_succ',e]
theorem rseen_ok (a:List Int) (n:Nat) (hn:n≤1000):QbB (a,(n:Int))=some (seenL a n):=by
 unfold QbB seenL;dsimp only;by_cases h:a=[]
 ·subst h;have e:=rseen_L1 n hn n 0 zV;simp only [List.replicate_zero,jI] at e;rw [if_neg zX,if_pos rfl,e]; rfl
 ·rw [if_pos (by have:=List.length_pos_iff.2 h; omega),if_neg h]
theorem rtake_L1:∀ (s t p q A B:List Int),s.length=t.length→p.length=q.length→(p++s).length≤1000→A.length≤p.length→B.length≤p.length→Dims t →
  (s.any bigM=true→∃ x,YU (p++s,q++t,A,B,(p.length:Int))=some (.inl x)) ∧
  (s.any bigM=false→YU (p++s,q++t,A,B,(p.length:Int))=some (.inr (A++s.map absI,B++List.zipWith stI s t)))
 | [],[],p,q,A,B,_,_,_,_,_,_=>by
  refine ⟨fun h=>by simp at h,fun _=>?_⟩;rw [YU]; simp only [Ze,if_false]; simp
 | x::s,d::t,p,q,A,B,h1,h2,hs,hA,hB,hd=>by
  have hl:(p++x::s).length≤1000:=hs;have hl':p.length≤1000:=by simp at hl; omega
  have hdd:=hd d (jL ..);have ih:=fun a b:Int=>rtake_L1 s t (p++[x]) (q++[d]) (A++[a]) (B++[b]) (by simpa using h1) (by simp [h2]) (by rw [← Qt]; exact hs) zW zW (fun z hz=>hd z (jF _ hz))
  simp only [← Qt] at ih;rw [YU];have hxq:idx (q++d::t) (p.length:Int)=some d:=by rw [h2]; exact Qz
  simp only [QN,if_true,Qz,hxq,Qb,rMag_ok,mid_W (Sm_le hs)];cases hb:bigM x
  ·have hbx:-65536≤x∧x≤65536:=by simp [bigM] at hb; omega
   have hW:W (d - absI x)=d - absI x:=by unfold absI; split <;> rw [W_ok zV zV]
   simp only [j5,if_false,ne_eq,z3,app1 (show A.length≤100000 by omega),app1 (show B.length≤100000 by omega),Qb,ite_som,hW,List.any_cons,hb,Bool.false_or,zK,List.zipWith_cons_cons];have hst:(if x < 0 then d - absI x else 0)=stI x d:=rfl;simp only [hst];obtain ⟨i1,i2⟩:=ih (absI x) (stI x d);refine ⟨fun h=>i1 h,fun h=>?_⟩;rw [i2 h]
   try simp
  ·simp only [if_true,ne_eq,show ¬ ((7:Int)=0) by decide,z5,List.any_cons,hb,Bool.true_or];exact ⟨fun _=>⟨_,rfl⟩,fun h=>by cases h⟩
theorem len_nil {a:List Int}:((a.length:Int)=0)↔a=[]:=by rw [← List.length_eq_zero_iff]; omega
theorem absI_nonneg (v:Int):0≤absI v:=by unfold absI; split <;> omega
theorem rTake_ok (v a:List Int) (hv:v.length≤1000) (ha:checkR a=0):QbA (v,a)=some (rr (takeR v a).1,(takeR v a).2):=by
 unfold QbA takeR takeE;simp only [ite_som,Qb,rseen_ok a v.length hv,len_nil];by_cases c1:a=[]∧v.length > 16
 ·have c1':(if a=[] then decide ((v.length:Int) > 16) else false)=true:=by rw [if_pos c1.1]; simp; omega
  rw [if_pos c1',if_pos c1]; rfl
 have c1':¬ (if a=[] then decide ((v.length:Int) > 16) else false)=true:=by
  intro h;split at h
  ·rename_i h0; exact c1 ⟨h0,by simp at h; omega⟩
  ·cases h
 rw [if_neg c1',if_neg c1];by_cases c2:v.length≠(seenL a v.length).length
 ·rw [if_pos (show ((v.length:Int)≠((seenL a v.length).length:Int)) by omega),if_pos c2]; rfl
 rw [if_neg (show ¬ ((v.length:Int)≠((seenL a v.length).length:Int)) by omega),if_neg c2];have hd:Dims (seenL a v.length):=(checkR_zero.1 (seen_check ha c1)).1;obtain ⟨l1,l2⟩:=rtake_L1 v (seenL a v.length) [] [] [] [] zV rfl (by simpa using hv) zX zX hd;simp only [jP,jK,jI] at l1 l2;cases c3:v.any bigM
 ·rw [l2 c3];simp only [Qb,Check_ok (v.map absI) (Sm_le (by simpa using hv)),j5,if_false];by_cases c4:checkR (v.map absI)=0
  ·rw [if_neg (by simpa using c4),if_pos c4]; rfl
  ·rw [if_pos c4,if_neg c4];rcases check_dims (X:=v.map absI) (fun d hd=>by obtain ⟨z,_,rfl⟩:=List.mem_map.1 hd; exact absI_nonneg z) with h|h
   ·exact absurd h c4
   ·rw [h]; rfl
 ·obtain ⟨x,e⟩:=l1 c3;obtain ⟨x1,x2⟩:=x;rw [e]; rfl
theorem rdrop_end (v:List Int):∀ (t q A B:List Int),v.length≤q.length→(q++t).length≤1000→A.length≤q.length→B.length≤q.length→Dims t →
  Z0 (q++t,v,A,B,(q.length:Int))=some (A++t,B++List.replicate t.length 0)
 | [],q,A,B,_,_,_,_,_=>by rw [Z0]; simp only [Ze,if_false]; simp
 | d::t,q,A,B,h,hs,hA,hB,hd=>by
  have hl:(q++d::t).length≤1000:=hs;have hl':q.length≤1000:=by simp at hl; omega
  have hdd:=hd d (jL ..);have ih:=rdrop_end v t (q++[d]) (A++[d]) (B++[0]) zW (by rw [← Qt]; exact hs) zW zW (fun z hz=>hd z (jF _ hz));rw [← Qt] at ih;have w:W (d+0)=d:=by rw [W_ok zV zV,Int.add_zero]
  rw [Z0];simp only [QN,if_true,Qz,Qb,mid_W (Sm_le hs),if_neg (show ¬ ((q.length:Int) < (v.length:Int)) by omega),j5,if_false,w,app1 (show A.length≤100000 by omega),app1 (show B.length≤100000 by omega),ih];simp [List.replicate_succ]
theorem rdrop_L1:∀ (s t p q A B:List Int),s.length≤t.length→p.length=q.length→(q++t).length≤1000→A.length≤q.length→B.length≤q.length→Dims t →
  Z0 (q++t,p++s,A,B,(q.length:Int))=some (A++dropL s t,B++dropF s t)
 | [],t,p,q,A,B,_,h2,hs,hA,hB,hd=>by
  rw [rdrop_end _ t q A B zW hs hA hB hd];simp [dropL,dropF]
 | x::s,[],p,q,A,B,h1,_,_,_,_,_=>by simp at h1
 | x::s,d::t,p,q,A,B,h1,h2,hs,hA,hB,hd=>by
  have hl:(q++d::t).length≤1000:=hs;have hl':q.length≤1000:=by simp at hl; omega
  have hdd:=hd d (jL ..);have ih:=fun a b:Int=>rdrop_L1 s t (p++[x]) (q++[d]) (A++[a]) (B++[b]) (by simpa using h1) (by simp [h2]) (by rw [← Qt]; exact hs) zW zW (fun z hz=>hd z (jF _ hz))
  simp only [← Qt] at ih;have hxi:idx (p++x::s) (q.length:Int)=some x:=by rw [← h2]; exact Qz
  have hlt:((q.length:Int) < ((p++x::s).length:Int)):=by simp; omega
  have w0:W (0 - d)=-d:=by rw [W_ok zV zV,Int.zero_sub]
  rw [Z0];simp only [QN,hlt,if_true,Qz,hxi,Qb,mid_W (Sm_le hs),w0,app1 (show A.length≤100000 by omega),app1 (show B.length≤100000 by omega)];by_cases hx:x > 0
  ·have e1:(if d < x then d else x)=dropS d x:=by
    have hx0:¬ x < 0:=by omega
    unfold dropS absI; simp only [hx0,if_false]
   have e2:W (d - dropS d x)=dropD d x:=by
    unfold dropD; rw [← e1]; unfold absI; rw [if_neg (show ¬ x < 0 by omega)];split <;> rw [W_ok zV zV]
   simp only [hx,decide_true,if_true,e1,e2,ih];simp [dropL,dropF]
  ·have e1:W (d+(if x < -d then -d else x))=dropD d x:=by
    unfold dropD absI;by_cases h0:x < 0
    ·rw [if_pos h0];by_cases h4:x < -d
     ·rw [if_pos h4,if_pos (show -x > d by omega),W_ok zV zV]; omega
     ·rw [if_neg h4,if_neg (show ¬ -x > d by omega),W_ok zV zV]; omega
    ·rw [if_neg h0,if_neg (show ¬ x < -d by omega),if_neg (show ¬ x > d by omega),W_ok zV zV]; omega
   have e2:dropS d x=0:=by
    unfold dropS absI;by_cases h0:x < 0
    ·rw [if_pos h0]
    ·rw [if_neg h0]; split <;> split <;> omega
   simp only [hx,zQ,j5,if_false,e1,ih];simp [dropL,dropF,e2]
theorem rDrop_ok (v a:List Int) (hv:v.length≤1000) (ha:checkR a=0):Qby (v,a)=some (rr (dropR v a).1,(dropR v a).2):=by
 unfold Qby dropR dropE;simp only [ite_som,Qb,rseen_ok a v.length hv,len_nil];by_cases c1:a=[]∧v.length > 16
 ·have c1':(if a=[] then decide ((v.length:Int) > 16) else false)=true:=by rw [if_pos c1.1]; simp; omega
  rw [if_pos c1',if_pos c1]; rfl
 have c1':¬ (if a=[] then decide ((v.length:Int) > 16) else false)=true:=by
  intro h;split at h
  ·rename_i h0; exact c1 ⟨h0,by simp at h; omega⟩
  ·cases h
 rw [if_neg c1',if_neg c1];have hc:=checkR_zero.1 (seen_check ha c1);by_cases c2:v.length > (seenL a v.length).length
 ·rw [if_pos (show ((v.length:Int) > ((seenL a v.length).length:Int)) by omega),if_pos c2]; rfl
 rw [if_neg (show ¬ ((v.length:Int) > ((seenL a v.length).length:Int)) by omega),if_neg c2];have l2:=rdrop_L1 v (seenL a v.length) [] [] [] [] zV rfl zW zX zX hc.1;simp only [jP,jK,jI] at l2;rw [l2]; rfl
theorem insL_cons (d:Int) (t:List Int) (j:Nat) (n:Int):insL (d::t) (j+1) n=d::insL t j n:=by simp [insL]
theorem remL_cons (d:Int) (t:List Int) (j:Nat):remL (d::t) (j+1)=d::remL t j:=by simp [remL]
theorem rins_after (k:Nat) (n:Int):∀ (t p A:List Int),k < p.length→(p++t).length≤1000→A.length≤p.length+1→Zb (p++t,(k:Int),n,A,(p.length:Int))=some (A++t)
 | [],p,A,hk,hs,hA=>by
  have hl:p.length≤1000:=by simpa using hs
  rw [Zb];simp only [if_pos (show ((p.length:Int)≤((p++([]:List Int)).length:Int)) by simp),if_neg (show ¬ ((p.length:Int)=(k:Int)) by omega),Qb,Ze,if_false];rw [Zb,W_succ zV];simp only [jT];rw [if_neg (show ¬ (((p.length+1:Nat):Int)≤(p.length:Int)) by omega)]
 | d::t,p,A,hk,hs,hA=>by
  have hl:p.length≤1000:=by simp at hs; omega
  have ih:=rins_after k n t (p++[d]) (A++[d]) zW (by rw [← Qt]; exact hs) zW;rw [← Qt] at ih;rw [Zb];simp only [if_pos (show ((p.length:Int)≤((p++d::t).length:Int)) by simp; omega),if_neg (show ¬ ((p.length:Int)=(k:Int)) by omega),Qb,QN,if_true,Qz,app1 (show A.length≤100000 by omega),mid_W (Sm_le hs),ih];simp
theorem rins_before (k:Nat) (n:Int):∀ (t p A:List Int),p.length≤k→k≤(p++t).length→(p++t).length≤1000→A.length≤p.length→Zb (p++t,(k:Int),n,A,(p.length:Int))=some (A++insL t (k - p.length) n)
 | [],p,A,hk,hk2,hs,hA=>by
  have hl:p.length≤1000:=by simpa using hs
  have he:k=p.length:=by simp at hk2; omega
  subst he;rw [Zb];simp only [if_pos (show ((p.length:Int)≤((p++([]:List Int)).length:Int)) by simp),if_true,Qb,Ze,if_false,app1 (show A.length≤100000 by omega)];rw [Zb,W_succ zV];simp only [jT];rw [if_neg (show ¬ (((p.length+1:Nat):Int)≤(p.length:Int)) by omega)];simp [insL]
 | d::t,p,A,hk,hk2,hs,hA=>by
  have hl:p.length≤1000:=by simp at hs; omega
  rw [Zb];simp only [if_pos (show ((p.length:Int)≤((p++d::t).length:Int)) by simp; omega),QN,if_true,Qz,Qb,mid_W (Sm_le hs)];by_cases he:k=p.length
  ·subst he;have ih:=rins_after p.length n t (p++[d]) (A++[n]++[d]) zX (by rw [← Qt]; exact hs) zW;rw [← Qt] at ih;simp only [if_true,app1 (show A.length≤100000 by omega),Qb,app1 (show (A++[n]).length≤100000 by simp; omega),ih];simp [insL]
  ·have ih:=rins_before k n t (p++[d]) (A++[d]) zW (by rw [← Qt]; exact hk2) (by rw [← Qt]; exact hs) zW;rw [← Qt] at ih;simp only [if_neg (show ¬ ((p.length:Int)=(k:Int)) by omega),Qb,app1 (show A.length≤100000 by omega),ih];obtain ⟨j,hj⟩:∃ j,k - p.length=j+1:=⟨k - p.length - 1,by omega⟩;rw [hj,insL_cons,show k - (p++[d]).length=j by simp; omega];simp
theorem rIns_ok (s:List Int) (k:Nat) (n:Int) (hk:k≤s.length) (hs:s.length≤1000):Jo (s,(k:Int),n)=some (insL s k n):=by
 have e:=rins_before k n s [] [] zX (by simpa using hk) (by simpa using hs) zX;simp only [jP,jK,jI,Nat.sub_zero] at e;unfold Jo;simp only [e,Qb]
theorem rrem_after (k:Nat):∀ (t p A:List Int),k < p.length→(p++t).length≤1000→A.length≤p.length→Zn (p++t,(k:Int),A,(p.length:Int))=some (A++t)
 | [],p,A,hk,hs,hA=>by rw [Zn]; simp only [Ze,if_false]; rw [jT]
 | d::t,p,A,hk,hs,hA=>by
  have hl:p.length≤1000:=by simp at hs; omega
  have ih:=rrem_after k t (p++[d]) (A++[d]) zW (by rw [← Qt]; exact hs) zW;rw [← Qt] at ih;rw [Zn];simp only [QN,if_true,if_pos (show ((p.length:Int)≠(k:Int)) by omega),Qz,Qb,app1 (show A.length≤100000 by omega),mid_W (Sm_le hs),ih];simp
theorem rrem_before (k:Nat):∀ (t p A:List Int),p.length≤k→(p++t).length≤1000→A.length≤p.length→Zn (p++t,(k:Int),A,(p.length:Int))=some (A++remL t (k - p.length))
 | [],p,A,hk,hs,hA=>by rw [Zn]; simp only [Ze,if_false]; simp [remL]
 | d::t,p,A,hk,hs,hA=>by
  have hl:p.length≤1000:=by simp at hs; omega
  rw [Zn];by_cases he:k=p.length
  ·subst he;have ih:=rrem_after p.length t (p++[d]) A zX (by rw [← Qt]; exact hs) zW;rw [← Qt] at ih;simp only [QN,if_true,ne_eq,z3,if_false,mid_W (Sm_le hs),ih];simp [remL]
  ·have ih:=rrem_before k t (p++[d]) (A++[d]) zW (by rw [← Qt]; exact hs) zW;rw [← Qt] at ih;simp only [QN,if_true,if_pos (show ((p.length:Int)≠(k:Int)) by omega),Qz,Qb,app1 (show A.length≤100000 by omega),mid_W (Sm_le hs),ih];obtain ⟨j,hj⟩:∃ j,k - p.length=j+1:=⟨k - p.length - 1,by omega⟩;rw [hj,remL_cons,show k - (p++[d]).length=j by simp; omega];simp
theorem rRem_ok (s:List Int) (k:Nat) (hs:s.length≤1000):Qbf (s,(k:Int))=some (remL s k):=by
 have e:=rrem_before k s [] [] zX (by simpa using hs) zX;simp only [jP,jK,jI,Nat.sub_zero] at e;unfold Qbf;simp only [e,Qb]
theorem ins_rem {s:List Int} {k:Nat} (n:Int) (hk:k < s.length):insL (remL s k) k n=repL s k n:=by
 have hl:(s.take k).length=k:=by simp; omega
 unfold insL remL repL;rw [List.take_append_of_le_length zV,List.drop_append_of_le_length zV,List.take_of_length_le zV,List.drop_of_length_le zV,jP]
theorem rput_ok (s:List Int) (k:Nat) (n:Int) (hk:k < s.length) (hs:s.length≤1000):Qah (s,(k:Int),n)=some (repL s k n):=by
 unfold Qah;have:=remL_len hk;simp only [rRem_ok s k hs,Qb,rIns_ok (remL s k) k n zV zV,ins_rem n hk]
theorem rcat_after {a b:List Int} {k:Nat} {X Y:List Int} (hR:max (max (a.length:Int) (b.length:Int)) 1=(X.length:Int)) (hX:X.length≤1000):∀ (s t p q:List Int),X=p++s→Y=q++t→p.length=q.length→s.length=t.length→k < p.length→Zc (a,b,(k:Int),X,Y,(p.length:Int))=some (if s=t then .inr () else .inl ())
 | [],[],p,q,e1,e2,_,_,_=>by
  rw [Zc,hR]; simp only [if_neg (show ¬ ((p.length:Int) < (X.length:Int)) by rw [e1]; simp),if_true]
 | d::s,e::t,p,q,e1,e2,h1,h2,hk=>by
  have hl:p.length≤1000:=by rw [e1] at hX; simp at hX; omega
  have ih:=rcat_after (k:=k) (X:=X) (Y:=Y) hR hX s t (p++[d]) (q++[e]) (by rw [← Qt]; exact e1) (by rw [← Qt]; exact e2) (by simp [h1]) (by simpa using h2) zW;have i1:idx X (p.length:Int)=some d:=by rw [e1]; exact Qz
  have i2:idx Y (p.length:Int)=some e:=by rw [e2,h1]; exact Qz
  have w:W ((p.length:Int)+1)=((p++[d]).length:Int):=by rw [W_succ zV]; simp
  rw [Zc,hR];simp only [if_pos (show ((p.length:Int) < (X.length:Int)) by rw [e1]; exact QN),if_pos (show ((p.length:Int)≠(k:Int)) by omega),i1,i2,Qb,w,ih];by_cases hde:d=e <;> simp [hde,Qb]
 | [],_::_,_,_,_,_,_,h2,_=>by cases h2
 | _::_,[],_,_,_,_,_,h2,_=>by cases h2
theorem rcat_before {a b:List Int} {k:Nat} {X Y:List Int} (hR:max (max (a.length:Int) (b.length:Int)) 1=(X.length:Int)) (hX:X.length≤1000):∀ (s t p q:List Int),X=p++s→Y=q++t→p.length=q.length→s.length=t.length→p.length≤k→Zc (a,b,(k:Int),X,Y,(p.length:Int))=some (if remL s (k - p.length)=remL t (k - p.length) then .inr () else .inl ())
 | [],[],p,q,e1,e2,_,_,_=>by
  rw [Zc,hR]; simp only [if_neg (show ¬ ((p.length:Int) < (X.length:Int)) by rw [e1]; simp),if_true]
 | d::s,e::t,p,q,e1,e2,h1,h2,hk=>by
  have hl:p.length≤1000:=by rw [e1] at hX; simp at hX; omega
  have i1:idx X (p.length:Int)=some d:=by rw [e1]; exact Qz
  have i2:idx Y (p.length:Int)=some e:=by rw [e2,h1]; exact Qz
  have w:W ((p.length:Int)+1)=((p++[d]).length:Int):=by rw [W_succ zV]; simp
  rw [Zc,hR];by_cases he:k=p.length
  ·have ih:=rcat_after (k:=k) (X:=X) (Y:=Y) hR hX s t (p++[d]) (q++[e]) (by rw [← Qt]; exact e1) (by rw [← Qt]; exact e2) (by simp [h1]) (by simpa using h2) zW;simp only [if_pos (show ((p.length:Int) < (X.length:Int)) by rw [e1]; exact QN),if_neg (show ¬ ((p.length:Int)≠(k:Int)) by omega),Qb,w,ih,j5,if_false];simp [remL,he]
  ·have ih:=rcat_before (k:=k) (X:=X) (Y:=Y) hR hX s t (p++[d]) (q++[e]) (by rw [← Qt]; exact e1) (by rw [← Qt]; exact e2) (by simp [h1]) (by simpa using h2) zW;obtain ⟨j,hj⟩:∃ j,k - p.length=j+1:=⟨k - p.length - 1,by omega⟩;rw [show k - (p++[d]).length=j by simp; omega] at ih;simp only [if_pos (show ((p.length:Int) < (X.length:Int)) by rw [e1]; exact QN),if_pos (show ((p.length:Int)≠(k:Int)) by omega),i1,i2,Qb,w,ih];rw [hj,remL_cons,remL_cons];by_cases hde:d=e <;> simp [hde,Qb]
 | [],_::_,_,_,_,_,_,h2,_=>by cases h2
 | _::_,[],_,_,_,_,_,h2,_=>by cases h2
theorem rCat_tail {p0:Int} {a b:List Int} {R k:Nat} (X Y:List Int) (hR:max (max (a.length:Int) (b.length:Int)) 1=(R:Int)) (hX:X.length=R) (hY:Y.length=R) (hk:k < R) (hR16:R≤16) (dX:Dims X) (dY:Dims Y) :
  (Zc (a,b,(k:Int),X,Y,0)>>=fun (out:Unit ⊕ Unit) =>
   match out with
   | .inl _=>some ((⟨([]:(List Int)),([]:(List Int)),([]:(List Int)),([]:(List Int)),0,0,([]:(List Int))⟩:Qw),(5:Int))
   | .inr (_) =>
    idx X (k:Int)>>=fun v614 =>
    idx Y (k:Int)>>=fun v615 =>
    Qah (X,(k:Int),(W (v614+v615)))>>=fun (v616:(List Int)) =>
    Yr v616>>=fun (v617:Int) =>
    if v617≠0 then
     some ((⟨([]:(List Int)),([]:(List Int)),([]:(List Int)),([]:(List Int)),0,0,([]:(List Int))⟩:Qw),7)
    else
    some ((⟨X,Y,v616,([]:(List Int)),(k:Int),0,([]:(List Int))⟩:Qw),0))
  = some (if tailE X Y k=0 then ((⟨X,Y,repL X k (sumAt X Y k),[],k,0,[]⟩:Qw),0) else (rr zeroRule,tailE X Y k)):=by
 have e:=rcat_before (a:=a) (b:=b) (k:=k) (X:=X) (Y:=Y) (by rw [hX]; exact hR) zV X Y [] [] rfl rfl rfl zV zX;simp only [jK,jI,Nat.sub_zero] at e;rw [e];unfold tailE;by_cases h:remL X k=remL Y k
 ·rw [if_pos h,if_neg (show ¬ (remL X k≠remL Y k) from fun g=>g h)];have i1:idx X (k:Int)=some (X.getD k 0):=idx_getD zV;have i2:idx Y (k:Int)=some (Y.getD k 0):=idx_getD zV;have b1:=getD_in (k:=k) dX zV;have b2:=getD_in (k:=k) dY zV;have w:W (X.getD k 0+Y.getD k 0)=sumAt X Y k:=by unfold sumAt; rw [W_ok zV zV]
  simp only [Qb,i1,i2,w,rput_ok X k _ (show k < X.length by omega) zV];have hl:(repL X k (sumAt X Y k)).length≤1000:=by rw [rep_len zV]; omega
  simp only [Check_ok _ (Sm_le hl),Qb];by_cases hc:checkR (repL X k (sumAt X Y k))=0
  ·simp only [hc,ne_eq,z3,if_false,if_true]
  ·simp only [hc,ne_eq,z5,if_true,show ¬ ((7:Int)=0) by decide,if_false]; rfl
 ·rw [if_neg h,if_pos (show remL X k≠remL Y k from h)];rfl
theorem rCat_ok {p0:Int} {a b:List Int} (hp:-1≤p0) (la:a.length≤16) (lb:b.length≤16) (da:Dims a) (db:Dims b):Ji (p0,a,b)=some (rr (catR p0 a b).1,(catR p0 a b).2):=by
 unfold catR;obtain ⟨R,hRdef⟩:∃ R,R=max (max a.length b.length) 1:=⟨_,rfl⟩;have hR:(max (max (a.length:Int) (b.length:Int)) 1)=(R:Int):=by omega
 have hR16:R≤16:=by omega
 have wR:W ((R:Int) - 1)=(R:Int) - 1:=W_ok zV zV;simp only [← hRdef];unfold Ji;simp only [hR,wR,ite_som,Qb];by_cases hbig:p0≥(R:Int)
 ·rw [if_pos hbig,if_pos hbig]; rfl
 obtain ⟨k,hk⟩:∃ k:Nat,(k:Int)=if p0=-1 then (R:Int) - 1 else p0:=by
  by_cases h:p0=-1
  ·exact ⟨R - 1,by rw [if_pos h]; omega⟩
  ·exact ⟨p0.toNat,by rw [if_neg h]; omega⟩
 have hkR:k < R:=by by_cases h:p0=-1 <;> simp [h] at hk <;> omega
 have hax:(if p0 < 0 then (R:Int) - 1 else p0)=(k:Int):=by
  rw [hk];by_cases h:p0=-1
  ·rw [if_pos zV,if_pos h]
  ·rw [if_neg zV,if_neg h]
 rw [if_neg hbig,if_neg hbig,← hk,Int.toNat_natCast];simp only [hax];have hlow:(if (b.length:Int) < (a.length:Int) then (b.length:Int) else (a.length:Int))=((min a.length b.length:Nat):Int):=by split <;> omega
 simp only [hlow];by_cases hbad:(a.length≠R∧a.length+1≠R∧a.length≠0)∨(b.length≠R∧b.length+1≠R∧b.length≠0)
 ·rw [if_pos hbad];have h1:((min a.length b.length:Nat):Int) < (R:Int) - 1:=by omega
  have h2:((min a.length b.length:Nat):Int) > 0:=by omega
  simp only [if_pos h1,decide_eq_true h2,if_true];rfl
 rw [if_neg hbad]
 have hf:(if ((min a.length b.length:Nat):Int) < (R:Int) - 1 then decide (((min a.length b.length:Nat):Int) > 0) else false)=false:=by
  split
  ·rw [zP]; omega
  ·rfl
 simp only [hf,j5,if_false]
 have key:∀ X Y:List Int,X=widR a b R k→Y=widR b a R k→X.length=R→Y.length=R→Dims X→Dims Y →
   some (if tailE X Y k=0 then ((⟨X,Y,repL X k (sumAt X Y k),[],k,0,[]⟩:Qw),(0:Int)) else (rr zeroRule,tailE X Y k)) =
   some (rr (if tailE (widR a b R k) (widR b a R k) k=0 then ((⟨widR a b R k,widR b a R k,repL (widR a b R k) k (sumAt (widR a b R k) (widR b a R k) k),[],k,0,[]⟩:Qr),(0:Int)) else (zeroRule,tailE (widR a b R k) (widR b a R k) k)).1,
    (if tailE (widR a b R k) (widR b a R k) k=0 then ((⟨widR a b R k,widR b a R k,repL (widR a b R k) k (sumAt (widR a b R k) (widR b a R k) k),[],k,0,[]⟩:Qr),(0:Int)) else (zeroRule,tailE (widR a b R k) (widR b a R k) k)).2):=by
  intro X Y e1 e2 _ _ _ _;subst e1; subst e2;split <;> rfl
 have lX:(widR a b R k).length=R:=widR_len hkR zV;have lY:(widR b a R k).length=R:=widR_len hkR zV;have dX:=widR_dims (R:=R) (k:=k) da db;have dY:=widR_dims (R:=R) (k:=k) db da;rw [← key _ _ rfl rfl lX lY dX dY,← rCat_tail (p0:=p0) (widR a b R k) (widR b a R k) hR lX lY hkR hR16 dX dY];simp only [ite_som];by_cases ha:a.length=R
 ·have e1:¬ ((a.length:Int)=(R:Int) - 1):=by omega
  have w1:widR a b R k=a:=by unfold widR; rw [if_pos ha]
  simp only [e1,if_false,Qb,w1,if_neg (show ¬ ((a.length:Int) < (R:Int)) by omega)];by_cases hb:b.length=R
  ·have w2:widR b a R k=b:=by unfold widR; rw [if_pos hb]
   simp only [if_neg (show ¬ ((b.length:Int)=(R:Int) - 1) by omega),Qb,w2,if_neg (show ¬ ((b.length:Int) < (R:Int)) by omega)]
   try rfl
  ·by_cases hb1:b.length+1=R
   ·have w2:widR b a R k=insL b k 1:=by unfold widR; rw [if_neg hb,if_pos hb1]
    have hl:(insL b k 1).length=R:=by rw [insL_len]; omega
    simp only [if_pos (show ((b.length:Int)=(R:Int) - 1) by omega),rIns_ok b k 1 zV zV,Qb,w2,if_neg (show ¬ (((insL b k 1).length:Int) < (R:Int)) by omega)]
    try rfl
   ·have w2:widR b a R k=repL a k 1:=by unfold widR; rw [if_neg hb,if_neg hb1]
    simp only [if_neg (show ¬ ((b.length:Int)=(R:Int) - 1) by omega),Qb,w2,if_pos (show ((b.length:Int) < (R:Int)) by omega),rput_ok a k 1 zV zV]
    try rfl
 ·by_cases ha1:a.length+1=R
  ·have w1:widR a b R k=insL a k 1:=by unfold widR; rw [if_neg ha,if_pos ha1]
   have hl:(insL a k 1).length=R:=by rw [insL_len]; omega
   simp only [if_pos (show ((a.length:Int)=(R:Int) - 1) by omega),rIns_ok a k 1 zV zV,Qb,w1,if_neg (show ¬ (((insL a k 1).length:Int) < (R:Int)) by omega)];by_cases hb:b.length=R
   ·have w2:widR b a R k=b:=by unfold widR; rw [if_pos hb]
    simp only [if_neg (show ¬ ((b.length:Int)=(R:Int) - 1) by omega),Qb,w2,if_neg (show ¬ ((b.length:Int) < (R:Int)) by omega)]
    try rfl
   ·have hb1:b.length+1=R:=by omega
    have w2:widR b a R k=insL b k 1:=by unfold widR; rw [if_neg hb,if_pos hb1]
    have hl2:(insL b k 1).length=R:=by rw [insL_len]; omega
    simp only [if_pos (show ((b.length:Int)=(R:Int) - 1) by omega),rIns_ok b k 1 zV zV,Qb,w2,if_neg (show ¬ (((insL b k 1).length:Int) < (R:Int)) by omega)]
    try rfl
  ·have hb:b.length=R:=by omega
   have w1:widR a b R k=repL b k 1:=by unfold widR; rw [if_neg ha,if_neg ha1]
   have w2:widR b a R k=b:=by unfold widR; rw [if_pos hb]
   simp only [if_neg (show ¬ ((a.length:Int)=(R:Int) - 1) by omega),if_neg (show ¬ ((b.length:Int)=(R:Int) - 1) by omega),Qb,w1,w2,if_pos (show ((a.length:Int) < (R:Int)) by omega),if_neg (show ¬ ((b.length:Int) < (R:Int)) by omega),rput_ok b k 1 zV zV]
   try rfl
theorem rdim_L1 (sc:Bool):∀ (s p:List Int),(p++s).length≤1000→ZK (⟨p++s,sc⟩,(p.length:Int))=some (if negB s then .inl () else .inr ())
 | [],p,hs=>by rw [ZK]; simp only [Ze,if_false]; simp [negB]
 | x::s,p,hs=>by
  have ih:=rdim_L1 sc s (p++[x]) (by rw [← Qt]; exact hs);rw [← Qt] at ih;rw [ZK];simp only [QN,if_true,Qz,Qb,mid_W (Sm_le hs),ih,negB_cons];by_cases h:x < 0 <;> simp [h]
theorem rdim_L2 (sc:Bool):∀ (s p:List Int),(p++s).length≤1000→p.length≤16 →
  (((p++s).length > 16∨bigB s=true)→∃ x,Zq (⟨p++s,sc⟩,p,(p.length:Int))=some (.inl x)) ∧
  (¬ ((p++s).length > 16∨bigB s=true)→Zq (⟨p++s,sc⟩,p,(p.length:Int))=some (.inr (p++s)))
 | [],p,hs,hp=>by
  refine ⟨fun h=>?_,fun _=>?_⟩
  ·rcases h with h|h
   ·simp at h; omega
   ·simp [bigB] at h
  ·rw [Zq]; simp only [Ze,if_false]; simp only [jT]
 | x::s,p,hs,hp=>by
  have hl:(p++x::s).length≤1000:=hs;rw [Zq];simp only [QN,if_true,Qz,Qb,ite_som];by_cases h1:(p.length:Int)≥16
  ·simp only [h1,if_true];exact ⟨fun _=>⟨_,rfl⟩,fun h=>absurd (Or.inl zW) h⟩
  by_cases h2:x > 65536
  ·simp only [h1,if_false,h2,decide_true,if_true];exact ⟨fun _=>⟨_,rfl⟩,fun h=>absurd (Or.inr (by rw [bigB_cons]; simp [h2])) h⟩
  have ih:=rdim_L2 sc s (p++[x]) (by rw [← Qt]; exact hs) zW;rw [← Qt] at ih;simp only [h1,if_false,h2,zQ,j5,app1 (show p.length≤100000 by omega),Qb,mid_W (Sm_le hs),bigB_cons,Bool.false_or];exact ih
theorem rDims_ok (l:List Int) (sc:Bool) (hl:l.length≤1000):Jp ⟨l,sc⟩=some (if checkR l=0 then (l,0) else ([],checkR l)):=by
 have e1:=rdim_L1 sc l [] (by simpa using hl);obtain ⟨e2,e3⟩:=rdim_L2 sc l [] (by simpa using hl) zX;simp only [jP,jK,jI] at e1 e2 e3;unfold Jp;simp only [e1];cases hn:negB l
 ·simp only [j5,if_false,Qb];by_cases hb:l.length > 16∨bigB l=true
  ·obtain ⟨x,e⟩:=e2 hb
   have hc:checkR l=7:=by
    unfold checkR; rw [hn,if_neg zZ,if_pos];rcases hb with h|h
    ·exact .inl h
    ·exact .inr (.inl h)
   simp only [e,Qb,hc,show ¬ ((7:Int)=0) by decide,if_false]
  ·simp only [e3 hb,Qb,Check_ok l (Sm_le hl)];by_cases hc:checkR l=0
   ·simp only [hc,ne_eq,z3,if_false,if_true]
   ·simp only [hc,ne_eq,z5,if_true,if_false]
 ·have hc:checkR l=6:=by unfold checkR; rw [hn,if_pos rfl]
  simp only [if_true,Qb,hc,show ¬ ((6:Int)=0) by decide,if_false]
theorem rResh_ok (l a:List Int) (hl:l.length≤1000):JC (l,a)=some (rr (reshR l a).1,(reshR l a).2):=by
 unfold JC reshR;simp only [rDims_ok l false hl,Qb];by_cases hc:checkR l=0
 ·simp only [hc,if_true,ne_eq,z3,if_false]; rfl
 ·simp only [hc,if_false,ne_eq,z5,if_true]; rfl
theorem rperm_L1 (sc:Bool) (n:Nat):∀ (s p:List Int) (m:Int),n=(p++s).length→n≤1000 →
  (s.all (inR n)=false→∃ x,Zj ((n:Int),⟨p++s,sc⟩,p,m,(p.length:Int))=some (.inl x)) ∧
  (s.all (inR n)=true→Zj ((n:Int),⟨p++s,sc⟩,p,m,(p.length:Int))=some (.inr (p++s,maxF s m)))
 | [],p,m,hn,h1=>by
  refine ⟨fun h=>by simp at h,fun _=>?_⟩;rw [Zj,hn]; simp only [Ze,if_false]; simp only [jT]; rfl
 | x::s,p,m,hn,h1=>by
  have hs:(p++x::s).length≤1000:=by omega
  have hp:p.length≤1000:=by simp at hs; omega
  have ih:=rperm_L1 sc n s (p++[x]) (if m < x then x else m) (by rw [← Qt]; exact hn) h1;rw [← Qt] at ih;have i2:idx (p++[x]) (p.length:Int)=some x:=Qz;have hlt:((p.length:Int) < (n:Int)):=by rw [hn]; exact QN
  rw [Zj];simp only [hlt,if_true,Qz,Qb,ite_som];have hin:inR n x=(decide (0≤x) && decide (x < (n:Int))):=rfl;by_cases c1:x < 0
  ·simp only [c1,if_true,List.all_cons,hin,show ¬ (0≤x) by omega,zQ,Bool.false_and];exact ⟨fun _=>⟨_,rfl⟩,fun h=>by cases h⟩
  by_cases c2:x≥(n:Int)
  ·simp only [c1,if_false,c2,decide_true,if_true,List.all_cons,hin,show ¬ (x < (n:Int)) by omega,zQ,Bool.and_false,Bool.false_and];exact ⟨fun _=>⟨_,rfl⟩,fun h=>by cases h⟩
  simp only [c1,if_false,c2,zQ,j5,app1 (show p.length≤100000 by omega),Qb,i2,mid_W (Sm_le hs),List.all_cons,hin,show 0≤x by omega,show x < (n:Int) by omega,decide_true,Bool.true_and];exact ih
theorem rperm_L3 (n:Nat) (k most:Int) (sp:Q0):∀ (s p:List Int) (f:Bool),n=(p++s).length→n≤1000→Zk ((n:Int),p++s,k,most,sp,f,(p.length:Int))=some (f || s.any (· == k))
 | [],p,f,hn,h1=>by rw [Zk,hn]; simp only [Ze,if_false]; simp
 | x::s,p,f,hn,h1=>by
  have hs:(p++x::s).length≤1000:=by omega
  have ih:=fun g=>rperm_L3 n k most sp s (p++[x]) g (by rw [← Qt]; exact hn) h1
  simp only [← Qt] at ih;have hlt:((p.length:Int) < (n:Int)):=by rw [hn]; exact QN
  rw [Zk];simp only [hlt,if_true,Qz,Qb,mid_W (Sm_le hs),ih];cases f <;> simp
open Classical in
theorem rperm_L2 (n:Nat) (v:List Int) (most:Int) (sp:Q0) (hv:v.length=n) (hn:n≤1000) (hm:most < 1000):∀ (d k:Nat),most+1≤(k:Int)+(d:Int)→k≤2000 →
  ZB (most,(n:Int),v,sp,(k:Int))=some (if (∀ j:Nat,k≤j→(j:Int)≤most→(j:Int)∈v) then .inr () else .inl ())
 | 0,k,h,hk=>by
  rw [ZB,if_neg zV,if_pos (fun j h1 h2=>by omega)]
 | d+1,k,h,hk=>by
  rw [ZB];by_cases hc:(k:Int)≤most
  ·have e:=rperm_L3 n k most sp v [] false (by simpa using hv.symm) hn;simp only [jP,jK,jI,Bool.false_or] at e;have ih:=rperm_L2 n v most sp hv hn hm d (k+1) zV zV;have w:W ((k:Int)+1)=((k+1:Nat):Int):=W_succ zV;simp only [if_pos hc,e,Qb,w,ih];by_cases hin:(k:Int)∈v
   ·have hany:v.any (· == (k:Int))=true:=List.any_eq_true.2 ⟨_,hin,by simp⟩;rw [if_neg (by rw [hany]; decide)];congr 1
    have hiff:(∀ j:Nat,k+1≤j→(j:Int)≤most→(j:Int)∈v)↔(∀ j:Nat,k≤j→(j:Int)≤most→(j:Int)∈v):=by
     constructor
     ·intro g j h1 h2;by_cases e:j=k
      ·subst e; exact hin
      ·exact g j zV h2
     ·intro g j h1 h2; exact g j zV h2
    by_cases hg:(∀ j:Nat,k+1≤j→(j:Int)≤most→(j:Int)∈v)
    ·rw [if_pos hg,if_pos (hiff.1 hg)]
    ·rw [if_neg hg,if_neg (fun g=>hg (hiff.2 g))]
   ·have hany:v.any (· == (k:Int))=false:=by
     rw [List.any_eq_false]; intro y hy; simp; intro e; exact hin (e ▸ hy)
    rw [if_pos hany,if_neg (fun g=>hin (g k (j6 _) hc))]
  ·rw [if_neg hc,if_pos (fun j h1 h2=>by omega)]
theorem set_count {v:List Int} {M:Nat} (h0:∀ x∈v,0≤x∧x≤(M:Int)):((setOf v).length=M+1)↔∀ j:Nat,j≤M→(j:Int)∈v:=by
 have hn:=setOf_nodup v;have hsub:∀ x∈setOf v,x∈rng (M+1):=fun x hx=>mem_rng.2 (by have:=h0 x ((mem_setOf v x).1 hx); omega)
 constructor
 ·intro h j hj;have hp:=perm_rng (v:=setOf v) hn (fun x hx=>by have:=h0 x ((mem_setOf v x).1 hx); omega);exact (mem_setOf v _).1 (hp.mem_iff.2 (mem_rng.2 zV))
 ·intro h;have h1:=List.Nodup.length_le_of_subset hn hsub
  have h2:=List.Nodup.length_le_of_subset (rng_nodup (M+1)) (l₂:=setOf v) (fun x hx=>by
   have hx:=mem_rng.1 hx;have:=h x.toNat zV;rw [show ((x.toNat:Nat):Int)=x by omega] at this;exact (mem_setOf v x).2 this)
  simp [rng] at h1 h2;omega
theorem maxF_neg:∀ (l:List Int),l≠[]→(∀ x∈l,0≤x)→maxF l (-1)=maxL l
 | x::s,_,h=>by
  have hx:=h x (jL ..);show maxF s (if (-1:Int) < x then x else -1)=maxF s x
  rw [if_pos zV]
theorem permE_onto {v:List Int} {n:Nat} (h1:v.length=n) (h2:∀ x∈v,0≤x∧x < (n:Int)):(n > 0∧((setOf v).length:Int)≠maxL v+1)↔¬ (∀ j:Nat,0≤j→(j:Int)≤maxF v (-1)→(j:Int)∈v):=by
 by_cases h0:v=[]
 ·subst h0;constructor
  ·rintro ⟨h,_⟩; simp at h1; omega
  ·intro h; exact absurd (fun j _ hj=>by simp [maxF] at hj; omega) h
 ·have hm:=maxF_neg v h0 fun x hx=>(h2 x hx).1
  obtain ⟨g1,g2⟩:=maxL_ge h0;have hM:=h2 _ g2;obtain ⟨M,hMe⟩:=jZ hM.1;have hn:n > 0:=by have:=List.length_pos_iff.2 h0; omega
  have hc:=set_count (v:=v) (M:=M) fun x hx=>⟨(h2 x hx).1,by rw [← hMe]; exact g1 x hx⟩
  rw [hm,hMe];constructor
  ·rintro ⟨_,hne⟩ g
   exact hne (by have:=hc.2 (fun j hj=>g j (zH _) zV); omega)
  ·intro h;refine ⟨hn,fun e=>h fun j _ hj=>hc.1 zV j zV⟩
theorem rPerm_ok (v:List Int) (sc:Bool) (n:Nat) (hn:n≤100):X3 (⟨v,sc⟩,(n:Int))=some (if permE v n=0 then (v,0) else ([],permE v n)):=by
 unfold X3 permE;by_cases c1:v.length=n
 ·obtain ⟨e1,e2⟩:=rperm_L1 sc n v [] (-1) (by simpa using c1.symm) zV;simp only [jP,jK,jI] at e1 e2;simp only [if_neg (show ¬ ((v.length:Int)≠(n:Int)) by omega),if_neg (show ¬ (v.length≠n) by omega)];cases c2:v.all (inR n)
  ·obtain ⟨x,e⟩:=e1 c2;simp only [e,Qb,if_true,show ¬ ((6:Int)=0) by decide,if_false]
  ·have hin:∀ x∈v,0≤x∧x < (n:Int):=fun x hx=>by have:=List.all_eq_true.1 c2 x hx; simpa [inR] using this
   have hlt:maxF v (-1) < 1000:=by
    rcases (maxF_ge v (-1)).2.2 with h|h
    ·omega
    ·have:=hin _ h; omega
   have e3:=rperm_L2 n v (maxF v (-1)) ⟨v,sc⟩ c1 zV hlt 1001 0 zV zV;simp only [jI] at e3;have hiff:=permE_onto c1 hin;simp only [e2 c2,Qb,e3,jN,if_false];by_cases hg:(∀ j:Nat,0≤j→(j:Int)≤maxF v (-1)→(j:Int)∈v)
   ·rw [if_pos hg,if_neg (fun h=>hiff.1 h hg)];simp
   ·rw [if_neg hg,if_pos (hiff.2 hg)];simp
 ·simp only [if_pos (show ((v.length:Int)≠(n:Int)) by omega),if_pos (show v.length≠n from c1),show ¬ ((5:Int)=0) by decide,if_false]
def gmin (i:Int):Int→List Int→List Int→Int
 | acc,j::v,x::a=>gmin i (if j=i then minI acc x else acc) v a
 | acc,_,_=>acc
theorem permF_at (i:Nat):∀ (v a l:List Int),(∀ x∈v,0≤x)→(permF l v a).getD i 65536=gmin i (l.getD i 65536) v a
 | [],_,l,_=>by unfold permF gmin; rfl
 | _::_,[],l,_=>by unfold permF gmin; rfl
 | j::v,x::a,l,h=>by
  have hj:=h j (jL ..);rw [permF,permF_at i v a _ (fun y hy=>h y (jF _ hy)),stepP_get,gmin];congr 1;by_cases e:i=j.toNat
  ·rw [if_pos e,if_pos (show j=(i:Int) by omega),e]
  ·rw [if_neg e,if_neg (show ¬ j=(i:Int) by omega)]
theorem gmin_le_acc (i:Int):∀ (v a:List Int) (acc:Int),gmin i acc v a≤acc
 | [],_,acc=>by unfold gmin; exact Int.le_refl _
 | _::_,[],acc=>by unfold gmin; exact Int.le_refl _
 | j::v,x::a,acc=>by
  have ih:=gmin_le_acc i v a (if j=i then minI acc x else acc);rw [gmin];refine Int.le_trans ih ?_;unfold minI;split
  ·split <;> omega
  ·exact Int.le_refl _
theorem gmin_nonneg (i:Int):∀ (v a:List Int) (acc:Int),(∀ x∈a,0≤x)→0≤acc→0≤gmin i acc v a
 | [],_,acc,_,h=>by unfold gmin; exact h
 | _::_,[],acc,_,h=>by unfold gmin; exact h
 | j::v,x::a,acc,ha,h=>by
  have hx:=ha x (jL ..);rw [gmin];refine gmin_nonneg i v a _ (fun y hy=>ha y (jF _ hy)) ?_;unfold minI;split
  ·split <;> omega
  ·exact h
def lmin (j:Int):Int→List Int→List Int→Int
 | acc,x::s,y::t=>lmin j (if x=j∧(acc < 0∨y < acc) then y else acc) s t
 | acc,_,_=>acc
theorem lmin_pos (j:Int):∀ (s t:List Int) (acc:Int),(∀ y∈t,0≤y)→0≤acc→lmin j acc s t=gmin j acc s t
 | [],_,acc,_,_=>by unfold lmin gmin; rfl
 | _::_,[],acc,_,_=>by unfold lmin gmin; rfl
 | x::s,y::t,acc,ht,h=>by
  have hy:=ht y (jL ..)
  have e:(if x=j∧(acc < 0∨y < acc) then y else acc)=(if x=j then minI acc y else acc):=by
   unfold minI;by_cases h1:x=j
   ·by_cases h2:y < acc
    ·rw [if_pos ⟨h1,.inr h2⟩,if_pos h1,if_pos h2]
    ·rw [if_neg zV,if_pos h1,if_neg h2]
   ·rw [if_neg (fun h=>h1 h.1),if_neg h1]
  rw [lmin,gmin,e];refine lmin_pos j s t _ (fun z hz=>ht z (jF _ hz)) ?_;unfold minI;split
  ·split <;> omega
  ·exact h
theorem lmin_neg (j:Int):∀ (s t:List Int),s.length=t.length→Dims t→lmin j (-1) s t=if j∈s then gmin j 65536 s t else -1
 | [],[],_,_=>by unfold lmin; rw [if_neg zX]
 | x::s,y::t,h,ht=>by
  have hy:=ht y (jL ..);have ht':Dims t:=fun z hz=>ht z (jF _ hz)
  rw [lmin,gmin];by_cases h1:x=j
  ·have e:minI 65536 y=y:=by unfold minI; split <;> omega
   rw [if_pos ⟨h1,.inl zV⟩,if_pos (show j∈x::s by rw [h1]; exact jL ..),if_pos h1,e,lmin_pos j s t y (fun z hz=>(ht' z hz).1) hy.1]
  ·rw [if_neg (fun h=>h1 h.1),if_neg h1,lmin_neg j s t (by simpa using h) ht']
   have:j∈x::s↔j∈s:=by rw [List.mem_cons]; exact ⟨fun h=>h.resolve_left fun e=>h1 e.symm,.inr⟩
   by_cases h2:j∈s
   ·rw [if_pos h2,if_pos (this.2 h2)]
   ·rw [if_neg h2,if_neg (fun h=>h2 (this.1 h))]
 | [],_::_,h,_=>by cases h
 | _::_,[],h,_=>by cases h
theorem rpm_L2 (j:Int) (A:List Int):∀ (s t p q:List Int) (least:Int),s.length=t.length→p.length=q.length→(q++t).length≤1000 →
  ZN (q++t,p++s,j,A,least,(q.length:Int))=some (lmin j least s t)
 | [],[],p,q,least,_,_,_=>by rw [ZN]; simp only [Ze,if_false]; rfl
 | x::s,y::t,p,q,least,h1,h2,hs=>by
  have ih:=fun l=>rpm_L2 j A s t (p++[x]) (q++[y]) l (by simpa using h1) (by simp [h2]) (by rw [← Qt]; exact hs)
  simp only [← Qt] at ih;have i2:idx (p++x::s) (q.length:Int)=some x:=by rw [← h2]; exact Qz
  rw [ZN,lmin];simp only [QN,if_true,Qz,i2,Qb,ite_som,mid_W (Sm_le hs),ih];by_cases c1:x=j
  ·by_cases c2:least < 0
   ·simp [c1,c2]
   ·by_cases c3:y < least <;> simp [c1,c2,c3]
  ·simp [c1]
 | [],_::_,_,_,_,h,_,_=>by cases h
 | _::_,[],_,_,_,h,_,_=>by cases h
def rl (v a:List Int):Nat→Nat→List Int
 | 0,_=>[]
 | d+1,j=>(if (j:Int)∈v then [gmin j 65536 v a] else [])++rl v a d (j+1)
theorem rpm_L1 (v a:List Int) (hva:v.length=a.length) (ha:a.length≤16) (hd:Dims a):∀ (d j:Nat) (A:List Int),j+d=a.length→A.length≤j→ZM (a,v,A,(j:Int))=some (A++rl v a d j)
 | 0,j,A,h,_=>by
  rw [ZM,if_neg zV]; simp [rl]
 | d+1,j,A,h,hA=>by
  have e:=rpm_L2 (j:Int) A v a [] [] (-1) hva rfl zW;simp only [jP,jK,jI] at e;have w:W ((j:Int)+1)=((j+1:Nat):Int):=W_succ zV;rw [ZM,if_pos zV];simp only [e,Qb,lmin_neg _ v a hva hd,rl];by_cases hj:(j:Int)∈v
  ·have h0:=gmin_nonneg (j:Int) v a 65536 (fun x hx=>(hd x hx).1) zV;simp only [if_pos hj,if_pos (show gmin (j:Int) 65536 v a≥0 from h0),app1 (show A.length≤100000 by omega),Qb,w];rw [rpm_L1 v a hva ha hd d (j+1) _ zV zW];simp
  ·simp only [if_neg hj,show ¬ ((-1:Int)≥0) by decide,if_false,w];rw [rpm_L1 v a hva ha hd d (j+1) A zV zV];simp
theorem permF_length:∀ (v a l:List Int) (m:Int),v.length=a.length→(∀ x∈v,0≤x)→(l.length:Int)=m+1→((permF l v a).length:Int)=maxF v m+1
 | [],_,l,m,_,_,h=>by unfold permF; exact h
 | _::_,[],_,_,h,_,_=>by cases h
 | j::v,x::a,l,m,h,h0,hl=>by
  have hj:=h0 j (jL ..);rw [permF];refine permF_length v a _ (if m < j then j else m) (by simpa using h) (fun y hy=>h0 y (jF _ hy)) ?_;rw [stepP_len];split <;> omega
theorem perm_onto {v a:List Int} (hp:permE v a.length=0):v.length=a.length∧(∀ x∈v,0≤x∧x < (a.length:Int))∧(∀ j:Nat,(j:Int)∈v↔j < (permL v a).length):=by
 obtain ⟨h1,h2,h3⟩:=permE_zero hp;have hl:=permF_length v a [] (-1) h1 (fun x hx=>(h2 x hx).1) zX;have hon:=permE_onto h1 h2
 have hall:∀ j:Nat,0≤j→(j:Int)≤maxF v (-1)→(j:Int)∈v:=by
  rcases Classical.em (∀ j:Nat,0≤j→(j:Int)≤maxF v (-1)→(j:Int)∈v) with h|h
  ·exact h
  ·obtain ⟨g1,g2⟩:=hon.2 h;exact absurd (h3 g1) g2
 refine ⟨h1,h2,fun j=>⟨fun hj=>?_,fun hj=>hall j (zH _) ?_⟩⟩
 ·have:=(maxF_ge v (-1)).2.1 _ hj;show j < (permF [] v a).length
  omega
 ·have:j < (permF [] v a).length:=hj
  omega
theorem permL_at {v a:List Int} (hp:permE v a.length=0) {j:Nat} (hj:j < (permL v a).length):(permL v a)[j]=gmin j 65536 v a:=by
 have h:=permF_at j v a [] (fun x hx=>((perm_onto hp).2.1 x hx).1);have e:(permL v a).getD j 65536=(permL v a)[j]:=by rw [jA,jB hj]; rfl
 rw [← e];exact h
theorem rl_eq {v a:List Int} (hp:permE v a.length=0):∀ (d j:Nat),j+d=a.length→(permL v a).length≤a.length→rl v a d j=(permL v a).drop j
 | 0,j,h,hl=>by rw [rl,List.drop_of_length_le zV]
 | d+1,j,h,hl=>by
  rw [rl,rl_eq hp d (j+1) zV hl];have hon:=(perm_onto hp).2.2 j;by_cases hj:j < (permL v a).length
  ·rw [if_pos (hon.2 hj),List.drop_eq_getElem_cons hj,permL_at hp hj]; rfl
  ·rw [if_neg (fun h=>hj (hon.1 h)),List.drop_of_length_le zV,List.drop_of_length_le zV]; rfl
theorem permL_len {v a:List Int} (hp:permE v a.length=0):(permL v a).length≤a.length:=by
 obtain ⟨h1,h2,h3⟩:=perm_onto hp;refine Nat.le_of_not_lt fun h=>?_
 have:=h2 _ ((h3 a.length).2 h);omega
theorem rpermuted_ok {v a:List Int} (hp:permE v a.length=0) (ha:checkR a=0):Jj (v,a)=some ⟨[],a,permL v a,[],-1,0,v⟩:=by
 obtain ⟨c1,c2,_⟩:=checkR_zero.1 ha;have e:=rpm_L1 v a (perm_onto hp).1 c2 c1 a.length 0 [] zV zX;simp only [jI,jP] at e;unfold Jj;simp only [e,Qb,rl_eq hp a.length 0 zV (permL_len hp),List.drop_zero]
def pf (c:Int→Bool):List Int→List Int→Int
 | j::v,x::a=>(if c j then x else 1) * pf c v a
 | _,_=>1
theorem pf_pos (c:Int→Bool):∀ (v a:List Int),(∀ x∈a,1≤x)→1≤pf c v a
 | [],_,_=>by unfold pf; omega
 | _::_,[],_=>by unfold pf; omega
 | j::v,x::a,h=>by
  have ih:=pf_pos c v a (fun y hy=>h y (jF _ hy));have hx:=h x (jL ..);have h1:(1:Int)≤(if c j then x else 1):=by split <;> omega
  rw [pf];have:=Int.mul_le_mul h1 ih zV zV;omega
theorem pf_le (c:Int→Bool):∀ (v a:List Int),(∀ x∈a,1≤x)→pf c v a≤prodI a
 | [],a,h=>by unfold pf; exact prodI_pos h
 | _::_,[],_=>by unfold pf; rw [prodI_nil]; omega
 | j::v,x::a,h=>by
  have h':∀ y∈a,1≤y:=fun y hy=>h y (jF _ hy)
  have ih:=pf_le c v a h';have hx:=h x (jL ..);have h1:(if c j then x else 1)≤x:=by split <;> omega
  rw [pf,prodI_cons];exact Int.mul_le_mul h1 ih (by have:=pf_pos c v a h'; omega) zV
theorem pf_split (m:Nat):∀ (v a:List Int),pf (fun y=>decide (y < ((m+1:Nat):Int))) v a=pf (fun y=>decide (y < (m:Int))) v a * pf (fun y=>decide (y=(m:Int))) v a
 | [],_=>by simp [pf]
 | _::_,[]=>by simp [pf]
 | j::v,x::a=>by
  rw [pf,pf,pf,pf_split m v a];rcases Int.lt_trichotomy j (m:Int) with h|h|h
  ·simp only [show j < ((m+1:Nat):Int) by omega,h,show ¬ j=(m:Int) by omega,decide_true,zQ,if_true,j5,if_false,Int.one_mul,Int.mul_assoc]
  ·simp only [show j < ((m+1:Nat):Int) by omega,h,show ¬ (m:Int) < (m:Int) by omega,decide_true,zQ,if_true,j5,if_false,Int.one_mul,show (m:Int) < ((m+1:Nat):Int) by omega];exact Int.mul_left_comm _ _ _
  ·simp only [show ¬ j < ((m+1:Nat):Int) by omega,show ¬ j < (m:Int) by omega,show ¬ j=(m:Int) by omega,zQ,j5,if_false,Int.one_mul]
theorem gmin_pf (m:Int):∀ (v a:List Int) (acc:Int),v.length=a.length→(∀ x∈a,1≤x)→m∈v→gmin m acc v a≤pf (fun y=>decide (y=m)) v a
 | [],_,_,_,_,h=>by cases h
 | _::_,[],_,h,_,_=>by cases h
 | j::v,x::a,acc,hl,ha,h=>by
  have ha':∀ y∈a,1≤y:=fun y hy=>ha y (jF _ hy)
  have hx:=ha x (jL ..);have hp:=pf_pos (fun y=>decide (y=m)) v a ha';rw [gmin,pf];by_cases e:j=m
  ·simp only [e,decide_true,if_true];have h1:=gmin_le_acc m v a (minI acc x);have h2:minI acc x≤x:=by unfold minI; split <;> omega
   have h3:=Int.mul_le_mul (Int.le_refl x) hp zV zV;rw [Int.mul_one] at h3;omega
  ·have hm:m∈v:=by
    rcases List.mem_cons.1 h with h|h
    ·exact absurd h.symm e
    ·exact h
   simp only [e,zQ,j5,if_false,Int.one_mul];exact gmin_pf m v a acc (by simpa using hl) ha' hm
theorem gmin_zero (m:Int):∀ (v a:List Int) (acc:Int) (k:Nat) (hk:k < a.length) (hv:k < v.length),v[k]=m→gmin m acc v a≤a[k]
 | [],_,_,k,_,hv,_=>by simp at hv
 | _::_,[],_,k,hk,_,_=>by simp at hk
 | j::v,x::a,acc,0,hk,hv,e=>by
  have e:j=m:=e;rw [gmin,if_pos e];have h1:=gmin_le_acc m v a (minI acc x);have h2:minI acc x≤x:=by unfold minI; split <;> omega
  show gmin m (minI acc x) v a≤x
  omega
 | j::v,x::a,acc,k+1,hk,hv,e=>by
  rw [gmin];exact gmin_zero m v a _ k (by simpa using hk) (by simpa using hv) (by simpa using e)
theorem perm_prod {v a:List Int} (hp:permE v a.length=0) (h1:∀ x∈a,1≤x):∀ m:Nat,m≤(permL v a).length→prodI ((permL v a).take m)≤pf (fun y=>decide (y < (m:Int))) v a
 | 0,_=>by rw [List.take_zero,prodI_nil]; exact pf_pos _ v a h1
 | m+1,hm=>by
  obtain ⟨o1,o2,o3⟩:=perm_onto hp;have hlt:m < (permL v a).length:=by omega
  have ih:=perm_prod hp h1 m zV;have hg:=gmin_pf (m:Int) v a 65536 o1 h1 ((o3 m).2 hlt);have g0:=gmin_nonneg (m:Int) v a 65536 (fun x hx=>by have:=h1 x hx; omega) zV;have p0:=pf_pos (fun y=>decide (y < (m:Int))) v a h1;rw [List.take_succ_eq_append_getElem hlt,prodI_append,prodI_cons,prodI_nil,Int.mul_one,permL_at hp hlt,pf_split];exact Int.mul_le_mul ih hg g0 zV
theorem perm_check {v a:List Int} (hp:permE v a.length=0) (ha:checkR a=0):checkR (permL v a)=0:=by
 obtain ⟨c1,c2,c3⟩:=checkR_zero.1 ha;obtain ⟨o1,o2,o3⟩:=perm_onto hp;have hl:=permL_len hp;refine checkR_zero.2 ⟨fun d hd=>?_,by omega,?_⟩
 ·obtain ⟨j,hj,rfl⟩:=List.getElem_of_mem hd;rw [permL_at hp hj];exact ⟨gmin_nonneg _ v a _ (fun x hx=>(c1 x hx).1) zV,gmin_le_acc _ v a _⟩
 ·by_cases h0:(0:Int)∈a
  ·obtain ⟨k,hk,e⟩:=List.getElem_of_mem h0;have hkv:k < v.length:=by omega
   have hj:=o2 _ (z0 hkv);obtain ⟨j,hje⟩:=jZ hj.1;have hlt:j < (permL v a).length:=(o3 j).1 (by rw [← hje]; exact z0 hkv);have hz:=gmin_zero (j:Int) v a 65536 k hk hkv hje;have hn:=gmin_nonneg (j:Int) v a 65536 (fun x hx=>(c1 x hx).1) zV
   have hm:(0:Int)∈permL v a:=by
    have:(permL v a)[j]=0:=by rw [permL_at hp hlt]; omega
    rw [← this]; exact z0 hlt
   rw [prodI_zero hm]; omega
  ·have h1:∀ x∈a,1≤x:=fun x hx=>by
    have:=c1 x hx;have hne:x≠0:=fun e=>h0 (e ▸ hx)
    omega
   have hq:=perm_prod hp h1 (permL v a).length (j6 _);rw [List.take_length] at hq;have:=pf_le (fun y=>decide (y < ((permL v a).length:Int))) v a h1;omega
theorem rTrans_ok (v a:List Int) (ha:checkR a=0):XR (v,a)=some (rr (transR v a).1,(transR v a).2):=by
 have hl:=(checkR_zero.1 ha).2.1;unfold XR transR transE;simp only [rPerm_ok v false a.length zV,Qb];by_cases hp:permE v a.length=0
 ·simp only [hp,if_true,ne_eq,z3,if_false,rpermuted_ok hp ha,perm_check hp ha,Qb]; rfl
 ·simp only [hp,if_false,ne_eq,z5,if_true]; rfl
def revR (ax:Int) (a:List Int):Qr × Int :=
 if ax=-1 then (⟨[],a,a,[],(a.length:Int) - 1,0,[]⟩,0) else if ax≥(a.length:Int) then (zeroRule,4) else (⟨[],a,a,[],ax,0,[]⟩,0)
theorem axisOf_ok (ax:Int) (a:List Int) (hl:a.length≤16):QaP (ax,a)=some (if ax=-1 then ((a.length:Int) - 1,0) else if ax≥(a.length:Int) then (0,4) else (ax,0)):=by
 unfold QaP;have w:W ((a.length:Int) - 1)=(a.length:Int) - 1:=W_ok zV zV;simp only [w];split
 ·rfl
 ·split <;> rfl
theorem Reverse_ok (ax:Int) {a:List Int} (ha:checkR a=0):Qbk (ax,a)=some (revR ax a):=by
 have hl:=(checkR_zero.1 ha).2.1
 have hm:∀ x,JL (a,x,0)=some (.inr (a,a)):=fun x=>by
  unfold JL;simp only [shapeCheck_ok a (Sm_le zV),Qb,ha,ne_eq,z3,if_false,Clone_ok a zV];rfl
 unfold Qbk revR;simp only [axisOf_ok ax a hl,Qb];by_cases h1:ax=-1
 ·subst h1;simp only [if_true,ne_eq,z3,if_false,Xw,Qb,hm]
 by_cases h2:ax≥(a.length:Int)
 ·simp only [h1,h2,if_true,if_false,ne_eq,failed_ok,Qb]; rfl
 ·simp only [h1,h2,if_false,ne_eq,z3,Xw,Qb,hm]
theorem rReverse_ok {ax:Int} (hax:-1≤ax) {a:List Int} (hl:a.length≤16):X1 (ax,a)=some (rr (revR ax a).1,(revR ax a).2):=by
 unfold X1 revR;have w:W ((a.length:Int) - 1)=(a.length:Int) - 1:=W_ok zV zV;simp only [w];by_cases h1:ax=-1
 ·subst h1;have h2:¬ ((-1:Int)≥(a.length:Int)):=by omega
  simp only [h2,if_false,show (-1:Int) < 0 from by decide,if_true,Qb]; rfl
 by_cases h2:ax≥(a.length:Int)
 ·simp only [h1,h2,if_true,if_false]; rfl
 ·have h3:¬ ax < 0:=by omega
  simp only [h1,h2,h3,if_false,Qb]; rfl
theorem revR_axis {ax:Int} (hax:-1≤ax) {a:List Int}:-1≤(revR ax a).1.axis∧((revR ax a).2=0→(revR ax a).1.axis < (a.length:Int)):=by
 unfold revR;split
 ·exact ⟨by show -1≤(a.length:Int) - 1; omega,fun _=>by show (a.length:Int) - 1 < _; omega⟩
 ·split
  ·exact ⟨by show -1≤(0:Int); omega,fun h=>by cases h⟩
  ·exact ⟨hax,fun _=>by show ax < _; omega⟩
theorem okR_rev {ax:Int} {a:List Int} (ha:checkR a=0):okR (revR ax a).1:=by
 unfold revR;split
 ·exact ⟨check_nil,ha,ha⟩
 ·split
  ·exact okR_zero
  ·exact ⟨check_nil,ha,ha⟩
theorem tmod_emod (x d:Int):x.tmod d % d=x % d:=by
 have h:=Int.mul_tdiv_add_tmod x d;generalize x.tmod d=r at h;rw [← h,Int.add_comm,Int.add_mul_emod_self_left]
def modI (x d:Int):Int:=if d≤0 then 0 else x % d
theorem sMod_ok (x d:Int) (hd:d≤65536):Jr (x,d)=some (modI x d):=by
 unfold Jr modI;by_cases h:d≤0
 ·simp only [h,if_true]
 ·have hp:0 < d:=by omega
  simp only [h,if_false,remM,if_neg (show ¬ d=0 by omega),Qb];have h1:=Int.tmod_lt_of_pos x hp
  have h2:-d < x.tmod d:=by
   have:=Int.lt_tmod_of_pos x hp;omega
  have e:x.tmod d % d=x % d:=tmod_emod x d;by_cases h3:x.tmod d < 0
  ·rw [if_pos h3,W_ok zV zV,← e,← Int.add_emod_right,Int.emod_eq_of_lt zV zV]
  ·rw [if_neg h3,← e,Int.emod_eq_of_lt zV h1]
theorem rmod_ok {x d:Int} (hp:0 < d) (hd:d≤65536):(remM x d>>=fun v=>remM (W (v+d)) d>>=fun w=>some w)=some (modI x d):=by
 unfold modI;have h1:=Int.tmod_lt_of_pos x hp;have h2:-d < x.tmod d:=Int.lt_tmod_of_pos x hp;have e:x.tmod d % d=x % d:=tmod_emod x d;simp only [remM,if_neg (show ¬ d=0 by omega),Qb,if_neg (show ¬ d≤0 by omega)];rw [W_ok zV zV,Int.tmod_eq_emod_of_nonneg zV,Int.add_emod_right,e]
def rotR (v:List Int) (ax:Int) (a:List Int):Qr × Int :=
 if v.length≠1 then (zeroRule,5) else if (revR ax a).2≠0 then (zeroRule,(revR ax a).2) else
 (⟨[],a,a,[],(revR ax a).1.axis,if (revR ax a).1.axis < 0 then 0 else modI (v.getD 0 0) (a.getD (revR ax a).1.axis.toNat 0),[]⟩,0)
theorem Rotate_ok (v:List Int) (sc:Bool) {ax:Int} (hax:-1≤ax) {a:List Int} (hv:v.length≤1000) (ha:checkR a=0):QbV (⟨v,sc⟩,ax,a)=some (rotR v ax a):=by
 obtain ⟨hd,hl,_⟩:=checkR_zero.1 ha
 have hm1:XU (a,v,sc)=some (.inr (a,a)):=by
  unfold XU;simp only [shapeCheck_ok a (Sm_le zV),Qb,ha,ne_eq,z3,if_false,Clone_ok a zV]
 have hm2:∀ x y,XT (a,v,sc,x,y)=some (.inr (a,a)):=fun x y=>by
  unfold XT;simp only [shapeCheck_ok a (Sm_le zV),Qb,ha,ne_eq,z3,if_false,Clone_ok a zV];rfl
 unfold QbV rotR Qe9 J9;dsimp only;by_cases h1:v.length=1
 case neg =>
  have h1':(v.length:Int)≠1:=by omega
  simp only [h1',h1,ne_eq,z5,if_true,Qb,show ¬ (5:Int)=0 from by decide,failed_ok]
 obtain ⟨x,rfl⟩:∃ x,v=[x]:=List.length_eq_one_iff.1 h1;have e1:(([x]:List Int).length:Int)=1:=rfl;have e2:idx [x] 0=some x:=rfl;have ea:=revR_axis hax (a:=a);simp only [e1,ne_eq,z3,if_false,Clone64_ok [x] zX,Qb,e2,axisOf_ok ax a hl,List.length_singleton]
 have key:∀ k:Int,-1≤k→k < (a.length:Int)→(if k < 0 then
   (XU (a,[x],sc)>>=fun out=>match out with
    | .inl v9=>some ((⟨[],[],[],[],0,0,[]⟩:Qr),v9)
    | .inr (v10,v11)=>some ((⟨[],v10,v11,[],-1,0,[]⟩:Qr),0))
   else idx a k>>=fun v12=>Jr (x,v12)>>=fun v13=>Xw (k,v13)>>=fun p=>match p with
    | (v14,v15)=>XT (a,[x],sc,v14,v15)>>=fun out=>match out with
     | .inl v16=>some ((⟨[],[],[],[],0,0,[]⟩:Qr),v16)
     | .inr (v17,v18)=>some ((⟨[],v17,v18,[],v14,v15,[]⟩:Qr),0)) =
   some (⟨[],a,a,[],k,if k < 0 then 0 else modI ([x].getD 0 0) (a.getD k.toNat 0),[]⟩,0):=fun k k1 k2=>by
  by_cases hk:k < 0
  ·have:k=-1:=by omega
   subst this;simp only [hk,if_true,hm1,Qb]
  ·obtain ⟨j,rfl⟩:=jZ (show 0≤k by omega);have hj:j < a.length:=by omega
   have hdj:=hd a[j] (z0 hj);simp only [hk,if_false,idx_ok hj,Qb,sMod_ok x a[j] hdj.2,Xw,hm2,Int.toNat_natCast,getD_el hj];rfl
 unfold revR at ea ⊢;by_cases h2:ax=-1
 ·simp only [h2,if_true] at ea ⊢;simp only [ne_eq,z3,if_false];exact key _ ea.1 (ea.2 trivial)
 by_cases h3:ax≥(a.length:Int)
 ·simp only [h2,h3,if_true,if_false,ne_eq,failed_ok,Qb]; rfl
 ·simp only [h2,h3,if_false] at ea ⊢;simp only [ne_eq,z3,if_false];exact key _ ea.1 (ea.2 trivial)
theorem rRotate_ok (v:List Int) {ax:Int} (hax:-1≤ax) {a:List Int} (ha:checkR a=0):J6 (v,ax,a)=some (rr (rotR v ax a).1,(rotR v ax a).2):=by
 obtain ⟨hd,hl,_⟩:=checkR_zero.1 ha;unfold J6 rotR;dsimp only;by_cases h1:v.length=1
 case neg =>
  have h1':(v.length:Int)≠1:=by omega
  simp only [h1',h1,ne_eq,z5,if_true]; rfl
 obtain ⟨x,rfl⟩:∃ x,v=[x]:=List.length_eq_one_iff.1 h1;have e1:(([x]:List Int).length:Int)=1:=rfl;have e2:idx [x] 0=some x:=rfl;have ea:=revR_axis hax (a:=a);simp only [e1,ne_eq,z3,if_false,rReverse_ok hax hl,Qb,List.length_singleton,show ((1:Nat):Int)=1 from rfl]
 have hsh:(revR ax a).2=0→(revR ax a).1=⟨[],a,a,[],(revR ax a).1.axis,0,[]⟩:=by
  unfold revR;split
  ·exact fun _=>rfl
  ·split
   ·exact fun h=>by cases h
   ·exact fun _=>rfl
 have hz:(revR ax a).2≠0→(revR ax a).1=zeroRule:=by
  unfold revR;split
  ·exact fun h=>absurd rfl h
  ·split
   ·exact fun _=>rfl
   ·exact fun h=>absurd rfl h
 generalize hq:revR ax a=q at ea hsh hz ⊢;obtain ⟨r,e⟩:=q;simp only at ea hsh hz ⊢;by_cases he:e=0
 ·subst he;have hr:=hsh rfl;have hk:=ea.2 rfl;have h3:(rr r).axis=r.axis:=rfl;simp only [if_true,z3,if_false,h3];by_cases h0:r.axis < 0
  ·have hng:¬ r.axis≥0:=by omega
   simp only [zP hng,Qb,j5,if_false,h0,if_true];rw [hr]; rfl
  ·obtain ⟨j,hj⟩:=jZ (show 0≤r.axis by omega);have hja:j < a.length:=by omega
   have hdj:=hd a[j] (z0 hja);have hge:r.axis≥0:=by omega
   simp only [decide_eq_true hge,Qb,if_true,h0,if_false];rw [hj];simp only [idx_ok hja,Qb,Int.toNat_natCast,getD_el hja];by_cases hp:a[j] > 0
   ·simp only [decide_eq_true hp,if_true,e2,Qb];have:=rmod_ok (x:=x) (show 0 < a[j] by omega) hdj.2;rw [this,Qb,hr,hj]; rfl
   ·have hm:modI x a[j]=0:=if_pos zV;simp only [zP hp,j5,if_false,Qb];rw [hr,hj];show some (_,_)=some (rr ⟨[],a,a,[],_,modI x a[j],[]⟩,0)
    rw [hm]; rfl
 ·rw [hz he];simp only [he,z5,if_true,if_false,Qb,j5]
  try rfl
theorem okR_rot {v:List Int} {ax:Int} {a:List Int} (ha:checkR a=0):okR (rotR v ax a).1:=by
 unfold rotR;split
 ·exact okR_zero
 ·split
  ·exact okR_zero
  ·exact ⟨check_nil,ha,ha⟩
def ravR (a:List Int):Qr:=⟨[],a,[cellsR a],[],-1,0,[]⟩
theorem cells_check {a:List Int} (ha:checkR a=0):checkR [cellsR a]=0:=by
 obtain ⟨h1,h2,h3⟩:=checkR_zero.1 ha;have hc:cellsR a=prodI a:=if_pos ha;have h0:0≤prodI a:=prodI_nonneg fun x hx=>(h1 x hx).1
 rw [hc];refine checkR_zero.2 ⟨fun x hx=>?_,by simp,?_⟩
 ·simp only [List.mem_singleton] at hx; subst hx; exact ⟨h0,h3⟩
 ·show prodI [prodI a]≤_; simp [prodI] at h3 ⊢; exact h3
theorem shapeCells_ok (l:List Int) (hs:Sm l.length):Z8 l=some (cellsR l):=by
 unfold Z8 cellsR;simp only [shapeCheck_ok l hs,Qb];by_cases h:checkR l=0
 ·simp only [h,ne_eq,z3,if_false,if_true,sProduct_ok l hs,Qb];obtain ⟨h1,h2,h3⟩:=checkR_zero.1 h
  have hn:negB l=false:=by
   cases e:negB l with
   | false=>rfl
   | true=>unfold checkR at h; rw [e] at h; cases h
  have hb:bigB l=false:=by
   cases e:bigB l with
   | false=>rfl
   | true=>unfold checkR at h; rw [hn,e] at h; simp at h
  unfold prodR;rw [hn,hb];simp only [j5,if_false,show ¬ prodI l > 65536 by omega]
 ·simp only [h,ne_eq,z5,if_true,if_false]
theorem Ravel_ok {a:List Int} (ha:checkR a=0):QcC a=some (ravR a,0):=by
 have hl:=(checkR_zero.1 ha).2.1;unfold QcC QaZ;simp only [shapeCells_ok a (Sm_le (show a.length≤1000 by omega)),Qb,shapeCheck_ok [cellsR a] (Sm_le (show ([cellsR a]:List Int).length≤1000 by simp)),cells_check ha,ne_eq,z3,if_false,Clone_ok a zV,Clone_ok [cellsR a] zX];rfl
theorem rRavel_ok {a:List Int} (hl:a.length≤1000):QaN a=some (rr (ravR a)):=by
 unfold QaN;simp only [Cells_ok a (Sm_le hl),Qb]; rfl
def dn:Nat→List Int
 | 0=>[]
 | n+1=>(n:Int)::dn n
theorem dn_len:∀ n,(dn n).length=n
 | 0=>rfl
 | n+1=>by rw [dn,z8,dn_len n]
theorem dn_mem:∀ (n:Nat) (x:Int),x∈dn n↔0≤x∧x < (n:Int)
 | 0,x=>by
  simp only [dn,List.not_mem_nil,false_iff]; omega
 | n+1,x=>by rw [dn,List.mem_cons,dn_mem n x]; omega
theorem dn_perm (n:Nat):permE (dn n) n=0:=by
 unfold permE
 rw [if_neg (by simp [dn_len]),if_neg (by
  have:(dn n).all (inR n)=true:=List.all_eq_true.2 fun x hx=>by have:=(dn_mem n x).1 hx; simp [inR]; omega
  rw [this]; simp),if_neg]
 have hle:∀ x∈dn n,0≤x∧x < (n:Int):=fun x hx=>(dn_mem n x).1 hx
 rw [permE_onto (dn_len n) hle];intro h;refine h fun j _ hj=>?_
 rw [dn_mem];refine ⟨by omega,?_⟩
 have hb:maxF (dn n) (-1) < (n:Int):=by
  rcases (maxF_ge (dn n) (-1)).2.2 with e|e
  ·rw [e]; omega
  ·exact (hle _ e).2
 omega
def flipR (a:List Int):Qr:=⟨[],a,permL (dn a.length) a,[],-1,0,dn a.length⟩
theorem flip_L1 (a:List Int) (hl:a.length≤16):∀ (m j:Nat) (acc:List Int),j+m=a.length→acc.length=j→XI (a,acc,(j:Int))=some (acc++dn m)
 | 0,j,acc,h,h2=>by
  rw [XI]
  have:¬ ((j:Int) < (a.length:Int)):=by omega
  simp only [this,if_false,dn,jT]
 | m+1,j,acc,h,h2=>by
  rw [XI];have h1:((j:Int) < (a.length:Int)):=by omega
  have w:W ((j:Int)+1)=((j+1:Nat):Int):=W_succ zV;have w2:W (W ((a.length:Int) - 1) - (j:Int))=(m:Int):=by rw [W_ok (n:=(a.length:Int) - 1) zV zV,W_ok zV zV]; omega
  simp only [h1,if_true,w2,app1 (show acc.length≤100000 by omega),Qb,w,flip_L1 a hl m (j+1) (acc++[(m:Int)]) zV zW,dn,List.append_assoc,List.singleton_append]
theorem dn_in (n:Nat):∀ x∈dn n,0≤x∧x < (n:Int):=fun x hx=>(dn_mem n x).1 hx
theorem Flip_ok {a:List Int} (ha:checkR a=0):Qdq a=some (flipR a,0):=by
 have hl:=(checkR_zero.1 ha).2.1;have e:=flip_L1 a hl a.length 0 [] zV rfl;simp only [jI,jP] at e;unfold Qdq;simp only [e,Qb,permuted_ok (dn a.length) a hl (dn_len _) (dn_in _),perm_check (dn_perm a.length) ha,if_true];rfl
theorem rflip_L1 (a:List Int):∀ (m:Nat) (acc:List Int),acc.length+m≤1000→Xp (a,acc,(m:Int) - 1)=some (acc++dn m)
 | 0,acc,h=>by
  rw [Xp]
  have:¬ (((0:Nat):Int) - 1≥0):=by omega
  simp only [this,if_false,dn,jT]
 | m+1,acc,h=>by
  rw [Xp];have h1:(((m+1:Nat):Int) - 1≥0):=by omega
  have w:W (((m+1:Nat):Int) - 1 - 1)=(m:Int) - 1:=by rw [W_ok zV zV]; omega
  have w2:((m+1:Nat):Int) - 1=(m:Int):=by omega
  have e:=rflip_L1 a m (acc++[(m:Int)]) zW;rw [w2] at w h1 ⊢;simp only [h1,if_true,w,app1 (show acc.length≤100000 by omega),Qb,dn,e,List.append_assoc,List.singleton_append]
theorem rFlip_ok {a:List Int} (ha:checkR a=0):Qbz a=some (rr (flipR a)):=by
 have hl:=(checkR_zero.1 ha).2.1;have w:W ((a.length:Int) - 1)=(a.length:Int) - 1:=W_ok zV zV;have e:=rflip_L1 a a.length [] zW;unfold Qbz;simp only [w,e,Qb,jP,rpermuted_ok (dn_perm a.length) ha];rfl
theorem okR_flip {a:List Int} (ha:checkR a=0):okR (flipR a):=⟨check_nil,ha,perm_check (dn_perm a.length) ha⟩
mutual
def szT:Qc→Nat
 | ⟨_,_,_,_,_,kids⟩=>1+szTs kids
def szTs:List Qc→Nat
 | []=>0
 | k::ks=>szT k+szTs ks
end
mutual
def numT:Qc→Nat
 | ⟨_,_,_,_,nums,kids⟩=>nums.length+numTs kids
def numTs:List Qc→Nat
 | []=>0
 | k::ks=>numT k+numTs ks
end
mutual
def depT:Qc→Nat
 | ⟨_,_,_,_,_,kids⟩=>depTs kids+1
def depTs:List Qc→Nat
 | []=>0
 | k::ks=>max (depT k) (depTs ks)
end
theorem szT_pos:∀ t:Qc,1≤szT t
 | ⟨_,_,_,_,_,kids⟩=>by rw [szT]; omega
theorem szTs_len:∀ l:List Qc,l.length≤szTs l
 | []=>zH _
 | k::ks=>by have:=szTs_len ks; have:=szT_pos k; rw [szTs]; simp only [z8]; omega
mutual
theorem depT_le:∀ t:Qc,depT t≤szT t
 | ⟨_,_,_,_,_,kids⟩=>by have:=depTs_le kids; rw [depT,szT]; omega
theorem depTs_le:∀ l:List Qc,depTs l≤szTs l
 | []=>j6 _
 | k::ks=>by have:=depT_le k; have:=depTs_le ks; rw [depTs,szTs]; omega
end
mutual
theorem tleft_ok:∀ (t:Qc) (n:Int),0≤n→n≤600→Qan (t,n)=some (max (n - (szT t:Int)) (-1))
 | ⟨k,f,a,nm,nu,ks⟩,n,h1,h2=>by
  rw [Qan];have w:W (n - 1)=n - 1:=W_ok zV zV;have e:=tleft_loop ks [] (n - 1) k f a nm nu zV zW;simp only [jP,jK,jI] at e;rw [w,e,Qb,szT];congr 1; omega
theorem tleft_loop:∀ (s p:List Qc) (n:Int) (k f a:Int) (nm:ByteArray) (nu:List Int),-1≤n→(p.length:Int)+n≤600 →
  Ys (⟨k,f,a,nm,nu,p++s⟩,n,(p.length:Int))=some (max (n - (szTs s:Int)) (-1))
 | [],p,n,k,f,a,nm,nu,h1,h2=>by
  rw [Ys];simp only [Ze,if_false,Qb,j5,szTs];congr 1; omega
 | x::s,p,n,k,f,a,nm,nu,h1,h2=>by
  rw [Ys];simp only [QN,if_true,Qb];by_cases hn:n≥0
  ·rw [decide_eq_true hn];have e:=tleft_ok x n hn zV;have e':=tleft_loop s (p++[x]) (max (n - (szT x:Int)) (-1)) k f a nm nu zV (by have:=szT_pos x; simp; omega);rw [← Qt] at e';have w:W ((p.length:Int)+1)=((p++[x]).length:Int):=by rw [W_ok zV zV]; simp
   simp only [if_true,Qz,Qb,e,w,e',szTs];congr 1; omega
  ·rw [zP hn];simp only [j5,if_false,szTs];congr 1; omega
end
mutual
theorem tdep_ok:∀ (t:Qc),szT t≤600→Je t=some (depT t:Int)
 | ⟨k,f,a,nm,nu,ks⟩,h=>by
  rw [Je];rw [szT] at h;have e:=tdep_loop ks [] 0 k f a nm nu (by have:=szTs_len ks; simp; omega) zV zV;simp only [jP,jK,jI] at e;have:=depTs_le ks;simp only [e,Qb,depT];rw [W_ok zV zV];congr 1
  first|done|omega
theorem tdep_loop:∀ (s p:List Qc) (m:Nat) (k f a:Int) (nm:ByteArray) (nu:List Int),(p++s).length≤600→szTs s≤600→m≤600 →
  Z3 (⟨k,f,a,nm,nu,p++s⟩,(m:Int),(p.length:Int))=some ((max m (depTs s):Nat):Int)
 | [],p,m,k,f,a,nm,nu,h1,h2,h3=>by
  rw [Z3];simp only [Ze,if_false,depTs,Nat.max_zero]
 | x::s,p,m,k,f,a,nm,nu,h1,h2,h3=>by
  rw [Z3];rw [szTs] at h2;have e:=tdep_ok x zV;have hd:=depT_le x;have e':=tdep_loop s (p++[x]) (max m (depT x)) k f a nm nu (by simpa using h1) zV zV;rw [← Qt] at e';have w:W ((p.length:Int)+1)=((p++[x]).length:Int):=mid_W (Sm_of h1);have hx:(if (m:Int) < (depT x:Int) then (depT x:Int) else (m:Int))=((max m (depT x):Nat):Int):=by split <;> omega
  simp only [QN,if_true,Qz,Qb,e,w,hx,e',depTs];congr 1; omega
end
mutual
theorem tnum_ok:∀ (t:Qc),szT t≤600→numT t≤1000000000000000000→X0 t=some (numT t:Int)
 | ⟨k,f,a,nm,nu,ks⟩,h,h2=>by
  rw [X0];rw [szT] at h;rw [numT] at h2;have e:=tnum_loop ks [] nu.length k f a nm nu (by have:=szTs_len ks; simp; omega) zV zV;simp only [jP,jK,jI] at e;simp only [e,Qb,numT]
theorem tnum_loop:∀ (s p:List Qc) (m:Nat) (k f a:Int) (nm:ByteArray) (nu:List Int),(p++s).length≤600→szTs s≤600→m+numTs s≤1000000000000000000 →
  ZE (⟨k,f,a,nm,nu,p++s⟩,(m:Int),(p.length:Int))=some ((m+numTs s:Nat):Int)
 | [],p,m,k,f,a,nm,nu,h1,h2,h3=>by
  rw [ZE];simp only [Ze,if_false,numTs,zN]
 | x::s,p,m,k,f,a,nm,nu,h1,h2,h3=>by
  rw [ZE];rw [szTs] at h2;rw [numTs] at h3;have e:=tnum_ok x zV zV;have e':=tnum_loop s (p++[x]) (m+numT x) k f a nm nu (by simpa using h1) zV zV;rw [← Qt] at e';have w:W ((p.length:Int)+1)=((p++[x]).length:Int):=mid_W (Sm_of h1);have hx:W ((m:Int)+(numT x:Int))=((m+numT x:Nat):Int):=by rw [W_ok zV zV]; omega
  simp only [QN,if_true,Qz,Qb,e,w,hx,e',numTs,Nat.add_assoc]
end
def fewT (t:Qc):Prop:=szT t≤40∧depT t≤150∧numT t≤400
theorem tFew_ok (t:Qc) (hb:numT t≤szT t * 140737488351232):∃ b,Qdn (t,40)=some b∧(b=true↔fewT t):=by
 unfold Qdn;simp only [tleft_ok t 40 zV zV,Qb];by_cases h:szT t≤40
 ·have h0:max ((40:Int) - (szT t:Int)) (-1)≥0:=by omega
  have hn:numT t≤1000000000000000000:=jV hb (jV (Nat.mul_le_mul_right _ h) zZ);have w:W (10 * 40)=400:=by decide
  simp only [h0,if_true,tdep_ok t zV,tnum_ok t zV hn,Qb,w];by_cases hd:(depT t:Int)≤150
  ·rw [decide_eq_true hd];simp only [if_true];refine ⟨_,rfl,?_⟩;unfold fewT;simp only [z4];omega
  ·rw [zP hd];simp only [j5,if_false];exact ⟨_,rfl,fun h=>(by cases h),fun h=>by unfold fewT at h; omega⟩
 ·have h0:¬ max ((40:Int) - (szT t:Int)) (-1)≥0:=by omega
  simp only [h0,if_false,Qb,j5];exact ⟨_,rfl,fun h=>(by cases h),fun h'=>by unfold fewT at h'; omega⟩
theorem letter_tot (v:Int):∃ b,Xh v=some b:=by
 unfold Xh;simp only [ite_som,Qb];exact ⟨_,rfl⟩
theorem digit_tot (v:Int):∃ b,Jd v=some b:=by
 unfold Jd;simp only [ite_som,Qb];exact ⟨_,rfl⟩
theorem sidx_ok {b:ByteArray} {i:Nat} (h:i < b.size):∃ v,sidx b (i:Int)=some v:=by
 unfold sidx;rw [if_pos zV];have h2:((i:Int)).toNat < b.data.size:=by have:b.data.size=b.size:=rfl; omega
 rw [j9 h2];exact ⟨_,rfl⟩
theorem end_tot (s:ByteArray) (hs:s.size≤1000000000000000000):∀ m i:Nat,i+m=s.size→∃ r,ZZ (s,(i:Int))=some r
 | 0,i,h=>by
  rw [ZZ]
  have:¬ ((i:Int) < (s.size:Int)):=by omega
  simp only [this,if_false,Qb,j5];exact ⟨_,rfl⟩
 | m+1,i,h=>by
  rw [ZZ];have h1:((i:Int) < (s.size:Int)):=by omega
  obtain ⟨v,e⟩:=sidx_ok (b:=s) (i:=i) zV;obtain ⟨b,eb⟩:=letter_tot v;obtain ⟨c,ec⟩:=digit_tot v;obtain ⟨r,er⟩:=end_tot s hs m (i+1) zV;have w:W ((i:Int)+1)=((i+1:Nat):Int):=W_succ zV;simp only [h1,if_true,e,eb,ec,Qb,w,er,ite_som];split
  ·exact ⟨_,rfl⟩
  ·exact ⟨_,rfl⟩
theorem name_tot (s:ByteArray) (hs:s.size≤1000000000000000000):∃ b,YT s=some b:=by
 unfold YT;simp only [];by_cases h:(s.size:Int) > 0
 ·obtain ⟨v,e⟩:=sidx_ok (b:=s) (i:=0) zV;simp only [jI] at e;obtain ⟨b,eb⟩:=letter_tot v;obtain ⟨r,er⟩:=end_tot s hs s.size 0 zV;simp only [jI] at er;simp only [h,if_true,e,eb,Qb];cases b
  ·simp only [j5,if_false]; exact ⟨_,rfl⟩
  ·simp only [if_true,Qdm,er,Qb]; exact ⟨_,rfl⟩
 ·simp only [h,if_false,Qb,j5]; exact ⟨_,rfl⟩
def noT:Qc:=⟨0,0,0,ByteArray.empty,[],[]⟩
def axF (a:Int):Prop:=0≤a∧a≤15
def formF (t:Qc):Prop :=
 (t.kind=1∧t.fn=0∧t.axis=-1∧t.name=ByteArray.empty∧t.kids.length=0) ∨
 (t.kind=2∧t.fn=0∧t.axis=-1∧YT t.name=some true∧t.nums.length=0∧t.kids.length=0) ∨
 (t.kind=3∧t.name=ByteArray.empty∧t.nums.length=0∧t.kids.length=1∧((t.fn=3∧(t.axis=-1∨axF t.axis))∨((t.fn=4∨t.fn=6)∧t.axis=-1))) ∨
 (t.kind=4∧t.name=ByteArray.empty∧t.nums.length=0∧t.kids.length=2∧1≤t.fn∧t.fn≤6∧(t.axis=-1∨(axF t.axis∧(t.fn=3∨t.fn=6)))∧(t.fn=6∨(t.kids.getD 0 noT).kind=1∨(t.kids.getD 0 noT).kind=2))
set_option maxHeartbeats 4000000 in
theorem tnode_ok (t:Qc) (hs:t.name.size≤1000000000000000000):∃ b,Qcy t=some b∧(b=true↔formF t):=by
 obtain ⟨k,f,a,nm,nu,ks⟩:=t;obtain ⟨nb,en⟩:=name_tot nm hs;unfold Qcy;simp only [ite_som,Qb];by_cases h1:k=1
 ·subst h1;simp only [if_true,ite_som,Qb];refine ⟨_,rfl,?_⟩;simp only [formF,axF];by_cases c1:f=0 <;> by_cases c2:a=-1 <;> by_cases c3:nm=ByteArray.empty <;> simp [c1,c2,c3] <;> omega
 ·by_cases h2:k=2
  ·subst h2;simp only [if_neg h1,if_true,ite_som,Qb,en];refine ⟨_,rfl,?_⟩;simp only [formF,axF,en];cases nb <;> by_cases c1:f=0 <;> by_cases c2:a=-1 <;> by_cases c3:nu=[] <;> simp [c1,c2,c3]
  ·by_cases h3:k=3
   ·subst h3;simp only [if_neg h1,if_neg h2,if_true,ite_som,Qb];refine ⟨_,rfl,?_⟩;simp only [formF,axF];by_cases c1:nm=ByteArray.empty <;> by_cases c2:nu=[] <;> by_cases c3:ks.length=1 <;> by_cases c4:f=3 <;> by_cases c5:a=-1 <;> simp [c1,c2,c3,c4,c5] <;> (try omega)
   ·by_cases h4:k=4
    ·subst h4;simp only [if_neg h1,if_neg h2,if_neg h3,if_true,ite_som,Qb]
     match ks with
     | [x,y] =>
      have i0:idx [x,y] 0=some x:=rfl;simp only [i0,ite_som,Qb];refine ⟨_,rfl,?_⟩;simp only [formF,axF];by_cases c1:nm=ByteArray.empty <;> by_cases c2:nu=[] <;> by_cases c3:f=6 <;> by_cases c4:f=3 <;> by_cases c5:a=-1 <;> simp [c1,c2,c3,c4,c5] <;> (try omega)
     | [] =>
      simp [formF]
     | [x]=>
      simp [formF]
     | x::y::z::r =>
      simp [formF];intro _ _ h;omega
    ·simp only [if_neg h1,if_neg h2,if_neg h3,if_neg h4];exact ⟨_,rfl,fun h=>(by cases h),fun h=>by simp only [formF] at h; omega⟩
mutual
def good:Qc→Prop
 | ⟨k,f,a,nm,nu,ks⟩=>formF ⟨k,f,a,nm,nu,ks⟩∧goods ks
def goods:List Qc→Prop
 | []=>True
 | k::ks=>good k∧goods ks
end
def nmOk (n:Nat):Prop:=n≤1000000000000000000
mutual
def namesOk:Qc→Prop
 | ⟨_,_,_,nm,_,ks⟩=>nmOk nm.size∧namesOks ks
def namesOks:List Qc→Prop
 | []=>True
 | k::ks=>namesOk k∧namesOks ks
end
mutual
theorem tnodes_ok:∀ (t:Qc),szT t≤600→namesOk t→∃ b,JR t=some b∧(b=true↔good t)
 | ⟨k,f,a,nm,nu,ks⟩,h,hn=>by
  rw [szT] at h;rw [namesOk] at hn;obtain ⟨b,e,hb⟩:=tnode_ok ⟨k,f,a,nm,nu,ks⟩ hn.1;have hl:=szTs_len ks;obtain ⟨r,e2,hr⟩:=tnodes_loop ks [] k f a nm nu zW zV hn.2;simp only [jP,jK,jI] at e2;rw [JR];simp only [e,Qb,good,← hb,← hr];cases b with
  | false=>exact ⟨_,rfl,fun h=>(by cases h),fun h=>(by cases h.1)⟩
  | true =>
   simp only [jN,if_false,e2,Qb,true_and];cases r with
   | inl u=>exact ⟨_,rfl,fun h=>(by cases h),fun h=>(by cases h)⟩
   | inr u=>exact ⟨_,rfl,fun _=>rfl,fun _=>rfl⟩
theorem tnodes_loop:∀ (s p:List Qc) (k f a:Int) (nm:ByteArray) (nu:List Int),(p++s).length≤600→szTs s≤600→namesOks s →
  ∃ r,Z4 (⟨k,f,a,nm,nu,p++s⟩,(p.length:Int))=some r∧(r=.inr ()↔goods s)
 | [],p,k,f,a,nm,nu,h1,h2,h3=>by
  rw [Z4];simp only [Ze,if_false,goods];exact ⟨_,rfl,fun _=>trivial,fun _=>rfl⟩
 | x::s,p,k,f,a,nm,nu,h1,h2,h3=>by
  rw [Z4];rw [szTs] at h2;rw [namesOks] at h3;obtain ⟨b,e,hb⟩:=tnodes_ok x zV h3.1;obtain ⟨r,e',hr⟩:=tnodes_loop s (p++[x]) k f a nm nu (by simpa using h1) zV h3.2;rw [← Qt] at e';have w:W ((p.length:Int)+1)=((p++[x]).length:Int):=mid_W (Sm_of h1);simp only [QN,if_true,Qz,Qb,e,w,goods,← hb,← hr];cases b with
  | false=>exact ⟨_,rfl,fun h=>(by cases h),fun h=>(by cases h.1)⟩
  | true=>exact ⟨r,e',fun h=>⟨rfl,h⟩,fun h=>h.2⟩
end
theorem etaT (t:Qc):(⟨t.kind,t.fn,t.axis,t.name,t.nums,t.kids⟩:Qc)=t:=by cases t; rfl
theorem tRight_ok (t:Qc) (h:szT t≤300) (hn:namesOk t):∃ b,QbP t=some b∧(b=true↔depT t≤100∧good t):=by
 obtain ⟨b,e,hb⟩:=tnodes_ok t zV hn;unfold QbP;simp only [tdep_ok t zV,Qb];by_cases hd:(depT t:Int)≤100
 ·simp only [hd,if_true,etaT,e,Qb];exact ⟨_,rfl,by rw [hb]; exact ⟨fun h=>⟨by omega,h⟩,fun h=>h.2⟩⟩
 ·simp only [hd,if_false];exact ⟨_,rfl,fun h=>(by cases h),fun h=>zV⟩
theorem tSmall_ok (t:Qc) (hb:numT t≤szT t * 140737488351232) (hn:namesOk t):∃ b,QbQ (t,40)=some b∧(b=true↔fewT t∧depT t≤100∧good t):=by
 obtain ⟨b,e,h⟩:=tFew_ok t hb;unfold QbQ;simp only [e,Qb];cases b with
 | false=>
  simp only [j5,if_false];exact ⟨_,rfl,fun h=>(by cases h),fun h'=>h.2 h'.1⟩
 | true =>
  obtain ⟨c,e2,h2⟩:=tRight_ok t (by have:=(h.1 rfl).1; omega) hn;simp only [if_true,etaT,e2,Qb];exact ⟨_,rfl,by rw [h2]; exact ⟨fun h'=>⟨h.1 rfl,h'⟩,fun h'=>h'.2⟩⟩
theorem szT_f (t:Qc):szT t=1+szTs t.kids:=by cases t; rw [szT]
theorem numT_f (t:Qc):numT t=t.nums.length+numTs t.kids:=by cases t; rw [numT]
theorem good_f {t:Qc}:good t↔formF t∧goods t.kids:=by cases t; rw [good]
theorem kids1 {t:Qc} (h:t.kids.length=1):∃ k,t.kids=[k]:=by
 match e:t.kids,h with
 | [k],_=>exact ⟨k,rfl⟩
theorem kids2 {t:Qc} (h:t.kids.length=2):∃ l k,t.kids=[l,k]:=by
 match e:t.kids,h with
 | [l,k],_=>exact ⟨l,k,rfl⟩
theorem goods1 {k:Qc}:goods [k]↔good k:=by rw [goods,goods]; simp
theorem goods2 {l k:Qc}:goods [l,k]↔good l∧good k:=by rw [goods,goods,goods]; simp
theorem sz1 (k:Qc):szTs [k]=szT k∧numTs [k]=numT k∧depTs [k]=depT k:=by simp [szTs,numTs,depTs]
theorem sz2 (l k:Qc):szTs [l,k]=szT l+szT k∧numTs [l,k]=numT l+numT k∧depTs [l,k]=max (depT l) (depT k):=by simp [szTs,numTs,depTs]
theorem nq12:¬ (1:Int)=2:=by decide
theorem nq21:¬ (2:Int)=1:=by decide
theorem nq31:¬ (3:Int)=1:=by decide
theorem nq32:¬ (3:Int)=2:=by decide
theorem nq34:¬ (3:Int)=4:=by decide
theorem nq41:¬ (4:Int)=1:=by decide
theorem nq42:¬ (4:Int)=2:=by decide
theorem nq43:¬ (4:Int)=3:=by decide
theorem nq51:¬ (5:Int)=1:=by decide
theorem nq52:¬ (5:Int)=2:=by decide
theorem nq53:¬ (5:Int)=3:=by decide
theorem nq54:¬ (5:Int)=4:=by decide
theorem nq61:¬ (6:Int)=1:=by decide
theorem nq63:¬ (6:Int)=3:=by decide
theorem nq64:¬ (6:Int)=4:=by decide
theorem nq65:¬ (6:Int)=5:=by decide
theorem app_le2 {α:Type} {b:Nat} {l es:List α} (h:l.length+es.length≤100000000) (hb:b≤1000):app b l es=some (l++es):=app_ok (by
 have:(l.length+es.length) * b≤100000000 * 1000:=Nat.mul_le_mul h hb
 unfold room; omega)
mutual
def bk:Qh→Qa
 | ⟨k,s,b,st,a,am,p,ks⟩=>⟨k,s,b,st,a,am,p,bks ks⟩
def bks:List Qh→List Qa
 | []=>[]
 | k::ks=>bk k::bks ks
end
theorem bk_f (c:Qh):bk c=⟨c.kind,c.shape,c.buffer,c.starts,c.axis,c.amount,c.perm,bks c.kids⟩:=by cases c; rw [bk]
theorem bk_shape (c:Qh):(bk c).shape=c.shape:=by rw [bk_f]
theorem etaC (c:Qh):(⟨c.kind,c.shape,c.buffer,c.starts,c.axis,c.amount,c.perm,c.kids⟩:Qh)=c:=by cases c; rfl
theorem etaR (c:Qa):(⟨c.kind,c.shape,c.buffer,c.starts,c.axis,c.amount,c.perm,c.kids⟩:Qa)=c:=by cases c; rfl
theorem etaK (c:Qh):(⟨(bk c).kind,c.shape,(bk c).buffer,(bk c).starts,(bk c).axis,(bk c).amount,(bk c).perm,(bk c).kids⟩:Qa)=bk c:=by rw [bk_f]
def bkS (s:Qp):Ql:=⟨s.name,s.value⟩
def zeroC:Qa:=⟨0,[],0,[],0,0,[],[]⟩
def reshC (s:List Int) (c:Qh):Qh:=⟨6,s,0,[],0,0,[],[c]⟩
def seenC (c:Qh) (s:List Int):Qh:=if c.shape=s then c else reshC s c
def winC (r:Qr) (c:Qh):Qh:=⟨2,r.shape,0,r.starts,0,0,[],[seenC c r.right]⟩
def turnC (k:Int) (r:Qr) (c:Qh):Qh:=if r.axis=-1 then c else ⟨k,r.shape,0,[],r.axis,r.amount,[],[c]⟩
def transC (r:Qr) (c:Qh):Qh:=⟨5,r.shape,0,[],0,0,r.perm,[c]⟩
theorem reshaped_ok (c:Qh) (s:List Int):XZ (c,s)=some (reshC s c):=by unfold XZ reshC; dsimp only; rw [etaC]
theorem seen_okC (c:Qh) (s:List Int) (hs:s.length≤1000):Qbe (c,s)=some (seenC c s):=by
 unfold Qbe seenC;simp only [sEqual_ok' c.shape s (Sm_le hs),Qb,reshaped_ok];by_cases h:c.shape=s <;> simp [h]
theorem around_ok (x y:Qa):Z1 (x,y)=some ⟨x.kind,x.shape,x.buffer,x.starts,x.axis,x.amount,x.perm,[y]⟩:=by unfold Z1; dsimp only; rw [etaR]
theorem rseen_okC (c:Qh) (s:List Int) (hc:c.shape.length≤1000):Zt (bk c,s)=some (bk (seenC c s)):=by
 unfold Zt seenC;simp only [bk_shape,Equal_ok c.shape s (Sm_le hc),Qb,around_ok];by_cases h:c.shape=s
 ·simp only [h,decide_true,if_true]; rw [bk_f c,h]
 ·simp only [h,zQ,j5,if_false]; rw [bk_f (reshC s c)]; rfl
theorem rseen_same (c:Qh) (hc:c.shape.length≤1000):Zt (bk c,c.shape)=some (bk c):=by rw [rseen_okC c c.shape hc,seenC,if_pos rfl]
theorem window_okC (r:Qr) (c:Qh) (hr:r.right.length≤1000):QaJ (r,c)=some (winC r c):=by
 unfold QaJ winC;simp only [seen_okC c r.right hr,Qb,etaC]
theorem turned_ok (k:Int) (r:Qr) (c:Qh):QaI (k,r,c)=some (turnC k r c):=by
 unfold QaI turnC;dsimp only;split
 ·rfl
 ·rw [etaC]
theorem transposed_ok (r:Qr) (c:Qh):XQ (r,c)=some (transC r c):=by unfold XQ transC; dsimp only; rw [etaC]
def monR (t:Qc) (c:Qh):Qh × Int :=
 if t.fn=3 then (turnC 3 (revR t.axis c.shape).1 c,(revR t.axis c.shape).2) else if t.fn=4 then (transC (flipR c.shape) c,0) else (reshC [cellsR c.shape] c,0)
theorem monad_okC (t:Qc) (c:Qh) (hc:checkR c.shape=0):Qct (t,c)=some (monR t c):=by
 unfold Qct monR;simp only [Reverse_ok t.axis hc,Flip_ok hc,Ravel_ok hc,Qb,turned_ok,transposed_ok,etaC,reshaped_ok];split
 ·rfl
 ·split <;> rfl
def meaR (t:Qc) (c:Qh) (v:List Int):Qh × Int :=
 if t.fn=1 then (winC (takeR v c.shape).1 c,(takeR v c.shape).2) else if t.fn=2 then (winC (dropR v c.shape).1 c,(dropR v c.shape).2)
 else if t.fn=3 then (turnC 4 (rotR v t.axis c.shape).1 c,(rotR v t.axis c.shape).2) else if t.fn=4 then (transC (transR v c.shape).1 c,(transR v c.shape).2)
 else (reshC (reshR v c.shape).1.shape c,(reshR v c.shape).2)
theorem okR_len {r:Qr} (h:okR r):r.left.length≤16∧r.right.length≤16∧r.shape.length≤16:=⟨(checkR_zero.1 h.1).2.1,(checkR_zero.1 h.2.1).2.1,(checkR_zero.1 h.2.2).2.1⟩
theorem monR_right {t:Qc} {c:Qh} (hc:checkR c.shape=0):checkR (monR t c).1.shape=0:=by
 unfold monR;split
 ·unfold turnC;split
  ·exact hc
  ·exact (okR_rev hc).2.2
 ·split
  ·exact (okR_flip hc).2.2
  ·exact cells_check hc
theorem meaR_right {t:Qc} {c:Qh} {v:List Int} (hc:checkR c.shape=0):checkR (meaR t c v).1.shape=0:=by
 unfold meaR;split
 ·exact (okR_take hc).2.2
 split
 ·exact (okR_drop hc).2.2
 split
 ·unfold turnC;split
  ·exact hc
  ·exact (okR_rot hc).2.2
 split
 ·exact (okR_trans hc).2.2
 ·exact (okR_resh hc).2.2
def oneOK (o:Option (Qa × Int)) (r:Qh × Int):Prop:=(r.2=0→o=some (bk r.1,0))∧(r.2≠0→∃ x,o=some (x,r.2))
theorem bk_turn {k:Int} {s:List Int} {ax am:Int} {c:Qh}:bk (⟨k,s,0,[],ax,am,[],[c]⟩:Qh)=⟨k,s,0,[],ax,am,[],[bk c]⟩:=by simp only [bk,bks]
theorem one_tail {c:Qh} {s sh st p:List Int} {k ax am e:Int} {y:Qh} (hc:c.shape.length≤1000)
  (hy:e=0→bk y=⟨k,sh,0,st,ax,am,p,[bk (seenC c s)]⟩) :
  oneOK (if e≠0 then some (zeroC,e) else Zt (bk c,s)>>=fun v=>Z1 ((⟨k,sh,0,st,ax,am,p,[]⟩:Qa),v)>>=fun w=>some (w,0)) (y,e):=by
 refine ⟨fun h=>?_,fun h=>⟨zeroC,if_pos h⟩⟩;simp only at h;rw [if_neg (fun h2=>h2 h),rseen_okC c s hc,Qb,around_ok,Qb,hy h]
theorem rone3 {l:List Qg} {t:Qc} {c:Qh} (h3:t.kind=3) (hf:t.fn=3∨t.fn=4∨t.fn=6) (hax:-1≤t.axis) (hc:checkR c.shape=0):oneOK (XG (l,t,bk c)) (monR t c):=by
 have hl:=(checkR_zero.1 hc).2.1;have hl':c.shape.length≤1000:=by omega
 unfold XG monR;rcases hf with hf|hf|hf
 ·have ea:=revR_axis hax (a:=c.shape)
  have hright:(revR t.axis c.shape).2=0→(rr (revR t.axis c.shape).1).right=c.shape:=by
   unfold revR;split
   ·exact fun _=>rfl
   ·split
    ·exact fun h=>by cases h
    ·exact fun _=>rfl
  simp only [h3,hf,nq34,nq31,show ((3:Int) == 2)=false from rfl,if_true,if_false,Qb,j5,bk_shape,rReverse_ok hax hl,etaK];generalize revR t.axis c.shape=q at ea hright;obtain ⟨r,e⟩:=q;have hra:(rr r).axis=r.axis:=rfl;simp only [hra] at hright ea ⊢;by_cases he:e=0
  ·subst he;have hr:=hright rfl;simp only [if_true,Qb,turnC];by_cases hx:r.axis=-1
   ·simp only [hx,show decide ((-1:Int) < 0)=true from rfl,if_true];exact ⟨fun _=>rfl,fun h=>absurd rfl h⟩
   ·have:¬ r.axis < 0:=by omega
    simp only [hx,zP this,j5,if_false,ne_eq,z3];rw [hr,rseen_same c hl',Qb,around_ok,Qb];exact ⟨fun _=>by rw [bk_turn]; rfl,fun h=>absurd rfl h⟩
  ·simp only [he,if_false,Qb,j5,ne_eq,z5,if_true];exact ⟨fun h=>absurd h he,fun _=>⟨_,rfl⟩⟩
 ·simp only [h3,hf,nq34,nq41,nq43,show ((4:Int) == 2)=false from rfl,if_true,if_false,Qb,j5,bk_shape,rFlip_ok hc,etaK,ne_eq,z3,around_ok];have hr:(rr (flipR c.shape)).right=c.shape:=rfl;rw [hr,rseen_same c hl',Qb];exact ⟨fun _=>by rw [transC]; simp only [bk,bks]; rfl,fun h=>absurd rfl h⟩
 ·simp only [h3,hf,nq34,nq61,nq63,nq64,nq65,show ((6:Int) == 2)=false from rfl,if_true,if_false,Qb,j5,bk_shape,rRavel_ok hl',etaK,ne_eq,z3,around_ok];have hr:(rr (ravR c.shape)).right=c.shape:=rfl;rw [hr,rseen_same c hl',Qb];exact ⟨fun _=>by rw [reshC]; simp only [bk,bks]; rfl,fun h=>absurd rfl h⟩
theorem seenC_same (c:Qh):seenC c c.shape=c:=if_pos rfl
instance (v:ByteArray) (N:List ByteArray):Decidable (v∈N):=decidable_of_iff (∃ y∈N,y=v) zX
def addN (N:List ByteArray) (x:Qc):List ByteArray:=if x.kind=2∧x.name ∉ N then N++[x.name] else N
theorem addN_two {x:Qc} (h:x.kind=2) (N:List ByteArray):addN N x=if x.name∈N then N else N++[x.name]:=by
 unfold addN;by_cases hx:x.name∈N
 ·rw [if_neg (fun h'=>h'.2 hx),if_pos hx]
 ·rw [if_pos ⟨h,hx⟩,if_neg hx]
def ixN:List ByteArray→ByteArray→Nat
 | [],_=>0
 | x::l,v=>if x=v then 0 else ixN l v+1
theorem ixN_lt:∀ {l:List ByteArray} {v:ByteArray},v∈l→ixN l v < l.length
 | x::l,v,h=>by
  rw [ixN];split
  ·simp
  ·rename_i hx;have:=ixN_lt ((List.mem_cons.1 h).resolve_left (fun h'=>hx h'.symm));simp only [z8]; omega
theorem ixN_app:∀ {l:List ByteArray} {v:ByteArray} (m:List ByteArray),v∈l→ixN (l++m) v=ixN l v
 | x::l,v,m,h=>by
  rw [List.cons_append,ixN,ixN];split
  ·rfl
  ·rename_i hx;rw [ixN_app m ((List.mem_cons.1 h).resolve_left (fun h'=>hx h'.symm))]
theorem ixN_snoc:∀ {l:List ByteArray} {v:ByteArray},v ∉ l→ixN (l++[v]) v=l.length
 | [],v,_=>by rw [jP,ixN,if_pos rfl]; rfl
 | x::l,v,h=>by
  rw [List.cons_append,ixN,if_neg (fun h'=>h (by rw [h']; exact jL ..)),ixN_snoc (fun h'=>h (jF _ h'))];rfl
structure InvS (Z:ByteArray→Prop) (N:List ByteArray) (S:List Qp):Prop where
 met:∀ s∈S,s.name≠ByteArray.empty→s.name∈N
 has:∀ v∈N,¬ Z v→∃ s∈S,s.name=v
 once:S.Pairwise (fun a b=>b.name≠ByteArray.empty→a.name≠b.name)
 order:S.Pairwise (fun a b=>a.name≠ByteArray.empty→b.name≠ByteArray.empty→¬ Z b.name→ixN N a.name < ixN N b.name)
theorem InvS.nil (Z:ByteArray→Prop):InvS Z [] []:=⟨fun _ h=>(nomatch h),fun _ h=>(nomatch h),List.Pairwise.nil,List.Pairwise.nil⟩
theorem InvS.grow {Z:ByteArray→Prop} {N:List ByteArray} {S:List Qp} (h:InvS Z N S) (v:ByteArray) (hv:Z v∨∃ s∈S,s.name=v):InvS Z (N++[v]) S:=by
 refine ⟨fun s hs hn=>zR _ (h.met s hs hn),fun w hw hz=>?_,h.once,?_⟩
 ·rcases List.mem_append.1 hw with hw|hw
  ·exact h.has w hw hz
  ·rw [List.mem_singleton.1 hw] at hz ⊢;exact hv.resolve_left hz
 ·refine List.Pairwise.imp_of_mem (fun {a b} ha hb hab na nb zb=>?_) h.order;rw [ixN_app _ (h.met a ha na),ixN_app _ (h.met b hb nb)];exact hab na nb zb
theorem InvS.lit {Z:ByteArray→Prop} {N:List ByteArray} {S:List Qp} (h:InvS Z N S) (a:Qo):InvS Z N (S++[⟨ByteArray.empty,a⟩]):=by
 refine ⟨fun s hs hn=>?_,fun w hw hz=>?_,?_,?_⟩
 ·rcases List.mem_append.1 hs with hs|hs
  ·exact h.met s hs hn
  ·rw [List.mem_singleton.1 hs] at hn; exact absurd rfl hn
 ·obtain ⟨s,hs,e⟩:=h.has w hw hz;exact ⟨s,zR _ hs,e⟩
 ·exact List.pairwise_append.2 ⟨h.once,List.pairwise_singleton _ _,fun x _ y hy hn=>by rw [List.mem_singleton.1 hy] at hn; exact absurd rfl hn⟩
 ·exact List.pairwise_append.2 ⟨h.order,List.pairwise_singleton _ _,fun x _ y hy _ hn=>by rw [List.mem_singleton.1 hy] at hn; exact absurd rfl hn⟩
theorem InvS.read {Z:ByteArray→Prop} {N:List ByteArray} {S:List Qp} (h:InvS Z N S) {x:Qc} (hk:x.kind=2) (hn:x.name≠ByteArray.empty) (a:Qo) :
  InvS Z (addN N x) (if ∃ s∈S,s.name=x.name then S else S++[⟨x.name,a⟩]):=by
 rw [addN_two hk];by_cases hS:∃ s∈S,s.name=x.name
 ·rw [if_pos hS];split
  ·exact h
  ·exact h.grow _ (Or.inr hS)
 ·rw [if_neg hS]
  have tail:∀ N',(∀ v∈N,v∈N')→(∀ v∈N',v∈N∨v=x.name)→x.name∈N'→(∀ v∈N,ixN N' v=ixN N v)→(¬ Z x.name→ixN N' x.name=N.length)→InvS Z N' (S++[⟨x.name,a⟩]):=fun N' i1 i2 i3 i4 i5=>by
   refine ⟨fun s hs hn=>?_,fun w hw hz=>?_,?_,?_⟩
   ·rcases List.mem_append.1 hs with hs|hs
    ·exact i1 _ (h.met s hs hn)
    ·rw [List.mem_singleton.1 hs]; exact i3
   ·rcases i2 w hw with hw|hw
    ·obtain ⟨s,hs,e⟩:=h.has w hw hz;exact ⟨s,zR _ hs,e⟩
    ·exact ⟨_,zS _ (List.mem_singleton.2 rfl),hw.symm⟩
   ·exact List.pairwise_append.2 ⟨h.once,List.pairwise_singleton _ _,fun y hy z hz _ e=>hS ⟨y,hy,by rw [List.mem_singleton.1 hz] at e; exact e⟩⟩
   ·refine List.pairwise_append.2 ⟨List.Pairwise.imp_of_mem (fun {p q} hp hq hpq np nq zq=>?_) h.order,List.pairwise_singleton _ _,fun y hy z hz ny _ zz=>?_⟩
    ·rw [i4 _ (h.met p hp np),i4 _ (h.met q hq nq)];exact hpq np nq zq
    ·rw [List.mem_singleton.1 hz] at zz ⊢;rw [i4 _ (h.met y hy ny),i5 zz];exact ixN_lt (h.met y hy ny)
  by_cases hN:x.name∈N
  ·rw [if_pos hN];exact tail N (fun _ h=>h) (fun _ h=>Or.inl h) hN (fun _ _=>rfl) (fun hz=>absurd (h.has _ hN hz) hS)
  ·rw [if_neg hN];exact tail _ (fun _ h=>zR _ h) (fun v hv=>(List.mem_append.1 hv).imp_right (fun h=>List.mem_singleton.1 h)) (zS _ (List.mem_singleton.2 rfl)) (fun v hv=>ixN_app _ hv) (fun _=>ixN_snoc hN)
theorem InvS.measure {Z:ByteArray→Prop} {N:List ByteArray} {S:List Qp} (h:InvS Z N S) {x:Qc} (hz:x.kind=2→Z x.name):InvS Z (addN N x) S:=by
 unfold addN;split
 ·rename_i hx;exact h.grow _ (Or.inl (hz hx.1))
 ·exact h
theorem sidx_dec {s:ByteArray} {i:Nat} {v:Int} (hv:sidx s (i:Int)=some v) (ha:v < 128):Utf8.decode s i=(v.toNat,1)∧0≤v:=by
 unfold sidx at hv;rw [if_pos zV] at hv;simp only [Int.toNat_natCast,j0] at hv;obtain ⟨b,hb,rfl⟩:=hv;obtain ⟨h,rfl⟩:=Array.getElem?_eq_some_iff.1 hb;exact ⟨decode_ascii s i h (by show (s.data[i]).toNat < 128; omega),by omega⟩
theorem letter_lt {v:Int} (h:Xh v=some true):v < 128:=by
 unfold Xh at h;simp only [ite_som,Qb,j8] at h;by_cases h1:v < 128
 ·exact h1
 ·have e1:¬ v≤90:=by omega
  have e2:¬ v≤122:=by omega
  have e3:¬ v=95:=by omega
  simp [e1,e2,e3] at h
theorem digit_lt {v:Int} (h:Jd v=some true):v < 128:=by
 unfold Jd at h;simp only [ite_som,j8] at h;by_cases h1:v < 128
 ·exact h1
 ·have e1:¬ v≤57:=by omega
  simp [e1] at h
theorem lex_letter (v:Int):Qbw v=Xh v:=rfl
theorem lex_digit (v:Int):Qem v=Jd v:=rfl
theorem span_end (s:ByteArray) (hs:s.size≤1000000000000000000):∀ m i:Nat,i+m=s.size→ZZ (s,(i:Int))=some (s.size:Int)→Zv (s,i)=some (.inr s.size)
 | 0,i,h,_=>by
  rw [Zv]
  have:¬ i < s.size:=by omega
  simp only [this,if_false];rw [zN] at h; rw [h]
 | m+1,i,h,he=>by
  have h1:((i:Int) < (s.size:Int)):=by omega
  obtain ⟨v,e⟩:=sidx_ok (b:=s) (i:=i) zV;obtain ⟨b,eb⟩:=letter_tot v;obtain ⟨c,ec⟩:=digit_tot v;have w:W ((i:Int)+1)=((i+1:Nat):Int):=W_succ zV;rw [ZZ] at he;simp only [h1,if_true,e,eb,ec,Qb,w] at he
  have hin:Qdk v=some true∧v < 128∧ZZ (s,((i+1:Nat):Int))=some (s.size:Int):=by
   unfold Qdk;simp only [lex_letter,lex_digit,eb,ec,Qb];cases b with
   | true=>exact ⟨rfl,letter_lt eb,he⟩
   | false=>cases c with
    | true=>exact ⟨rfl,digit_lt ec,he⟩
    | false =>
     have:(some (i:Int))=some (s.size:Int):=he
     rw [j8] at this;omega
  obtain ⟨q1,q2,q3⟩:=hin;obtain ⟨hd,h0⟩:=sidx_dec e q2;rw [Zv];have hv:((v.toNat:Nat):Int)=v:=by omega
  simp only [show i < s.size by omega,if_true,hd,hv,q1,Qb,jN,if_false];exact span_end s hs m (i+1) zV q3
theorem lexName_ok {s:ByteArray} (hs:s.size≤1000000000000000000) (h:YT s=some true):QdX s=some true∧s≠ByteArray.empty:=by
 have hp:(s.size:Int) > 0:=by
  by_cases hp:(s.size:Int) > 0
  ·exact hp
  ·unfold YT at h; simp only [hp,if_false,Qb,j5] at h; cases h
 obtain ⟨v,e⟩:=sidx_ok (b:=s) (i:=0) zV;obtain ⟨b,eb⟩:=letter_tot v;have e':=e;simp only [jI] at e';unfold YT Qdm at h;simp only [hp,if_true,e',eb,Qb] at h;cases b with
 | false=>simp at h
 | true =>
  simp only [if_true] at h;cases hE:ZZ (s,0) with
  | none=>rw [hE] at h; cases h
  | some r =>
   rw [hE] at h;simp only [Qb,j8,beq_iff_eq] at h;subst h;have hsp:=span_end s hs s.size 0 zV (by simpa using hE);obtain ⟨hd,h0⟩:=sidx_dec e (letter_lt eb);have hv:((v.toNat:Nat):Int)=v:=by omega
   have hl:Qbw v=some true:=eb;constructor
   ·unfold QdX Qe8 JG Qc6;simp only [show 0 < s.size by omega,if_true,hd,hv,hl,Qb,jN,if_false,hsp,hp,beq_self_eq_true]
   ·intro h0; rw [h0] at hp; exact absurd hp zZ
theorem ite_e {c:Prop} [Decidable c] {α:Type} {a b:α} {P:α→Prop} (ha:c→P a) (hb:¬ c→P b):P (if c then a else b):=by
 split
 ·exact ha ‹_›
 ·exact hb ‹_›
theorem check5 (a:Qo) (h:a.shape.length≤1000):∃ e,QaL a=some e∧(e=0→checkR a.shape=0∧(a.data.length:Int)=prodI a.shape):=by
 unfold QaL;dsimp only;simp only [Check_ok a.shape (Sm_le h),Cells_ok a.shape (Sm_le h),Qb,ite_som];by_cases hc:checkR a.shape=0
 ·have hcc:cellsR a.shape=prodI a.shape:=by rw [cellsR,if_pos hc]
  simp only [hc,if_true,hcc];by_cases hd:(a.data.length:Int)=prodI a.shape
  ·exact ⟨_,rfl,fun _=>⟨trivial,hd⟩⟩
  ·have:((a.data.length:Int) != prodI a.shape)=true:=by simp [hd]
   simp only [this,if_true];exact ⟨_,rfl,fun q=>absurd q zZ⟩
 ·simp only [hc,if_false,j5];exact ⟨_,rfl,fun q=>absurd q hc⟩
theorem inl_R {P:Prop}:∃ r,(some (Sum.inl ()):Option (Unit ⊕ Unit))=some r∧(r=.inr ()→P):=⟨_,rfl,fun h=>by cases h⟩
def bnd1 (b:Qg):Prop:=b.value.shape.length≤100∧b.value.data.length≤300∧b.name.size≤100
theorem few_L1 (l:List Qg) (hl:l.length≤1000):∀ (s p:List Qg),l=p++s→∃ r,XE (l,300,(p.length:Int))=some r∧(r=.inr ()→∀ b∈s,bnd1 b)
 | [],p,e=>by
  rw [XE]
  have:¬ ((p.length:Int) < (l.length:Int)):=by rw [e]; simp
  rw [if_neg this];exact ⟨_,rfl,fun _ b hb=>by cases hb⟩
 | x::s,p,e=>by
  rw [XE];have h1:((p.length:Int) < (l.length:Int)):=by rw [e]; exact QN
  have hi:idx l (p.length:Int)=some x:=by rw [e]; exact Qz
  have hw:W ((p.length:Int)+1)=((p++[x]).length:Int):=by
   have:=hl; rw [e] at this; exact mid_W (Sm_le this)
  obtain ⟨r,er,hr⟩:=few_L1 l hl s (p++[x]) (by rw [e]; simp);simp only [h1,if_true,hi,Qb,Qen,ite_som,hw];by_cases hq:bnd1 x
  ·obtain ⟨q1,q2,q3⟩:=hq;refine ite_e (P:=fun (o:Option (Unit ⊕ Unit))=>∃ r,o=some r∧(r=.inr ()→∀ b∈x::s,bnd1 b)) (fun _=>inl_R) (fun _=>⟨r,er,fun h b hb=>?_⟩);rcases List.mem_cons.1 hb with rfl|hb
   ·exact ⟨q1,q2,q3⟩
   ·exact hr h b hb
  ·have hA:(if (if (x.value.shape.length:Int)≤100 then decide ((x.value.data.length:Int)≤300) else false)=false then true else decide ((x.name.size:Int) > 100))=true:=by
    by_cases a1:(x.value.shape.length:Int)≤100
    ·rw [if_pos a1];by_cases a2:(x.value.data.length:Int)≤300
     ·rw [decide_eq_true a2,if_neg zZ,z4];by_cases a3:(x.name.size:Int) > 100
      ·exact a3
      ·exact absurd ⟨by omega,by omega,by omega⟩ hq
     ·rw [zP a2,if_pos rfl]
    ·rw [if_neg a1,if_pos rfl]
   rw [if_pos hA];exact ⟨_,rfl,fun h=>by cases h⟩
theorem Few_is (l:List Qg):∃ b,Qdo (l,300)=some b∧(b=true→l.length≤12∧∀ b∈l,bnd1 b):=by
 unfold Qdo;by_cases h12:(l.length:Int) > 12
 ·exact ⟨false,by simp [h12],fun h=>by cases h⟩
 ·obtain ⟨r,er,hr⟩:=few_L1 l zV l [] rfl;simp only [jK,jI] at er;simp only [h12,if_false,er,Qb];cases r with
  | inl u=>exact ⟨false,rfl,fun h=>by cases h⟩
  | inr u=>exact ⟨true,rfl,fun _=>⟨by omega,hr rfl⟩⟩
theorem right_L2 (l:List Qg) (k:Nat) (hk:k < l.length) (hl:l.length≤1000):∀ m j:Nat,j+m=k→∃ r,Y1 ((k:Int),l,(j:Int))=some r∧(r=.inr ()→∀ i,j≤i→(h:i < k)→l[i].name≠l[k].name)
 | 0,j,h=>by
  rw [Y1]
  have:¬ ((j:Int) < (k:Int)):=by omega
  rw [if_neg this];exact ⟨_,rfl,fun _ i h1 h2=>by omega⟩
 | m+1,j,h=>by
  rw [Y1];have h1:((j:Int) < (k:Int)):=by omega
  have hi:idx l (j:Int)=some l[j]:=idx_ok zV;have hi2:idx l (k:Int)=some l[k]:=idx_ok hk;have w:W ((j:Int)+1)=((j+1:Nat):Int):=W_succ zV;simp only [h1,if_true,hi,hi2,Qb,w];obtain ⟨r,er,hr⟩:=right_L2 l k hk hl m (j+1) zV;refine ite_e (P:=fun (o:Option (Unit ⊕ Unit))=>∃ r,o=some r∧(r=.inr ()→∀ i,j≤i→(h:i < k)→l[i].name≠l[k].name)) (fun _=>⟨_,rfl,fun h=>by cases h⟩) (fun hne=>⟨r,er,fun hr' i i1 i2=>?_⟩);by_cases hij:i=j
  ·subst hij; exact hne
  ·exact hr hr' i zV i2
def bnd2 (b:Qg):Prop:=checkR b.value.shape=0∧(b.value.data.length:Int)=prodI b.value.shape∧YT b.name=some true
theorem right_L1 (l:List Qg) (hl:l.length≤1000) (hb:∀ b∈l,bnd1 b):∀ (s p:List Qg),l=p++s→∃ r,Y0 (l,(p.length:Int))=some r∧(r=.inr ()→∀ k,p.length≤k→(h:k < l.length)→bnd2 l[k]∧∀ i (hi:i < k),l[i].name≠l[k].name)
 | [],p,e=>by
  rw [Y0]
  have:¬ ((p.length:Int) < (l.length:Int)):=by rw [e]; simp
  rw [if_neg this];exact ⟨_,rfl,fun _ k h1 h2=>by omega⟩
 | x::s,p,e=>by
  rw [Y0];have h1:((p.length:Int) < (l.length:Int)):=by rw [e]; exact QN
  have hi:idx l (p.length:Int)=some x:=by rw [e]; exact Qz
  have hw:W ((p.length:Int)+1)=((p++[x]).length:Int):=by
   have:=hl; rw [e] at this; exact mid_W (Sm_le this)
  obtain ⟨r,er,hr⟩:=right_L1 l hl hb s (p++[x]) (by rw [e]; simp);obtain ⟨q1,q2,q3⟩:=hb x (by rw [e]; simp);obtain ⟨nb,en⟩:=name_tot x.name zV;obtain ⟨ce,ec,hce⟩:=check5 x.value zV;have hpl:p.length < l.length:=by omega
  have hx:l[p.length]=x:=by
   have:=idx_ok hpl; rw [hi] at this; exact (jR this).symm
  obtain ⟨r2,e2,hr2⟩:=right_L2 l p.length hpl hl p.length 0 zV;simp only [jI] at e2;simp only [h1,if_true,hi,Qb,en,ec,e2,ite_som,hw];refine ite_e (P:=fun (o:Option (Unit ⊕ Unit))=>∃ r,o=some r∧(r=.inr ()→∀ k,p.length≤k→(h:k < l.length)→bnd2 l[k]∧∀ i (hi:i < k),l[i].name≠l[k].name)) (fun _=>inl_R) (fun hA=>?_)
  have hc0:ce=0∧nb=true:=by
   cases nb with
   | false=>exact absurd rfl hA
   | true =>
    by_cases q:ce=0
    ·exact ⟨q,rfl⟩
    ·exfalso; apply hA; simp [q]
  obtain ⟨hc0,rfl⟩:=hc0;cases r2 with
  | inl u=>exact ⟨_,rfl,fun h=>by cases h⟩
  | inr u =>
   refine ⟨r,er,fun h k k1 k2=>?_⟩;by_cases hk:k=p.length
   ·subst hk;exact ⟨by rw [hx]; exact ⟨(hce hc0).1,(hce hc0).2,en⟩,fun i hi=>hr2 rfl i (zH _) hi⟩
   ·exact hr h k zW k2
def rightL (l:List Qg):Prop:=(∀ b∈l,bnd2 b)∧l.Pairwise (fun a b=>a.name≠b.name)
theorem Right_is (l:List Qg) (hl:l.length≤1000) (hb:∀ b∈l,bnd1 b):∃ b,QbR l=some b∧(b=true→rightL l):=by
 obtain ⟨r,er,hr⟩:=right_L1 l hl hb l [] rfl;simp only [jK,jI] at er;unfold QbR;simp only [er,Qb];cases r with
 | inl u=>exact ⟨false,rfl,fun h=>by cases h⟩
 | inr u =>
  refine ⟨true,rfl,fun _=>⟨fun b hb=>?_,List.pairwise_iff_getElem.2 fun i j h1 h2 hij=>(hr rfl j (zH _) h2).2 i hij⟩⟩;obtain ⟨k,hk,rfl⟩:=List.mem_iff_getElem.1 hb;exact (hr rfl k (zH _) hk).1
def smOf:List Qg→Nat→List (ByteArray × Int)
 | [],_=>[]
 | b::l,k=>(b.name,(k:Int))::smOf l (k+1)
theorem smOf_none {nm:ByteArray}:∀ {l:List Qg} (k:Nat),(∀ b∈l,b.name≠nm)→getS (smOf l k) nm=none
 | [],_,_=>rfl
 | b::l,k,h=>by
  rw [smOf,getS,if_neg (fun e=>h b (jL ..) e.symm)];exact smOf_none (k+1) (fun x hx=>h x (jF _ hx))
theorem smOf_get {nm:ByteArray}:∀ (l:List Qg) (k:Nat),getS (smOf l k) nm=none∧(∀ b∈l,b.name≠nm)∨∃ i,∃ h:i < l.length,getS (smOf l k) nm=some ((k+i:Nat):Int)∧l[i].name=nm
 | [],_=>Or.inl ⟨rfl,fun _ h=>by cases h⟩
 | b::l,k=>by
  by_cases e:nm=b.name
  ·exact Or.inr ⟨0,by simp,by rw [smOf,getS,if_pos e]; rfl,e.symm⟩
  ·rcases smOf_get l (k+1) with ⟨h1,h2⟩|⟨i,h,h1,h2⟩
   ·refine Or.inl ⟨by rw [smOf,getS,if_neg e]; exact h1,fun x hx=>?_⟩;rcases List.mem_cons.1 hx with rfl|hx
    ·exact fun h=>e h.symm
    ·exact h2 x hx
   ·refine Or.inr ⟨i+1,by simp only [z8]; omega,?_,by simpa using h2⟩;rw [smOf,getS,if_neg e,h1];congr 2; omega
theorem smOf_set {x:Qg}:∀ (l:List Qg) (k:Nat),(∀ b∈l,b.name≠x.name)→setS (smOf l k) x.name ((k+l.length:Nat):Int)=smOf (l++[x]) k
 | [],k,_=>rfl
 | b::l,k,h=>by
  have ih:=smOf_set l (k+1) (fun y hy=>h y (jF _ hy));rw [List.cons_append,smOf,smOf,setS,if_neg (fun e=>h b (jL ..) e.symm),← ih];simp only [z8];congr 3; omega
theorem copied_is (l:List Int) (hl:l.length≤1000):Yk l=some l∧YX l=some l:=by
 have hcc:cpM (List.replicate l.length (0:Int)) l=l:=by unfold cpM; simp
 have hm:makeM 8 (l.length:Int) (0:Int)=some (List.replicate l.length 0):=by
  have hr:(1000:Nat) * 8≤room:=by decide +kernel
  have:((l.length:Int) * 8≤(room:Int)):=by omega
  simp [makeM,this]; omega
 have hg:l.length=(List.replicate l.length (0:Int)).length:=by simp
 constructor
 ·unfold Yk;simp only [hm,Qb,hcc];rw [QS,if_pos hg]; rfl
 ·unfold YX;simp only [hm,Qb,hcc];rw [QS,if_pos hg]; rfl
theorem Copy_is {a:Qo} (h1:a.shape.length≤1000) (h2:a.data.length≤1000):X4 a=some a:=by
 unfold X4;simp only [(copied_is _ h1).1,(copied_is _ h2).2,Qb]
theorem aCheck_is {a:Qo} (h:checkR a.shape=0) (hd:(a.data.length:Int)=prodI a.shape):Ja a=some 0:=by
 have hs:a.shape.length≤1000:=by have:=(checkR_zero.1 h).2.1; omega
 have hc:cellsR a.shape=prodI a.shape:=by rw [cellsR,if_pos h]
 unfold Ja;simp only [shapeCheck_ok _ (Sm_le hs),shapeCells_ok _ (Sm_le hs),h,hc,hd,Qb,ne_eq,z3,if_false]
def okL (l:List Qg):Prop:=l.length≤12∧(∀ b∈l,bnd1 b)∧rightL l
theorem envRight_is {b:Qg} (h1:bnd1 b) (h2:bnd2 b):Qdj b=some true:=by
 unfold Qdj;have e:=(lexName_ok (s:=b.name) (by have:=h1.2.2; omega) h2.2.2).1;have e2:Ja (⟨b.value.shape,b.value.data⟩:Qo)=some 0:=aCheck_is (a:=b.value) h2.1 h2.2.1;simp only [e,Qb,if_true,e2];rfl
theorem envCopied_is {b:Qg} (h1:bnd1 b):Qcu b=some b:=by
 unfold Qcu;have e2:X4 (⟨b.value.shape,b.value.data⟩:Qo)=some b.value:=Copy_is (a:=b.value) (by have:=h1.1; show _≤1000; omega) (by have:=h1.2.1; show _≤1000; omega);simp only [e2,Qb]
theorem New_L1 {l:List Qg} (hl:okL l):∀ (s p:List Qg),l=p++s→Yl (l,smOf p 0,p,(p.length:Int))=some (.inr (smOf l 0,l))
 | [],p,h=>by
  rw [Yl]
  have:¬ ((p.length:Int) < (l.length:Int)):=by rw [h]; simp
  rw [if_neg this];rw [jT] at h; rw [h]
 | x::s,p,h=>by
  have ih:=New_L1 hl s (p++[x]) (by rw [h]; simp);rw [Yl];have h1:((p.length:Int) < (l.length:Int)):=by rw [h]; exact QN
  have hi:idx l (p.length:Int)=some x:=by rw [h]; exact Qz
  have h12:=hl.1;have hpl:p.length+1≤12:=by rw [h] at h12; simp at h12; omega
  have hw:W ((p.length:Int)+1)=((p++[x]).length:Int):=by
   have:l.length≤1000:=by omega
   rw [h] at this; exact mid_W (Sm_le this)
  have hx:x∈l:=by rw [h]; simp
  have hp:∀ y∈p,y.name≠x.name:=by
   have:=hl.2.2.2; rw [h] at this;intro y hy;exact (List.pairwise_append.1 this).2.2 y hy x (jL ..)
  have hlk:lookS (smOf p 0) x.name=(0,false):=by rw [lookS,smOf_none 0 hp]; rfl
  have hst:setS (smOf p 0) x.name (p.length:Int)=smOf (p++[x]) 0:=by
   have:=smOf_set p 0 hp; rwa [zO] at this
  simp only [h1,if_true,hi,Qb,X6,hlk,j5,if_false,envRight_is (hl.2.1 x hx) (hl.2.2.1 x hx),Bool.not_true,envCopied_is (hl.2.1 x hx),
   app_le2 (b:=64) (l:=p) (es:=[x]) zW zV,hst,hw,ih]
theorem Make_is {l:List Qg} (hl:okL l):Jn l=some (.inr (smOf l 0,l,l)):=by
 have h:=New_L1 hl l [] rfl;simp only [jK,jI] at h;have h0:smOf [] 0=[]:=rfl;rw [h0] at h;unfold Jn Qb1;simp only [h,Qb]
theorem Get_is {l:List Qg} (hl:okL l) (nm:ByteArray):Zw (nm,smOf l 0,l,l)=some ([],[],false)∨∃ b∈l,b.name=nm∧Zw (nm,smOf l 0,l,l)=some (b.value.shape,b.value.data,true):=by
 unfold Zw Xt Xd;rcases smOf_get (nm:=nm) l 0 with ⟨h,_⟩|⟨i,hi,h,hn⟩
 ·have e:lookS (smOf l 0) nm=(0,false):=by rw [lookS,h]; rfl
  simp only [e,Qb,if_true];exact Or.inl trivial
 ·rw [zO] at h;have e:lookS (smOf l 0) nm=((i:Int),true):=by rw [lookS,h]; rfl
  have hm:l[i]∈l:=z0 hi;have h1:=hl.2.1 _ hm;have ec:X4 (⟨l[i].value.shape,l[i].value.data⟩:Qo)=some l[i].value:=Copy_is (a:=l[i].value) (by have:=h1.1; show _≤1000; omega) (by have:=h1.2.1; show _≤1000; omega);refine Or.inr ⟨l[i],hm,hn,?_⟩;simp only [e,Qb,jN,if_false,idx_ok hi,ec]
def litA (v:List Int):Qo:=⟨if v.length=1 then [] else [(v.length:Int)],v⟩
theorem litA_right {v:List Int} (hv:v.length≤1000):checkR (litA v).shape=0∧((litA v).data.length:Int)=prodI (litA v).shape:=by
 have h:checkR (litA v).shape=0:=by
  unfold litA;split
  ·rfl
  ·refine checkR_zero.2 ⟨fun x hx=>?_,by simp,?_⟩
   ·simp only [List.mem_singleton] at hx; subst hx; omega
   ·show prodI [(v.length:Int)]≤_; simp [prodI]; omega
 refine ⟨h,?_⟩;unfold litA;split
 ·rename_i h1; show (v.length:Int)=_; rw [h1]; rfl
 ·simp [prodI]
end Go.Proofs.Tryz
