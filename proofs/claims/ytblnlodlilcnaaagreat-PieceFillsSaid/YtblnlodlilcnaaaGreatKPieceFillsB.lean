/-
 Models of functions, their walks, and plain laws.
-/
import Derived.Test.YtblnlodlilcnaaaGreatPmLaw
import Derived.Test.YtblnlodlilcnaaaGreatKPieceFillsA
namespace Go.Proofs.Tryz
open Go Go.Pm
set_option linter.unusedVariables false
set_option maxHeartbeats 2000000
set_option maxRecDepth 2000
def Zo (x:(Qw × Int × Int)):Option (Unit ⊕ Unit) :=
 match x with
 | (p0,p1,v201) =>
 if v201 < (p0.strides.length:Int) then
  idx p0.strides v201>>=fun v601 =>
  Z2 (v601,p1)>>=fun v602 =>
  if v602=false then
   some (Sum.inl ())
  else
  Zo (p0,p1,(W (v201+1)))
 else
 some (Sum.inr ())
 partial_fixpoint
theorem XO:∀ x r,Zo x=some r→match x with|(p0,p1,v201)=>LQ f67 67 [1,0,1,0,0] 1 ⟨kp 49 [(1,(Qd p1)),(2,(.ptr 0 0)),(5,(Qd v201))],[(Qx p0.kind p0.buffer p0.base p0.strides p0.start p0.step p0.mod)]⟩ (P2 .ret (fun _ d=>⟨sl d 49 [(4,(Qh false))],[(Qx p0.kind p0.buffer p0.base p0.strides p0.start p0.step p0.mod)]⟩) (.exit 0) (fun _ d=>⟨sl d 49 [(1,(Qd p1)),(2,(.ptr 0 0))],[(Qx p0.kind p0.buffer p0.base p0.strides p0.start p0.step p0.mod)]⟩) r):=by
 refine Zo.partial_correctness _ (fun Zo XO x r hm=>?_)
 obtain ⟨p0,p1,v201⟩:=x
 exact lp (Qf (gr 3 (QP Qi p0.strides (re 1 (ri hm (fun hm=>Qn (Qf (Qm (gr 3 (QY 1 Qi hm fun v601 hm=>Qb 2 (bi hm fun v602 hx hm=>cp (Xr hx) (re 1 (rin hm (fun hm=>ge 1 (Qk zf)) (fun hm=>Qn (R_G (re 3 (XO _ _ hm _ kr)))))))))))) (fun hm=>QI zf))))))
def YZ (x:(Qw × Int)):Option Bool :=
 match x with
 | (p0,p1) =>
 (
 Zo (p0,p1,0)>>=fun out =>
 match out with
 | .inl _ =>
  some false
 | .inr (_) =>
  Z2 (p0.buffer,p1)>>=fun v603 =>
  (if v603=true then
   Z2 (p0.base,p1)>>=fun v605 =>
   some v605
  else
  some false
  )>>=fun (v604:Bool) =>
  (if v604=true then
   Z2 (p0.start,p1)>>=fun v607 =>
   some v607
  else
  some false
  )>>=fun (v606:Bool) =>
  (if v606=true then
   Z2 (p0.step,p1)>>=fun v609 =>
   some v609
  else
  some false
  )>>=fun (v608:Bool) =>
  if v608=true then
   Z2 (p0.mod,p1)>>=fun v610 =>
   some v610
  else
  some false
 )
theorem Qbu {p0 p1 r0} (hm:YZ (p0,p1)=some r0):FQ 67 [(Qw.toD p0),(Qi p1)] (Qh r0):=by
 unfold YZ at hm
 exact fp (fn:=f67) rfl (ge 2 (Qf (ge 1 (Qm (ru2 hm (XO _) (fun _ d hm=>zf) fun _ d hm=>Qf (Qa4 (Qb 3 (bi hm fun v603 hx hm=>cp (Xr hx) (Qb 1 (bi hm fun v604 hs hm=>Zk (j:=10) (fun d=>⟨sl d 49 [(1,(Qd p1)),(2,(.ptr 0 0)),(30,(Qh v604))],[(Qx p0.kind p0.buffer p0.base p0.strides p0.start p0.step p0.mod)]⟩) (fun d=>Qb 1 (bi hm fun v606 hs hm=>Zk (j:=16) (fun d=>⟨sl d 49 [(1,(Qd p1)),(2,(.ptr 0 0)),(36,(Qh v606))],[(Qx p0.kind p0.buffer p0.base p0.strides p0.start p0.step p0.mod)]⟩) (fun d=>Qb 1 (bi hm fun v608 hs hm=>Zk (j:=22) (fun d=>⟨sl d 49 [(1,(Qd p1)),(2,(.ptr 0 0)),(42,(Qh v608))],[(Qx p0.kind p0.buffer p0.base p0.strides p0.start p0.step p0.mod)]⟩) (fun d=>Qb 1 (gsb 43 hm (fun hm=>Qb 3 (bi hm fun v610 hx hm=>cp (Xr hx) (re 2 ⟨kr,Qk zf⟩))) (fun hm=>re 6 ⟨kr,Qk zf⟩))) (fun hJ=>gsb 37 hs (fun hm=>Qb 3 (bi hm fun v609 hx hm=>cp (Xr hx) (Qb 1 zf))) (fun hm=>Qb 5 zf)))) (fun hJ=>gsb 31 hs (fun hm=>Qb 3 (bi hm fun v607 hx hm=>cp (Xr hx) (Qb 1 zf))) (fun hm=>Qb 5 zf)))) (fun hJ=>gsb 25 hs (fun hm=>Qb 3 (bi hm fun v605 hx hm=>cp (Xr hx) (Qb 1 zf))) (fun hm=>Qb 5 zf))))))))))))
def Yj (x:(Qw × Int)):Option Bool :=
 match x with
 | (p0,p1) =>
 ((if p1 < 0 then
  some true
 else
 some (decide (p1 > 16))
 )>>=fun (v2:Bool) =>
 (if v2=true then
  some true
 else
 YZ ((⟨p0.kind,p0.buffer,p0.base,p0.strides,p0.start,p0.step,p0.mod⟩:Qw),1099511627776)>>=fun v4 =>
 some (!v4)
 )>>=fun (v3:Bool) =>
 if v3=true then
  some true
 else
 some (decide (p0.buffer < 0))
 )>>=fun (v1:Bool) =>
 if v1=true then
  some false
 else
 if p0.kind=1 then
  (if p0.buffer=0 then
   some (p0.base == 0)
  else
  some false
  )>>=fun (v5:Bool) =>
  (if v5=true then
   some ((p0.strides.length:Int) == 0)
  else
  some false
  )>>=fun (v6:Bool) =>
  (if v6=true then
   some (p0.start == 0)
  else
  some false
  )>>=fun (v7:Bool) =>
  (if v7=true then
   some (p0.step == 0)
  else
  some false
  )>>=fun (v8:Bool) =>
  if v8=true then
   some (p0.mod == 0)
  else
  some false
 else
 if p0.kind=2 then
  (if (p0.strides.length:Int)=p1 then
   some (p0.start == 0)
  else
  some false
  )>>=fun (v9:Bool) =>
  (if v9=true then
   some (p0.step == 0)
  else
  some false
  )>>=fun (v10:Bool) =>
  if v10=true then
   some (p0.mod == 0)
  else
  some false
 else
 if p0.kind=3 then
  if (p0.strides.length:Int)=p1 then
   some (decide (p0.mod > 0))
  else
  some false
 else
 some false
theorem QbN {p0 p1 r0} (hm:Yj (p0,p1)=some r0):FQ 36 [(Qw.toD p0),(Qi p1)] (Qh r0):=by
 unfold Yj at hm
 exact fp (fn:=f36) rfl (ge 2 (Qf (Qf (bi hm fun v1 hs hm=>Xt (fun d=>⟨sl d 88 [(1,(Qd p1)),(2,(.ptr 0 0)),(20,(Qh v1))],[(Qx p0.kind p0.buffer p0.base p0.strides p0.start p0.step p0.mod)]⟩) (have hm:=hs;Qa4 (Qb 3 (bi hm fun v2 hs hm=>Zk (j:=6) (fun d=>⟨sl d 88 [(1,(Qd p1)),(2,(.ptr 0 0)),(10,(Qh v2))],[(Qx p0.kind p0.buffer p0.base p0.strides p0.start p0.step p0.mod)]⟩) (fun d=>Qb 1 (bi hm fun v3 hs hm=>Zk (j:=11) (fun d=>⟨sl d 88 [(1,(Qd p1)),(2,(.ptr 0 0)),(15,(Qh v3))],[(Qx p0.kind p0.buffer p0.base p0.strides p0.start p0.step p0.mod)]⟩) (fun d=>Qb 1 (gsb 16 hm (fun hm=>re 4 ⟨kr,zf⟩) (fun hm=>re 4 ⟨kr,zf⟩))) (fun hJ=>gsb 11 hs (fun hm=>Qb 4 zf) (fun hm=>Qb 1 (bi hm fun v4 hx hm=>cp (Qbu hx) (Qb 2 zf)))))) (fun hJ=>gs 7 hs (fun hm=>Qb 3 zf) (fun hm=>Qb 3 zf))))) (fun d=>rib hm (fun hm=>ge 1 (Qk zf)) (fun hm=>Qn (Qf (ge 2 (Qm (ge 2 (riq hm (fun hm=>Qf (Qa4 (Qb 4 (bi hm fun v5 hs hm=>Zk (j:=8) (fun d=>⟨sl d 88 [(2,(.ptr 0 0)),(32,(Qh v5))],[(Qx p0.kind p0.buffer p0.base p0.strides p0.start p0.step p0.mod)]⟩) (fun d=>Qb 1 (bi hm fun v6 hs hm=>Zk (j:=14) (fun d=>⟨sl d 88 [(2,(.ptr 0 0)),(38,(Qh v6))],[(Qx p0.kind p0.buffer p0.base p0.strides p0.start p0.step p0.mod)]⟩) (fun d=>Qb 1 (bi hm fun v7 hs hm=>Zk (j:=19) (fun d=>⟨sl d 88 [(2,(.ptr 0 0)),(43,(Qh v7))],[(Qx p0.kind p0.buffer p0.base p0.strides p0.start p0.step p0.mod)]⟩) (fun d=>Qb 1 (bi hm fun v8 hs hm=>Zk (j:=24) (fun d=>⟨sl d 88 [(2,(.ptr 0 0)),(48,(Qh v8))],[(Qx p0.kind p0.buffer p0.base p0.strides p0.start p0.step p0.mod)]⟩) (fun d=>Qb 1 (gsb 49 hm (fun hm=>re 5 ⟨kr,Qk zf⟩) (fun hm=>re 5 ⟨kr,Qk zf⟩))) (fun hJ=>gsb 44 hs (fun hm=>Qb 4 zf) (fun hm=>Qb 4 zf)))) (fun hJ=>gsb 39 hs (fun hm=>Qb 4 zf) (fun hm=>Qb 4 zf)))) (fun hJ=>gsb 33 hs (fun hm=>Qb 2 (QP Qi p0.strides (Qb 2 zf))) (fun hm=>Qb 5 zf)))) (fun hJ=>gsq 28 hs (fun hm=>Qb 4 zf) (fun hm=>Qb 4 zf)))))) (fun hm=>ge 2 (riq hm (fun hm=>Qf (Qa4 (Qb 2 (QP Qi p0.strides (Qb 3 (bi hm fun v9 hs hm=>Zk (j:=10) (fun d=>⟨sl d 88 [(2,(.ptr 0 0)),(65,(Qh v9))],[(Qx p0.kind p0.buffer p0.base p0.strides p0.start p0.step p0.mod)]⟩) (fun d=>Qb 1 (bi hm fun v10 hs hm=>Zk (j:=15) (fun d=>⟨sl d 88 [(2,(.ptr 0 0)),(70,(Qh v10))],[(Qx p0.kind p0.buffer p0.base p0.strides p0.start p0.step p0.mod)]⟩) (fun d=>Qb 1 (gsb 71 hm (fun hm=>re 5 ⟨kr,Qk zf⟩) (fun hm=>re 5 ⟨kr,Qk zf⟩))) (fun hJ=>gsb 66 hs (fun hm=>Qb 4 zf) (fun hm=>Qb 4 zf)))) (fun hJ=>gsq 61 hs (fun hm=>Qb 4 zf) (fun hm=>Qb 4 zf)))))))) (fun hm=>ge 2 (riq hm (fun hm=>gr 2 (QP Qi p0.strides (Qb 3 (gsq 83 hm (fun hm=>re 5 (Qk zf)) (fun hm=>re 5 (Qk zf)))))) (fun hm=>Qn (ge 1 (Qk zf))))))))))))))))))
def Z7 (x:((List Int) × Int × (List (List Int)) × Int × (List (List Int)) × Int)):Option ((List (List Int))) :=
 match x with
 | (p0,v202,v201,v803,v1403,v1404) =>
 idx p0 v202>>=fun v1804 =>
 if v1404 < v1804 then
  idx v201 v803>>=fun v1805 =>
  app 8 ([]:List Int) v1805>>=fun v1806 =>
  app 8 v1806 ([v1404]:List Int)>>=fun v1807 =>
  app 24 v1403 ([v1807]:List (List Int))>>=fun v1808 =>
  Z7 (p0,v202,v201,v803,v1808,(W (v1404+1)))
 else
 some v1403
 partial_fixpoint
theorem J0:∀ x r,Z7 x=some r→match x with|(p0,v202,v201,v803,v1403,v1404)=>LQ f68 68 [1,1,0,1,0,0,1,0,0,1,0,1,0,0,1,0,0,1,0,0] 1 ⟨kp 44 [(0,(La p0)),(3,(XU v201)),(4,(Qd v202)),(5,(Qa5 v1403)),(6,(Qd v803)),(7,(Qd v1404))],[(.tok 22 v1403.length)]⟩ (P1 (.exit 4) (fun v1803 d=>⟨sl d 44 [(0,(La p0)),(3,(XU v201)),(4,(Qd v202)),(5,(Qa5 v1803)),(6,(Qd v803))],[(.tok 22 v1803.length)]⟩) r):=by
 refine Z7.partial_correctness _ (fun Z7 J0 x r hm=>?_)
 obtain ⟨p0,v202,v201,v803,v1403,v1404⟩:=x
 exact lp (Qf (gr 3 (QY 1 Qi hm fun v1804 hm=>re 2 (ri hm (fun hm=>Qn (Qf (Qm (R_G (Qb 4 (bi hm fun v1805 hx hm=>Qcp 1 (fun l=>Dat.lst ((List.map Qi) l)) v201 v803 v1805 (es:=(List.map (fun l=>Dat.lst ((List.map Qi) l))) v201) (d:=(Lb v1805)) rfl hx rfl rfl (Qb 1 (bi hm fun v1806 hx hm=>XQ 3 1 8 1 Qi ([]:List Int) v1805 v1806 (xs:=(List.map Qi) ([]:List Int)) (es:=(List.map Qi) v1805) (L:=(List.map Qi)) (fun _=>rfl) rfl rfl (fun _=>rfl) hx (Qb 2 (bi hm fun v1807 hx hm=>XQ 3 1 8 1 Qi v1806 ([v1404]:List Int) v1807 (xs:=(List.map Qi) v1806) (es:=(List.map Qi) ([v1404]:List Int)) (L:=(List.map Qi)) (fun _=>rfl) rfl rfl (fun _=>rfl) hx (Qb 1 (bi hm fun v1808 hx hm=>XQ 22 1 24 0 (fun l=>Dat.lst ((List.map Qi) l)) v1403 ([v1807]:List (List Int)) v1808 (xs:=(List.map (fun l=>Dat.lst ((List.map Qi) l))) v1403) (es:=(List.map (fun l=>Dat.lst ((List.map Qi) l))) ([v1807]:List (List Int))) (L:=(List.map (fun l=>Dat.lst ((List.map Qi) l)))) (fun _=>rfl) rfl rfl (fun _=>rfl) hx (re 1 (R_G (re 3 (J0 _ _ hm _ kr)))))))))))))))) (fun hm=>QI zf)))))
def ZU (x:((List (List Int)) × (List Int) × Int × (List (List Int)) × Int)):Option ((List (List Int))) :=
 match x with
 | (v201,p0,v202,v802,v803) =>
 if v803 < (v201.length:Int) then
  Z7 (p0,v202,v201,v803,v802,0)>>=fun v1803 =>
  ZU (v201,p0,v202,v1803,(W (v803+1)))
 else
 some v802
 partial_fixpoint
theorem JZ:∀ x r,ZU x=some r→match x with|(v201,p0,v202,v802,v803)=>LQ f68 68 [1,1,0,1,0,0,1,0,0,1,0,1,0,0] 1 ⟨kp 44 [(0,(La p0)),(3,(XU v201)),(4,(Qd v202)),(5,(Qa5 v802)),(6,(Qd v803))],[(.tok 22 v802.length)]⟩ (P1 (.exit 2) (fun v1202 d=>⟨sl d 44 [(0,(La p0)),(4,(Qd v202)),(5,(Qa5 v1202))],[(.tok 22 v1202.length)]⟩) r):=by
 refine ZU.partial_correctness _ (fun ZU JZ x r hm=>?_)
 obtain ⟨v201,p0,v202,v802,v803⟩:=x
 exact lp (Qf (gr 2 (Qcq (fun l=>Dat.lst ((List.map Qi) l)) v201 (es:=(List.map (fun l=>Dat.lst ((List.map Qi) l))) v201) rfl (re 1 (ri hm (fun hm=>Qn (Qf (Qm (ge 1 (Qm (ru1 hm (J0 _) fun v1803 d hm=>R_G (re 3 (JZ _ _ hm _ kr)))))))) (fun hm=>QI zf))))))
def ZT (x:((List Int) × (List (List Int)) × Int)):Option ((List (List Int))) :=
 match x with
 | (p0,v201,v202) =>
 if v202 < (p0.length:Int) then
  ZU (v201,p0,v202,([]:List (List Int)),0)>>=fun v1202 =>
  ZT (p0,v1202,(W (v202+1)))
 else
 some v201
 partial_fixpoint
theorem JY:∀ x r,ZT x=some r→match x with|(p0,v201,v202)=>LQ f68 68 [1,1,0,1,0,0] 0 ⟨kp 44 [(0,(La p0)),(3,(XU v201)),(4,(Qd v202))],[]⟩ (P1 (.exit 0) (fun v601 d=>⟨sl d 44 [(3,(XU v601))],[]⟩) r):=by
 refine ZT.partial_correctness _ (fun ZT JY x r hm=>?_)
 obtain ⟨p0,v201,v202⟩:=x
 exact lp (Qf (gr 2 (QP Qi p0 (re 1 (ri hm (fun hm=>Qn (Qf (Qm (ge 1 (Qf (ge 1 (Qm (ru1 hm (JZ _) fun v1202 d hm=>R_G (re 2 (R_G (re 3 (JY _ _ hm _ kr)))))))))))) (fun hm=>QI zf))))))
def YO (x:(List Int)):Option (List (List Int)) :=
 match x with
 | p0 =>
 ZT (p0,([([]:(List Int))]:List (List Int)),0)>>=fun v601 =>
 some v601
theorem Qb5 {p0 r0} (hm:YO p0=some r0):FQ 68 [(Lb p0)] (XU r0):=by
 unfold YO at hm
 exact fp (fn:=f68) rfl (ge 1 (ge 3 (Qf (ge 1 (Qm (ru1 hm (JY _) fun v601 d hm=>ge 2 (Qk zf)))))))
def Z8 (x:((List Int) × Ql × Int)):Option (Unit ⊕ Unit) :=
 match x with
 | (p1,p0,v201) =>
 if v201 < (p1.length:Int) then
  (idx p1 v201>>=fun v602 =>
  idx p0.lo v201>>=fun v603 =>
  if v602 < v603 then
   some true
  else
  idx p1 v201>>=fun v604 =>
  idx p0.hi v201>>=fun v605 =>
  some (decide (v604≥v605))
  )>>=fun (v601:Bool) =>
  if v601=true then
   some (Sum.inl ())
  else
  Z8 (p1,p0,(W (v201+1)))
 else
 some (Sum.inr ())
 partial_fixpoint
theorem J1:∀ x r,Z8 x=some r→match x with|(p1,p0,v201)=>LQ f69 69 [1,1,0,1,0,0] 1 ⟨kp 40 [(1,(La p1)),(2,(.ptr 0 0)),(5,(Qd v201))],[(Qo p0.lo p0.hi)]⟩ (P2 .ret (fun _ d=>⟨sl d 40 [(4,(Qh false))],[(Qo p0.lo p0.hi)]⟩) (.exit 0) (fun _ d=>⟨sl d 40 [],[(Qo p0.lo p0.hi)]⟩) r):=by
 refine Z8.partial_correctness _ (fun Z8 J1 x r hm=>?_)
 obtain ⟨p1,p0,v201⟩:=x
 exact lp (Qf (gr 2 (QP Qi p1 (re 1 (ri hm (fun hm=>Qn (Qf (Qm (Qf (bi hm fun v601 hs hm=>Xt (fun d=>⟨sl d 40 [(1,(La p1)),(2,(.ptr 0 0)),(5,(Qd v201)),(39,(Qh v601))],[(Qo p0.lo p0.hi)]⟩) (have hm:=hs;Y5 (Qb 2 (QY 1 Qi hm fun v602 hm=>Qb 4 (QY 1 Qi hm fun v603 hm=>Qb 3 (gs 28 hm (fun hm=>re 11 ⟨kr,zf⟩) (fun hm=>Qb 2 (QY 1 Qi hm fun v604 hm=>Qb 4 (QY 1 Qi hm fun v605 hm=>re 3 ⟨kr,zf⟩)))))))) (fun d=>rib hm (fun hm=>ge 1 (Qk zf)) (fun hm=>Qn (R_G (re 3 (J1 _ _ hm _ kr)))))))))) (fun hm=>QI zf))))))
def Jw (x:(Ql × (List Int))):Option Bool :=
 match x with
 | (p0,p1) =>
 if (p1.length:Int)≠(p0.lo.length:Int) then
  some false
 else
 (
 Z8 (p1,p0,0)>>=fun out =>
 match out with
 | .inl _ =>
  some false
 | .inr (_) =>
  some true
 )
theorem Qb6 {p0 p1 r0} (hm:Jw (p0,p1)=some r0):FQ 69 [(Ql.toD p0),(Lb p1)] (Qh r0):=by
 unfold Jw at hm
 exact fp (fn:=f69) rfl (ge 2 (Qf (gr 1 (QP Qi p1 (Qb 2 (QP Qi p0.lo (re 1 (rix hm (fun hm=>ge 1 (Qk zf)) (fun hm=>Qn (Qf (ge 1 (Qm (ru2 hm (J1 _) (fun _ d hm=>zf) fun _ d hm=>ge 1 (Qk zf))))))))))))))
def ZM (x:((List Int) × (List Ql) × Int × Int)):Option (Unit ⊕ Unit) :=
 match x with
 | (p0,p1,v201,v805) =>
 if v805 < (p0.length:Int) then
  idx p1 v201>>=fun v1205 =>
  idx v1205.hi v805>>=fun v1206 =>
  idx p0 v805>>=fun v1207 =>
  if v1206 > v1207 then
   some (Sum.inl ())
  else
  ZM (p0,p1,v201,(W (v805+1)))
 else
 some (Sum.inr ())
 partial_fixpoint
theorem Ji:∀ x r,ZM x=some r→match x with|(p0,p1,v201,v805)=>LQ f38 38 [1,0,1,0,0,1,0,0,1,1,0,0] 0 ⟨kp 80 [(0,(La p0)),(1,(Jt p1)),(5,(Qd v201)),(6,(Qd v805))],[]⟩ (P2 .ret (fun _ d=>⟨sl d 80 [(4,(Qh false))],[]⟩) (.exit 2) (fun _ d=>⟨sl d 80 [(0,(La p0)),(1,(Jt p1)),(5,(Qd v201))],[]⟩) r):=by
 refine ZM.partial_correctness _ (fun ZM Ji x r hm=>?_)
 obtain ⟨p0,p1,v201,v805⟩:=x
 exact lp (Qf (gr 2 (QP Qi p0 (re 1 (ri hm (fun hm=>Qn (Qf (Qm (Qf (Y5 (Qb 2 (QY 2 Ql.toD hm fun v1205 hm=>Qb 3 (QY 1 Qi hm fun v1206 hm=>Qb 3 (QY 1 Qi hm fun v1207 hm=>re 2 ⟨kr,ri hm (fun hm=>ge 1 (Qk zf)) (fun hm=>Qn (R_G (re 3 (Ji _ _ hm _ kr))))⟩))))))))) (fun hm=>QI zf))))))
def Zw (x:((List Ql) × (List Int) × Int)):Option (Unit ⊕ Unit) :=
 match x with
 | (p1,p0,v201) =>
 if v201 < (p1.length:Int) then
  (idx p1 v201>>=fun v602 =>
  Y3 v602>>=fun v603 =>
  if v603=false then
   some true
  else
  idx p1 v201>>=fun v604 =>
  some ((v604.lo.length:Int) != (p0.length:Int))
  )>>=fun (v601:Bool) =>
  if v601=true then
   some (Sum.inl ())
  else
  (
  ZM (p0,p1,v201,0)>>=fun out =>
  match out with
  | .inl _ =>
   some (Sum.inl ())
  | .inr (_) =>
   Zw (p1,p0,(W (v201+1)))
  )
 else
 some (Sum.inr ())
 partial_fixpoint
theorem Jh:∀ x r,Zw x=some r→match x with|(p1,p0,v201)=>LQ f38 38 [1,0,1,0,0] 0 ⟨kp 80 [(0,(La p0)),(1,(Jt p1)),(5,(Qd v201))],[]⟩ (P2 .ret (fun _ d=>⟨sl d 80 [(4,(Qh false))],[]⟩) (.exit 0) (fun _ d=>⟨sl d 80 [(0,(La p0)),(1,(Jt p1))],[]⟩) r):=by
 refine Zw.partial_correctness _ (fun Zw Jh x r hm=>?_)
 obtain ⟨p1,p0,v201⟩:=x
 exact lp (Qf (gr 2 (QP Ql.toD p1 (re 1 (ri hm (fun hm=>Qn (Qf (Qm (Qf (Qf (bi hm fun v601 hs hm=>Xt (fun d=>⟨sl d 80 [(0,(La p0)),(1,(Jt p1)),(5,(Qd v201)),(33,(Qh v601))],[]⟩) (have hm:=hs;R_G (Qb 2 (QY 2 Ql.toD hm fun v602 hm=>Qb 1 (bi hm fun v603 hx hm=>cp (QaW hx) (Qb 2 (gsn 23 hm (fun hm=>re 10 zf) (fun hm=>Qb 2 (QY 2 Ql.toD hm fun v604 hm=>Qb 2 (QP Qi v604.lo (Qb 1 (QP Qi p0 (re 2 zf)))))))))))) (fun d=>rib hm (fun hm=>ge 1 (Qk zf)) (fun hm=>Qn (ge 1 (Qm (ru2 hm (Ji _) (fun _ d hm=>zf) fun _ d hm=>R_G (re 3 (Jh _ _ hm _ kr))))))))))))) (fun hm=>QI zf))))))
def Za (x:((List Ql) × (List (List Int)) × Int × Int × Int)):Option (Int) :=
 match x with
 | (p1,v1208,v1409,v2009,v2010) =>
 if v2010 < (p1.length:Int) then
  idx p1 v2010>>=fun v2410 =>
  idx v1208 v1409>>=fun v2411 =>
  Jw (v2410,v2411)>>=fun v2412 =>
  if v2412=true then
   Za (p1,v1208,v1409,(W (v2009+1)),(W (v2010+1)))
  else
  Za (p1,v1208,v1409,v2009,(W (v2010+1)))
 else
 some v2009
 partial_fixpoint
theorem Xq:∀ x r,Za x=some r→match x with|(p1,v1208,v1409,v2009,v2010)=>LQ f38 38 [1,1,1,0,1,0,0,1,0,0,1,0,1,0,0] 0 ⟨kp 80 [(1,(Jt p1)),(7,(XU v1208)),(8,(Qd v1409)),(9,(Qd v2009)),(10,(Qd v2010))],[]⟩ (P1 (.exit 6) (fun v2409 d=>⟨sl d 80 [(1,(Jt p1)),(7,(XU v1208)),(8,(Qd v1409)),(9,(Qd v2409))],[]⟩) r):=by
 refine Za.partial_correctness _ (fun Za Xq x r hm=>?_)
 obtain ⟨p1,v1208,v1409,v2009,v2010⟩:=x
 exact lp (Qf (gr 2 (QP Ql.toD p1 (re 1 (ri hm (fun hm=>Qn (Qf (Qm (Qf (Y5 (Qb 2 (QY 2 Ql.toD hm fun v2410 hm=>Qb 3 (bi hm fun v2411 hx hm=>Qcp 1 (fun l=>Dat.lst ((List.map Qi) l)) v1208 v1409 v2411 (es:=(List.map (fun l=>Dat.lst ((List.map Qi) l))) v1208) (d:=(Lb v2411)) rfl hx rfl rfl (Qb 1 (bi hm fun v2412 hx hm=>cp (Qb6 hx) (QX ⟨kr,rib hm (fun hm=>R_G (re 3 (R_G (re 3 (Xq _ _ hm _ kr))))) (fun hm=>Qn (R_G (re 3 (Xq _ _ hm _ kr))))⟩))))))))))) (fun hm=>QI zf))))))
def Zx (x:((List (List Int)) × (List Ql) × Int)):Option (Unit ⊕ Unit) :=
 match x with
 | (v1208,p1,v1409) =>
 if v1409 < (v1208.length:Int) then
  Za (p1,v1208,v1409,0,0)>>=fun v2409 =>
  if v2409≠1 then
   some (Sum.inl ())
  else
  Zx (v1208,p1,(W (v1409+1)))
 else
 some (Sum.inr ())
 partial_fixpoint
theorem Jj:∀ x r,Zx x=some r→match x with|(v1208,p1,v1409)=>LQ f38 38 [1,1,1,0,1,0,0] 0 ⟨kp 80 [(1,(Jt p1)),(7,(XU v1208)),(8,(Qd v1409))],[]⟩ (P2 .ret (fun _ d=>⟨sl d 80 [(4,(Qh false))],[]⟩) (.exit 4) (fun _ d=>⟨sl d 80 [],[]⟩) r):=by
 refine Zx.partial_correctness _ (fun Zx Jj x r hm=>?_)
 obtain ⟨v1208,p1,v1409⟩:=x
 exact lp (Qf (gr 2 (Qcq (fun l=>Dat.lst ((List.map Qi) l)) v1208 (es:=(List.map (fun l=>Dat.lst ((List.map Qi) l))) v1208) rfl (re 1 (ri hm (fun hm=>Qn (Qf (Qm (ge 1 (Qf (ge 1 (Qm (ru1 hm (Xq _) fun v2409 d hm=>ge 2 (rix hm (fun hm=>ge 1 (Qk zf)) (fun hm=>Qn (R_G (re 3 (Jj _ _ hm _ kr))))))))))))) (fun hm=>QI zf))))))
def Jo (x:((List Int) × (List Ql))):Option Bool :=
 match x with
 | (p0,p1) =>
 (
 Zw (p1,p0,0)>>=fun out =>
 match out with
 | .inl _ =>
  some false
 | .inr (_) =>
  YO p0>>=fun v1208 =>
  (
  Zx (v1208,p1,0)>>=fun out =>
  match out with
  | .inl _ =>
   some false
  | .inr (_) =>
   some true
  )
 )
theorem QbM {p0 p1 r0} (hm:Jo (p0,p1)=some r0):FQ 38 [(Lb p0),(.lst ((List.map Ql.toD) p1))] (Qh r0):=by
 unfold Jo at hm
 exact fp (fn:=f38) rfl (ge 1 (Qf (ge 1 (Qm (ru2 hm (Jh _) (fun _ d hm=>zf) fun _ d hm=>gr 1 (bi hm fun v1208 hx hm=>cp (Qb5 hx) (re 1 (Qf (ge 1 (Qm (ru2 hm (Jj _) (fun _ d hm=>zf) fun _ d hm=>ge 1 (Qk zf))))))))))))
def Zi (x:((List Qc) × (List Int) × (List Ql) × Int)):Option (((List Int) × (List Int) × Nat) ⊕ (List Ql)) :=
 match x with
 | (p1,p0,v201,v202) =>
 if v202 < (p1.length:Int) then
  idx p1 v202>>=fun v605 =>
  (Y3 v605.box>>=fun (v607:Bool) =>
  (if v607=false then
   some true
  else
  YE v605.box>>=fun v609 =>
  some v609
  )>>=fun (v608:Bool) =>
  (if v608=true then
   some true
  else
  idx p1 v202>>=fun v611 =>
  Yj (v611.access,(p0.length:Int))>>=fun v612 =>
  some (!v612)
  )>>=fun (v610:Bool) =>
  if v610=true then
   some true
  else
  if v202 > 0 then
   idx p1 (W (v202 - 1))>>=fun v613 =>
   YS (v613.box.lo,v605.box.lo)>>=fun v614 =>
   some (!v614)
  else
  some false
  )>>=fun (v606:Bool) =>
  if v606=true then
   some (Sum.inl (v605.box.lo,v605.box.hi,v201.length))
  else
  app 48 v201 ([v605.box]:List Ql)>>=fun v615 =>
  Zi (p1,p0,v615,(W (v202+1)))
 else
 some (Sum.inr v201)
 partial_fixpoint
theorem X9:∀ x r,Zi x=some r→match x with|(p1,p0,v201,v202)=>LQ f13 13 [1,1,0,1,0,0] 1 ⟨kp 61 [(0,(La p0)),(1,(Z4 p1)),(5,(QaJ v201)),(6,(Qd v202))],[(.tok 38 v201.length)]⟩ (P2 .ret (fun (v601,v602,v603) d=>⟨sl d 61 [(4,(Qh false))],[(.tok 38 v603),(Qo v601 v602)]⟩) (.exit 0) (fun v604 d=>⟨sl d 61 [(0,(La p0)),(5,(QaJ v604))],[(.tok 38 v604.length)]⟩) r):=by
 refine Zi.partial_correctness _ (fun Zi X9 x r hm=>?_)
 obtain ⟨p1,p0,v201,v202⟩:=x
 exact lp (Qf (gr 2 (QP Qc.toD p1 (re 1 (ri hm (fun hm=>Qn (Qf (Qm (gr 2 (QY 9 Qc.toD hm fun v605 hm=>re 4 (Qf (Qf (bi hm fun v606 hs hm=>Xt (fun d=>⟨sl d 61 [(0,(La p0)),(1,(Z4 p1)),(5,(QaJ v201)),(6,(Qd v202)),(7,(.ptr 1 0)),(53,(Qh v606))],[(.tok 38 v201.length),(Qo v605.box.lo v605.box.hi)]⟩) (have hm:=hs;QcH (Qb 1 (bi hm fun v607 hx hm=>cp (QaW hx) (Qb 2 (bi hm fun v608 hs hm=>Zk (j:=7) (fun d=>⟨sl d 61 [(0,(La p0)),(1,(Z4 p1)),(5,(QaJ v201)),(6,(Qd v202)),(7,(.ptr 1 0)),(25,(Qh v608))],[(.tok 38 v201.length),(Qo v605.box.lo v605.box.hi)]⟩) (fun d=>Qb 1 (bi hm fun v610 hs hm=>Zk (j:=18) (fun d=>⟨sl d 61 [(0,(La p0)),(1,(Z4 p1)),(5,(QaJ v201)),(6,(Qd v202)),(7,(.ptr 1 0)),(36,(Qh v610))],[(.tok 38 v201.length),(Qo v605.box.lo v605.box.hi)]⟩) (fun d=>Qb 1 (gsb 37 hm (fun hm=>re 16 ⟨kr,zf⟩) (fun hm=>Qb 3 (gs 40 hm (fun hm=>Qb 3 (QY 9 Qc.toD hm fun v613 hm=>Qb 5 (bi hm fun v614 hx hm=>cp (Qbh hx) (re 3 ⟨kr,zf⟩)))) (fun hm=>re 13 ⟨kr,zf⟩))))) (fun hJ=>gsb 26 hs (fun hm=>Qb 10 zf) (fun hm=>Qb 2 (QY 9 Qc.toD hm fun v611 hm=>Qb 3 (QP Qi p0 (bi hm fun v612 hx hm=>cp (QbN hx) (Qb 2 zf)))))))) (fun hJ=>gsn 22 hs (fun hm=>Qb 3 zf) (fun hm=>Qb 1 (bi hm fun v609 hx hm=>cp (QaX hx) (Qb 1 zf))))))))) (fun d=>rib hm (fun hm=>ge 1 (Qk zf)) (fun hm=>Qn (R_G (Qb 3 (bi hm fun v615 hx hm=>XQ 38 2 48 0 Ql.toD v201 ([v605.box]:List Ql) v615 (xs:=(List.map Ql.toD) v201) (es:=(List.map Ql.toD) ([v605.box]:List Ql)) (L:=(List.map Ql.toD)) (fun _=>rfl) rfl rfl Ql.fit hx (re 1 (R_G (re 3 (X9 _ _ hm _ kr))))))))))))))))) (fun hm=>QI zf))))))
def Ys (x:((List Int) × (List Qc))):Option Bool :=
 match x with
 | (p0,p1) =>
 (
 Zi (p1,p0,([]:List Ql),0)>>=fun out =>
 match out with
 | .inl (v601,v602,v603) =>
  some false
 | .inr (v604) =>
  Jo (p0,v604)>>=fun v616 =>
  some v616
 )
theorem QbF {p0 p1 r0} (hm:Ys (p0,p1)=some r0):FQ 13 [(Lb p0),(.lst ((List.map Qc.toD) p1))] (Qh r0):=by
 unfold Ys at hm
 exact fp (fn:=f13) rfl (ge 1 (ge 1 (Qf (ge 1 (Qm (ru2 hm (X9 _) (fun ⟨v601,v602,v603⟩ d hm=>zf) fun v604 d hm=>gr 2 (bi hm fun v616 hx hm=>cp (QbM hx) (re 1 (Qk zf)))))))))
def QR (x:((List Int) × (List Int) × (List Qa) × Int × Nat × (List Int) × Int)):Option ((Nat × (List Int)) ⊕ (Nat × (List Int))) :=
 match x with
 | (p0,p1,v7,v8,v209,v210,v211) =>
 if v211 < (p0.length:Int) then
  (idx p1 v211>>=fun v614 =>
  if v614 < (-60000) then
   some true
  else
  idx p1 v211>>=fun v615 =>
  some (decide (v615 > 60000))
  )>>=fun (v613:Bool) =>
  if v613=true then
   some (Sum.inl (v209,v210))
  else
  idx p1 v211>>=fun v616 =>
  app 8 v210 ([v616]:List Int)>>=fun v617 =>
  QR (p0,p1,v7,v8,(gb v209 ([v616]:List Int).isEmpty),v617,(W (v211+1)))
 else
 some (Sum.inr (v209,v210))
 partial_fixpoint
theorem Y7:∀ x r,QR x=some r→match x with|(p0,p1,v7,v8,v209,v210,v211)=>LQ f3 3 [1,1,1,1,1,0,1,0,0] 1 ⟨kp 126 [(0,(La p0)),(1,(La p1)),(7,(QE v7)),(8,(Qd v8)),(9,(.ms 0 v209 0 v210.length v210.length)),(10,(Qd v211))],[(XT v209 v210)]⟩ (P2 .ret (fun (v609,v610) d=>⟨sl d 126 [(6,(Qh true))],[(XT v609 v610)]⟩) (.exit 0) (fun (v611,v612) d=>⟨sl d 126 [(0,(La p0)),(1,(La p1)),(7,(QE v7)),(8,(Qd v8)),(9,(.ms 0 v611 0 v612.length v612.length))],[(XT v611 v612)]⟩) r):=by
 refine QR.partial_correctness _ (fun QR Y7 x r hm=>?_)
 obtain ⟨p0,p1,v7,v8,v209,v210,v211⟩:=x
 exact lp (Qf (gr 2 (QP Qi p0 (re 1 (ri hm (fun hm=>Qn (Qf (Qm (Qf (Qf (bi hm fun v613 hs hm=>Xt (fun d=>⟨sl d 126 [(0,(La p0)),(1,(La p1)),(7,(QE v7)),(8,(Qd v8)),(9,(.ms 0 v209 0 v210.length v210.length)),(10,(Qd v211)),(59,(Qh v613))],[(XT v209 v210)]⟩) (have hm:=hs;R_G (Qb 2 (QY 1 Qi hm fun v614 hm=>Qb 3 (gs 53 hm (fun hm=>re 6 zf) (fun hm=>Qb 2 (QY 1 Qi hm fun v615 hm=>re 3 zf)))))) (fun d=>rib hm (fun hm=>ge 1 (Qk zf)) (fun hm=>Qn (R_G (Qb 3 (QY 1 Qi hm fun v616 hm=>Qb 2 (bi hm fun v617 hx hm=>XH (v:=.ms 0 (gb v209 ([v616]:List Int).isEmpty) 0 v617.length v617.length) (fun H=>H.set 0 (.mt 3 (gb v209 ([v616]:List Int).isEmpty) (cellsOf Qi v617))) rfl kr (fun _ hk=>Qch Qi (l:=v210) (es:=([v616]:List Int)) (bytes:=8) (e:=3) (tt:=0) (g:=v209) (m:=v210.length) hx (fun _=>rfl) kr kr kr kr rfl rfl kr rfl kr kr hk) (re 1 (R_G (re 3 (Y7 _ _ hm _ (prune_of2 [(.mt 3 (gb v209 ([v616]:List Int).isEmpty) (cellsOf Qi v617))] (fun _=>(pg_cons (purge_mt Qi _ _ _ _ _) pg_nil)) rfl))))))))))))))))) (fun hm=>QI zf))))))
def QK (x:((List Qc) × Nat × Int)):Option (Unit ⊕ Unit) :=
 match x with
 | (v626,v611,v837) =>
 if v837 < (v626.length:Int) then
  idx v626 v837>>=fun v1237 =>
  if v1237.access.kind≠1 then
   some (Sum.inl ())
  else
  QK (v626,v611,(W (v837+1)))
 else
 some (Sum.inr ())
 partial_fixpoint
theorem Y8:∀ x r,QK x=some r→match x with|(v626,v611,v837)=>LQ f3 3 [1,1,1,1,1,1,1,1,1,1,1,0,1,0,0] 1 ⟨kp 126 [(12,(Z4 v626)),(14,(Qd v837))],[(Js v611)]⟩ (P2 .ret (fun _ d=>⟨sl d 126 [(6,(Qh false))],[(Js v611)]⟩) (.exit 2) (fun _ d=>⟨sl d 126 [],[(Js v611)]⟩) r):=by
 refine QK.partial_correctness _ (fun QK Y8 x r hm=>?_)
 obtain ⟨v626,v611,v837⟩:=x
 exact lp (Qf (gr 2 (QP Qc.toD v626 (re 1 (ri hm (fun hm=>Qn (Qf (Qm (gr 2 (QY 9 Qc.toD hm fun v1237 hm=>re 4 (rix hm (fun hm=>ge 1 (Qk zf)) (fun hm=>Qn (R_G (re 3 (Y8 _ _ hm _ (prune_of2 [(Js v611)] (fun _=>(pg_cons (purge_mt Qi _ _ _ _ _) pg_nil)) rfl))))))))))) (fun hm=>QI zf))))))
def YR (x:((List Int) × (List Int) × Int)):Option Bool :=
 match x with
 | (p0,p1,p2) =>
 (Y1 ()>>=fun (v2:Bool) =>
 (if v2=false then
  some true
 else
 XB (p0,200)>>=fun v4 =>
 some (!v4)
 )>>=fun (v3:Bool) =>
 (if v3=true then
  some true
 else
 some ((p0.length:Int) == 0)
 )>>=fun (v5:Bool) =>
 if v5=true then
  some true
 else
 some ((p1.length:Int) != (p0.length:Int))
 )>>=fun (v1:Bool) =>
 if v1=true then
  Y1 ()>>=fun v6 =>
  some v6
 else
 Yq p0>>=fun v7 =>
 remM (W (p2)) (p0.length:Int)>>=fun v8 =>
 (
 QR (p0,p1,v7,v8,0,([]:List Int),0)>>=fun out =>
 match out with
 | .inl (v609,v610) =>
  some true
 | .inr ((v611,v612)) =>
  idx p0 v8>>=fun v618 =>
  idx v612 v8>>=fun v619 =>
  setM v612 v8 v618>>=fun v620 =>
  YC (0,p0)>>=fun v621 =>
  Jb (v620.length=v612.length)>>=fun _ =>
  ZL (v621,p0,p0,v620)>>=fun v623 =>
  Z1 v623>>=fun v624 =>
  ZL (v7,p0,p0,p1)>>=fun v625 =>
  Z1 v625>>=fun v626 =>
  idx p0 v8>>=fun v627 =>
  ZS (v7,v8,v627)>>=fun v628 =>
  Z1 v628>>=fun v629 =>
  (YL p0>>=fun (v631:(List Qc)) =>
  Yg (v624,v631)>>=fun v632 =>
  (if v632=false then
   some true
  else
  YL p0>>=fun v634 =>
  Yg (v629,v634)>>=fun v635 =>
  some (!v635)
  )>>=fun (v633:Bool) =>
  if v633=true then
   some true
  else
  Ys (p0,v626)>>=fun v636 =>
  some (!v636)
  )>>=fun (v630:Bool) =>
  if v630=true then
   some false
  else
  (
  QK (v626,v611,0)>>=fun out =>
  match out with
  | .inl _ =>
   some false
  | .inr (_) =>
   some true
  )
 )
def JL:((List Int) × (List Int) × Int)→Bool→Prop:=fun x r=>match x,r with
 | (p0,p1,p2),r0=>∀ H,PC prog env 3 ([(Lb p0),(Lb p1),(numD .u8 p2)].map .dat) H (Qh r0) H
theorem w_law18_PieceFills:∀ x r,YR x=some r→JL x r:=by
 intro x r0 hm
 unfold YR at hm
 unfold JL
 obtain ⟨p0,p1,p2⟩:=x
 intro H
 refine PC_sx (ds:=[(Lb p0),(Lb p1),(numD .u8 p2)]) (fn:=f3) rfl ?_
 exact ge 1 (Qf (Qf (bi hm fun v1 hs hm=>Xt (fun d=>⟨sl d 126 [(0,(La p0)),(1,(La p1)),(2,(.dat (numD .u8 p2))),(33,(Qh v1))],[]⟩) (have hm:=hs;Qa4 (bi hm fun v2 hx hm=>ZY (QaT _ _ hx []) (Qb 2 (bi hm fun v3 hs hm=>Zk (j:=7) (fun d=>⟨sl d 126 [(0,(La p0)),(1,(La p1)),(2,(.dat (numD .u8 p2))),(21,(Qh v3))],[]⟩) (fun d=>Qb 1 (bi hm fun v5 hs hm=>Zk (j:=12) (fun d=>⟨sl d 126 [(0,(La p0)),(1,(La p1)),(2,(.dat (numD .u8 p2))),(26,(Qh v5))],[]⟩) (fun d=>Qb 1 (gsb 27 hm (fun hm=>re 6 ⟨kr,zf⟩) (fun hm=>Qb 1 (QP Qi p1 (Qb 1 (QP Qi p0 (re 2 ⟨kr,zf⟩))))))) (fun hJ=>gsb 22 hs (fun hm=>Qb 4 zf) (fun hm=>Qb 1 (QP Qi p0 (Qb 2 zf)))))) (fun hJ=>gsn 17 hs (fun hm=>Qb 4 zf) (fun hm=>Qb 1 (bi hm fun v4 hx hm=>cp (QbL hx) (Qb 2 zf)))))))) (fun d=>rib hm (fun hm=>Qf (R_G (bi hm fun v6 hx hm=>ZY (QaT _ _ hx []) (re 1 (Qk zf))))) (fun hm=>Qn (gr 1 (bi hm fun v7 hx hm=>cp (QaO hx) (re 1 (gr 3 (QP Qi p0 (bi hm fun v8 hx hm=>Zr rfl (fun _=>QcM (a:=(W (p2))) (b:=(p0.length:Int)) hx rfl kr kr) (re 1 (ge 1 (Qf (ge 1 (Qm (ru2 hm (Y7 _) (fun ⟨v609,v610⟩ d hm=>zf) (fun ⟨v611,v612⟩ d hm=>gr 4 (QY 1 Qi hm fun v618 hm=>Qb 1 (bi hm fun v619 hx hm=>Zr rfl (fun _=>YH (e:=3) (n:=v8) (j:=(v8).toNat) (tt:=0) (g:=v611) (lo:=0) (len:=v612.length) (cap:=v612.length) (k:=.i64) kr kr rfl kr kr (idx_nat hx) (Nat.lt_of_lt_of_eq (idx_lt hx) rfl)) (bi hm fun v620 hx hm=>XH (fun H=>H.set 0 (XT v611 v620)) rfl kr (fun _=>Qbj Qi (l:=v612) (n:=v8) (y:=v618) hx (fun _=>rfl) kr rfl kr kr kr kr) (QX (gr 1 (bi hm fun v621 hx hm=>cp (QaU hx) (Qb 2 (gi hm fun hl622 hm=>XH (v:=(La v620)) (fun H=>H.set 0 (Js v611)) rfl kr (fun _ hk=>Qcm Qi (l:=v620) (tt:=0) (e:=3) (g:=v611) (m:=v612.length) (cap:=v612.length) hl622 (fun _=>rfl) rfl kr kr kr hk) (bi hm fun v623 hx hm=>ZY (Jc _ _ hx []) (bi hm fun v624 hx hm=>ZY (Qas _ _ hx []) (re 1 (gr 4 (bi hm fun v625 hx hm=>ZY (Jc _ _ hx []) (bi hm fun v626 hx hm=>ZY (Qas _ _ hx []) (re 1 (gr 4 (QY 1 Qi hm fun v627 hm=>Qb 1 (bi hm fun v628 hx hm=>ZY (Qac _ _ hx []) (bi hm fun v629 hx hm=>ZY (Qas _ _ hx []) (re 1 (Qf (Qf (bi hm fun v630 hs hm=>Xt (fun d=>⟨sl d 126 [(12,(Z4 v626)),(112,(Qh v630))],[(Js v611)]⟩) (have hm:=hs;Qa4 (Qb 2 (bi hm fun v631 hx hm=>cp (QaQ hx) (bi hm fun v632 hx hm=>cp (Qbg hx) (Qb 2 (bi hm fun v633 hs hm=>Zk (j:=12) (fun d=>⟨sl d 126 [(0,(La p0)),(12,(Z4 v626)),(106,(Qh v633))],[(Js v611)]⟩) (fun d=>Qb 1 (gsb 107 hm (fun hm=>re 5 ⟨kr,zf⟩) (fun hm=>Qb 2 (bi hm fun v636 hx hm=>cp (QbF hx) (re 2 ⟨kr,zf⟩))))) (fun hJ=>gsn 100 hs (fun hm=>Qb 6 zf) (fun hm=>Qb 2 (bi hm fun v634 hx hm=>cp (QaQ hx) (bi hm fun v635 hx hm=>cp (Qbg hx) (Qb 2 zf))))))))))) (fun d=>rib hm (fun hm=>ge 1 (Qk zf)) (fun hm=>Qn (Qf (ge 1 (Qm (ru2 hm (Y8 _) (fun _ d hm=>zf) (fun _ d hm=>ge 1 (Qk zf)) (hst:=(prune_of2 [(Js v611)] (fun _=>(pg_cons (purge_mt Qi _ _ _ _ _) pg_nil)) rfl)))))))))))))))))))))))))))))))) (hst:=(prune_of2 [(.mt 3 0 (cellsOf Qi ([]:List Int)))] (fun _=>(pg_cons (purge_mt Qi _ _ _ _ _) pg_nil)) rfl)))))))))))))))))))
set_option linter.unusedSimpArgs false
theorem Equal_L1:∀ (s t p q:List Int),s.length=t.length→p.length=q.length→Sm (p++s).length→Zu (p++s,q++t,(p.length:Int))=some (if s=t then .inr () else .inl ())
 | [],[],p,q,_,_,hs=>by
  rw [Zu]; simp only [ZP,if_false,if_true]
 | x::s,y::t,p,q,h1,h2,hs=>by
  rw [Zu]
  have ih:=Equal_L1 s t (p++[x]) (q++[y]) (by simpa using h1) (by simp [h2]) (by rw [← Qu]; exact hs)
  rw [← Qu,← Qu] at ih
  simp only [Zq,if_true,QB,Qj,mid_W hs,ih]
  rw [h2,QB]
  by_cases he:x=y <;> simp [he,Qj]
 | [],_::_,_,_,h,_,_=>by cases h
 | _::_,[],_,_,h,_,_=>by cases h
theorem Equal_ok (a b:List Int) (hs:Sm a.length):YD (a,b)=some (decide (a=b)):=by
 simp only [YD]
 by_cases h:a.length=b.length
 ·have e:=Equal_L1 a b [] [] h rfl hs
  have e2:¬ ((a.length:Int)≠(b.length:Int)):=by omega
  simp only [e2,if_false]
  have e3:Zu (a,b,0)=_:=e
  rw [e3]
  by_cases hab:a=b
  ·subst hab; simp
  ·rw [if_neg hab,decide_eq_false hab]; rfl
 ·have e2:((a.length:Int)≠(b.length:Int)):=by omega
  have e3:a≠b:=fun e=>h (by rw [e])
  rw [if_pos e2,decide_eq_false e3]

def prodI (l:List Int):Int:=l.foldl (· * ·) 1
def negB (l:List Int):Bool:=l.any fun d=>decide (d < 0)
def bigB (l:List Int):Bool:=l.any fun d=>decide (d > 65536)
def prodR (l:List Int):Int × Int:=if negB l then (0,6) else if bigB l then (0,7) else if prodI l > 65536 then (0,7) else (prodI l,0)
def checkR (l:List Int):Int:=if negB l then 6 else if l.length > 16∨bigB l=true∨prodI l > 65536 then 7 else 0
def cellsR (l:List Int):Int:=if checkR l=0 then prodI l else 0
theorem foldl_mul:∀ (l:List Int) (x:Int),l.foldl (· * ·) x=x * l.foldl (· * ·) 1
 | [],x=>by simp
 | d::l,x=>by rw [List.foldl_cons,foldl_mul l (x * d),List.foldl_cons,foldl_mul l (1 * d),Int.one_mul,Int.mul_assoc]
theorem prodI_cons (d:Int) (l:List Int):prodI (d::l)=d * prodI l:=by rw [prodI,List.foldl_cons,foldl_mul,Int.one_mul]; rfl
theorem prodI_nil:prodI []=1:=rfl
theorem prodI_append (a b:List Int):prodI (a++b)=prodI a * prodI b:=by rw [prodI,prodI,prodI,List.foldl_append,foldl_mul]
theorem prodI_pos:∀ {l:List Int},(∀ d∈l,1≤d)→1≤prodI l
 | [],_=>by simp [prodI]
 | d::l,h=>by
  have h1:=prodI_pos (l:=l) (fun x hx=>h x (List.mem_cons_of_mem _ hx))
  have h2:=h d (List.mem_cons_self ..)
  rw [prodI_cons]
  have:=Int.mul_le_mul h2 h1 (by omega) (by omega)
  omega
theorem prodI_zero {l:List Int} (h:(0:Int)∈l):prodI l=0:=by
 obtain ⟨s,t,rfl⟩:=List.append_of_mem h
 rw [prodI_append,prodI_cons]; simp
theorem negB_cons (d:Int) (l:List Int):negB (d::l)=(decide (d < 0) || negB l):=rfl
theorem bigB_cons (d:Int) (l:List Int):bigB (d::l)=(decide (d > 65536) || bigB l):=rfl

theorem Prod_L1:∀ (s p:List Int) (z:Bool),Sm (p++s).length→Q1 (p++s,z,(p.length:Int))=some (if negB s then .inl () else .inr (z || s.any (· == 0)))
 | [],p,z,hs=>by
  rw [Q1]; simp only [ZP,if_false]; simp [negB]
 | x::s,p,z,hs=>by
  rw [Q1]
  have ih:=fun z=>Prod_L1 s (p++[x]) z (by rw [← Qu]; exact hs)
  rw [← Qu] at ih
  simp only [Zq,if_true,QB,Qj,mid_W hs,ih,negB_cons]
  by_cases hn:x < 0
  ·simp [hn]
  ·cases z <;> by_cases hz:x=0 <;> simp [hn,hz]
theorem Prod_L2:∀ (s p:List Int) (z:Bool),Sm (p++s).length→Q3 (p++s,z,(p.length:Int))=some (if bigB s then .inl () else .inr ())
 | [],p,z,hs=>by
  rw [Q3]; simp only [ZP,if_false]; simp [bigB]
 | x::s,p,z,hs=>by
  rw [Q3]
  have ih:=Prod_L2 s (p++[x]) z (by rw [← Qu]; exact hs)
  rw [← Qu] at ih
  simp only [Zq,if_true,QB,Qj,mid_W hs,ih,bigB_cons]
  by_cases hn:x > 65536 <;> simp [hn]
theorem Prod_L3:∀ (s p:List Int) (m:Int),Sm (p++s).length→(∀ d∈s,1≤d∧d≤65536)→1≤m→m≤65536→Q4 (p++s,m,(p.length:Int))=some (if m * prodI s > 65536 then .inl () else .inr (m * prodI s))
 | [],p,m,hs,hd,h1,h2=>by
  rw [Q4]; simp only [ZP,if_false,prodI_nil,Int.mul_one]
  rw [if_neg (by omega)]
 | x::s,p,m,hs,hd,h1,h2=>by
  rw [Q4]
  have hx:=hd x (List.mem_cons_self ..)
  have b1:=Int.mul_le_mul h2 hx.2 (by omega) (by omega)
  have b2:=Int.mul_le_mul h1 hx.1 (by omega) (by omega)
  have hw:W (m * x)=m * x:=W_ok (by omega) (by omega)
  have hds:∀ d∈s,1≤d∧d≤65536:=fun d h=>hd d (List.mem_cons_of_mem _ h)
  simp only [Zq,if_true,QB,Qj,mid_W hs,hw,prodI_cons]
  rw [← Int.mul_assoc]
  by_cases hn:m * x > 65536
  ·have hp:=prodI_pos (l:=s) (fun d h=>(hds d h).1)
   have:m * x * 1≤m * x * prodI s:=Int.mul_le_mul_of_nonneg_left hp (by omega)
   rw [if_pos hn,if_pos (by omega)]
  ·have ih:=Prod_L3 s (p++[x]) (m * x) (by rw [← Qu]; exact hs) hds (by omega) (by omega)
   rw [← Qu] at ih
   rw [if_neg hn,ih]
theorem neg_all {l:List Int} (h:negB l=false):∀ d∈l,0≤d:=fun d hd=>by
 have:=List.any_eq_false.1 h d hd
 simp at this; omega
theorem big_all {l:List Int} (h:bigB l=false):∀ d∈l,d≤65536:=fun d hd=>by
 have:=List.any_eq_false.1 h d hd
 simp at this; omega
theorem Product_ok (l:List Int) (hs:Sm l.length):Yx l=some (prodR l):=by
 have e1:Q1 (l,false,0)=_:=Prod_L1 l [] false hs
 have e2:∀ z,Q3 (l,z,0)=_:=fun z=>Prod_L2 l [] z hs
 simp only [Yx,e1,Qj,prodR]
 by_cases hn:negB l=true
 ·simp [hn]
 ·have hn':negB l=false:=by simpa using hn
  simp only [hn',Bool.false_eq_true,if_false,Bool.false_or,e2,Qj]
  by_cases hb:bigB l=true
  ·simp [hb]
  ·have hb':bigB l=false:=by simpa using hb
   simp only [hb',Bool.false_eq_true,if_false]
   by_cases hz:(l.any (· == 0))=true
   ·have:prodI l=0:=prodI_zero (by simpa using hz)
    simp [hz,this]
   ·have hz':l.any (· == 0)=false:=(Bool.not_eq_true _).mp hz
    have e3:Q4 (l,1,0)=_:=Prod_L3 l [] 1 hs (fun d hd=>by
     have h1:=neg_all hn' d hd
     have h2:=big_all hb' d hd
     have h3:d≠0:=fun e=>by have:=List.any_eq_false.1 hz' d hd; simp [e] at this
     omega) (by omega) (by omega)
    simp only [hz',Bool.false_eq_true,if_false,e3,Qj,Int.one_mul]
    by_cases hp:prodI l > 65536 <;> simp [hp]
theorem Check_L1:∀ (s p:List Int),Sm (p++s).length→Zt (p++s,(p.length:Int))=some (if negB s then .inl () else .inr ())
 | [],p,hs=>by
  rw [Zt]; simp only [ZP,if_false]; simp [negB]
 | x::s,p,hs=>by
  rw [Zt]
  have ih:=Check_L1 s (p++[x]) (by rw [← Qu]; exact hs)
  rw [← Qu] at ih
  simp only [Zq,if_true,QB,Qj,mid_W hs,ih,negB_cons]
  by_cases hn:x < 0 <;> simp [hn]
theorem Check_ok (l:List Int) (hs:Sm l.length):Y2 l=some (checkR l):=by
 have e1:Zt (l,0)=_:=Check_L1 l [] hs
 simp only [Y2,e1,Qj,checkR,Product_ok l hs]
 by_cases hn:negB l=true
 ·simp [hn]
 ·simp only [hn,if_false,prodR,Bool.false_eq_true]
  by_cases hl:l.length > 16
  ·have:(l.length:Int) > 16:=by omega
   simp [hl,this,Qj]
  ·have:¬ (l.length:Int) > 16:=by omega
   by_cases hb:bigB l=true
   ·simp [hl,this,hb,Qj]
   ·by_cases hp:prodI l > 65536 <;> simp [hl,this,hb,hp,Qj]

theorem Cont1_L1:∀ (s p:List Int),Sm (p++s).length→∃ r,Qq (p++s,(p.length:Int))=some r∧(negB s=true→∃ j:Nat,r=.inl (j:Int))∧(negB s=false→r=.inr ())
 | [],p,hs=>by
  rw [Qq]; simp only [ZP,if_false]; exact ⟨_,rfl,fun h=>(by cases h),fun _=>rfl⟩
 | x::s,p,hs=>by
  rw [Qq]
  obtain ⟨r,h1,h2,h3⟩:=Cont1_L1 s (p++[x]) (by rw [← Qu]; exact hs)
  rw [← Qu] at h1
  simp only [Zq,if_true,QB,Qj,mid_W hs,XY,negB_cons]
  by_cases hn:x < 0
  ·simp only [hn,decide_true,if_true]; exact ⟨_,rfl,fun _=>⟨_,rfl⟩,fun h=>by simp at h⟩
  ·simp only [hn,decide_false,Bool.false_eq_true,if_false,Bool.false_or]; exact ⟨r,h1,h2,h3⟩
theorem Cont1_ok (l:List Int) (hs:Sm l.length):QC l=some (negB l):=by
 obtain ⟨r,h1,h2,h3⟩:=Cont1_L1 l [] hs
 have e:Qq (l,0)=some r:=h1
 simp only [QC,QU,e,Qj]
 cases hn:negB l
 ·rw [h3 hn]; rfl
 ·obtain ⟨j,rfl⟩:=h2 hn; simp [Qj]
theorem Cont2_L1:∀ (s p:List Int),Sm (p++s).length→∃ r,Qr (p++s,(p.length:Int))=some r∧(bigB s=true→∃ j:Nat,r=.inl (j:Int))∧(bigB s=false→r=.inr ())
 | [],p,hs=>by
  rw [Qr]; simp only [ZP,if_false]; exact ⟨_,rfl,fun h=>(by cases h),fun _=>rfl⟩
 | x::s,p,hs=>by
  rw [Qr]
  obtain ⟨r,h1,h2,h3⟩:=Cont2_L1 s (p++[x]) (by rw [← Qu]; exact hs)
  rw [← Qu] at h1
  simp only [Zq,if_true,QB,Qj,mid_W hs,XZ,bigB_cons]
  by_cases hn:x > 65536
  ·simp only [hn,decide_true,if_true]; exact ⟨_,rfl,fun _=>⟨_,rfl⟩,fun h=>by simp at h⟩
  ·simp only [hn,decide_false,Bool.false_eq_true,if_false,Bool.false_or]; exact ⟨r,h1,h2,h3⟩
theorem Cont2_ok (l:List Int) (hs:Sm l.length):QD l=some (bigB l):=by
 obtain ⟨r,h1,h2,h3⟩:=Cont2_L1 l [] hs
 have e:Qr (l,0)=some r:=h1
 simp only [QD,QV,e,Qj]
 cases hn:bigB l
 ·rw [h3 hn]; rfl
 ·obtain ⟨j,rfl⟩:=h2 hn; simp [Qj]
def errR (l:List Int):Int:=if negB l then 6 else if bigB l then 7 else 0
theorem sizecheck_ok (l:List Int) (hs:Sm l.length):Xp l=some (errR l):=by
 simp only [Xp,Cont1_ok l hs,Cont2_ok l hs,Qj,errR]
 by_cases h1:negB l=true
 ·simp [h1]
 ·by_cases h2:bigB l=true <;> simp [h1,h2]
theorem Index_L1 (v:Int):∀ (s p:List Int),Sm (p++s).length→∃ r,QF (p++s,v,(p.length:Int))=some r∧(s.any (v == ·)=true→∃ j:Nat,r=.inl (j:Int))∧(s.any (v == ·)=false→r=.inr ())
 | [],p,hs=>by
  rw [QF]; simp only [ZP,if_false]; exact ⟨_,rfl,fun h=>(by cases h),fun _=>rfl⟩
 | x::s,p,hs=>by
  rw [QF]
  obtain ⟨r,h1,h2,h3⟩:=Index_L1 v s (p++[x]) (by rw [← Qu]; exact hs)
  rw [← Qu] at h1
  simp only [Zq,if_true,QB,Qj,mid_W hs]
  by_cases hn:v=x
  ·rw [if_pos hn]; exact ⟨_,rfl,fun _=>⟨_,rfl⟩,fun h=>by simp [hn] at h⟩
  ·rw [if_neg hn]; exact ⟨r,h1,fun h=>h2 (by simpa [hn] using h),fun h=>h3 (by simpa [hn] using h)⟩
theorem Contains_ok (l:List Int) (v:Int) (hs:Sm l.length):ZB (l,v)=some (l.any (v == ·)):=by
 obtain ⟨r,h1,h2,h3⟩:=Index_L1 v l [] hs
 have e:QF (l,v,0)=some r:=h1
 simp only [ZB,Yh,e,Qj]
 cases hn:l.any (v == ·)
 ·rw [h3 hn]; rfl
 ·obtain ⟨j,rfl⟩:=h2 hn; simp [Qj]
theorem Mul_ok {a b:Int} (ha:1≤a∧a≤65536) (hb:1≤b∧b≤65536):JR (a,b,65536)=some (if a * b > 65536 then (0,false) else (a * b,true)):=by
 have m1:=Int.mul_le_mul ha.2 hb.2 (by omega) (by omega)
 have m2:=Int.mul_le_mul ha.1 hb.1 (by omega) (by omega)
 have hq0:(65536:Int).tdiv b=65536 / b:=Int.tdiv_eq_ediv_of_nonneg (by omega)
 have hq1:(65536:Int) / b≤65536:=Int.ediv_le_self _ (by omega)
 have hq2:0≤(65536:Int) / b:=Int.ediv_nonneg (by omega) (by omega)
 have hq:quoM 65536 b=some (65536 / b):=by
  rw [quoM,if_neg (by omega),hq0,W_ok (by omega) (by omega)]
 have hlt:(a > 65536 / b)=(a * b > 65536):=by
  have:=Int.ediv_lt_iff_lt_mul (a:=65536) (b:=a) (c:=b) (by omega)
  simp only [gt_iff_lt,eq_iff_iff]
  exact this
 simp only [JR,show ¬ a < 0 by omega,show ¬ b < 0 by omega,show ¬ a > 65536 by omega,show ¬ b > 65536 by omega,show b > 0 by omega,if_false,if_true,hq,Qj,hlt,decide_false,Bool.false_eq_true]
 by_cases h:a * b > 65536
 ·simp [h]
 ·simp only [h,decide_false,Qj,Bool.false_eq_true,if_false]; rw [W_ok (by omega) (by omega)]
theorem foldP_L1:∀ (s p:List Int) (m:Int),Sm (p++s).length→(∀ d∈s,1≤d∧d≤65536)→1≤m→m≤65536 →
  ∃ r,Qy (p++s,m,(p.length:Int))=some r∧(m * prodI s > 65536→∃ v,r=.inl v)∧(¬ m * prodI s > 65536→r=.inr (m * prodI s))
 | [],p,m,hs,hd,h1,h2=>by
  rw [Qy]; simp only [ZP,if_false,prodI_nil,Int.mul_one]
  exact ⟨_,rfl,fun h=>(by omega),fun _=>rfl⟩
 | x::s,p,m,hs,hd,h1,h2=>by
  rw [Qy]
  have hx:=hd x (List.mem_cons_self ..)
  have hds:∀ d∈s,1≤d∧d≤65536:=fun d h=>hd d (List.mem_cons_of_mem _ h)
  have b2:=Int.mul_le_mul h1 hx.1 (by omega) (by omega)
  simp only [Zq,if_true,QB,Qj,mid_W hs,Xo,Mul_ok ⟨h1,h2⟩ hx,prodI_cons]
  rw [← Int.mul_assoc]
  by_cases hn:m * x > 65536
  ·have hp:=prodI_pos (l:=s) (fun d h=>(hds d h).1)
   have:m * x * 1≤m * x * prodI s:=Int.mul_le_mul_of_nonneg_left hp (by omega)
   simp only [hn,if_true,Qj]
   exact ⟨_,rfl,fun _=>⟨_,rfl⟩,fun h=>absurd h (by omega)⟩
  ·obtain ⟨r,e1,e2,e3⟩:=foldP_L1 s (p++[x]) (m * x) (by rw [← Qu]; exact hs) hds (by omega) (by omega)
   rw [← Qu] at e1
   simp only [hn,if_false,Qj,Bool.true_eq_false]
   exact ⟨r,e1,e2,e3⟩
theorem sProduct_ok (l:List Int) (hs:Sm l.length):YN l=some (prodR l):=by
 simp only [YN,sizecheck_ok l hs,Qj,Zy,prodR,errR]
 by_cases hn:negB l=true
 ·simp [hn,Qj]
 ·have hn':negB l=false:=(Bool.not_eq_true _).mp hn
  by_cases hb:bigB l=true
  ·simp [hn,hb,Qj]
  ·have hb':bigB l=false:=(Bool.not_eq_true _).mp hb
   simp only [hn',hb',Bool.false_eq_true,if_false,if_true,Contains_ok l 0 hs,Qj]
   by_cases hz:l.any ((0:Int) == ·)=true
   ·have h0:(0:Int)∈l:=by
     obtain ⟨x,hx,he⟩:=List.any_eq_true.1 hz
     have:(0:Int)=x:=by simpa using he
     rw [this]; exact hx
    have:=prodI_zero h0
    simp [hz,this,Qj]
   ·have hall:∀ d∈l,1≤d∧d≤65536:=fun d hd=>by
     have h1:=neg_all hn' d hd
     have h2:=big_all hb' d hd
     have h3:d≠0:=fun e=>hz (List.any_eq_true.2 ⟨d,hd,by simp [e]⟩)
     omega
    obtain ⟨r,e1,e2,e3⟩:=foldP_L1 l [] 1 hs hall (by omega) (by omega)
    have e4:Qy (l,1,0)=some r:=e1
    rw [Int.one_mul] at e2 e3
    simp only [hz,if_false,Qj,Zz,e4,ne_eq,not_true]
    by_cases hp:prodI l > 65536
    ·obtain ⟨v,rfl⟩:=e2 hp; simp [hp,Qj]
    ·rw [e3 hp]; simp [hp,Qj]
theorem shapeCheck_ok (l:List Int) (hs:Sm l.length):YF l=some (checkR l):=by
 simp only [YF,sProduct_ok l hs,Qj,prodR,checkR]
 by_cases hn:negB l=true
 ·simp [hn,Qj]
 ·by_cases hl:l.length > 16
  ·have h16:(l.length:Int) > 16:=by omega
   by_cases hb:bigB l=true
   ·simp [hn,hb,hl,h16,Qj]
   ·by_cases hp:prodI l > 65536 <;> simp [hn,hb,hp,hl,h16,Qj]
  ·have h16:¬ (l.length:Int) > 16:=by omega
   by_cases hb:bigB l=true
   ·simp [hn,hb,hl,h16,Qj]
   ·by_cases hp:prodI l > 65536 <;> simp [hn,hb,hp,hl,h16,Qj]

theorem Cells_ok (l:List Int) (hs:Sm l.length):XA l=some (cellsR l):=by
 simp only [XA,Check_ok l hs,Qj,Product_ok l hs,cellsR]
 by_cases hc:checkR l=0
 ·have:(prodR l).1=prodI l:=by
   unfold checkR at hc
   unfold prodR
   by_cases hn:negB l=true
   ·simp [hn] at hc
   ·by_cases hb:bigB l=true
    ·simp [hn,hb] at hc
    ·by_cases hp:prodI l > 65536
     ·simp [hn,hb,hp] at hc
     ·simp [hn,hb,hp]
  simp [hc,this]
 ·simp [hc]
theorem setM_ok {l:List Int} {j:Nat} {v:Int} (h:j < l.length):setM l (j:Int) v=some (l.set j v):=by simp [setM,h]
theorem guardM_ok {p:Prop} [Decidable p] (h:p):Jb p=some ():=if_pos h
theorem mid_set {α:Type} {p s:List α} {x y:α}:(p++x::s).set p.length y=(p++[y])++s:=by simp
def vld:List Int→List Int→Bool
 | [],[]=>true
 | n::s,x::i=>(decide (0≤x) && decide (x < n)) && vld s i
 | _,_=>false
theorem vld_len:∀ {s i:List Int},vld s i=true→s.length=i.length
 | [],[],_=>rfl
 | n::s,x::i,h=>by
  simp only [vld,Bool.and_eq_true] at h
  simp [vld_len h.2]
 | [],_::_,h=>by cases h
 | _::_,[],h=>by cases h
def strd:List Int→List Int
 | []=>[]
 | _::s=>prodI s::strd s
theorem strd_len:∀ s:List Int,(strd s).length=s.length
 | []=>rfl
 | _::s=>by simp [strd,strd_len s]
theorem prod_le {a b:List Int} (ha:∀ n∈a,1≤n) (hb:∀ n∈b,1≤n):prodI b≤prodI (a++b):=by
 rw [prodI_append]
 have h1:=prodI_pos ha
 have h2:=prodI_pos hb
 have:=Int.mul_le_mul_of_nonneg_right h1 (show 0≤prodI b by omega)
 omega
theorem str_L1 (s v2:List Int) (hv2:v2.length=s.length) (hs:s.length≤1000) (hpos:∀ n∈s,1≤n) (hP:prodI s≤65536):∀ (m:Nat) (a b:List Int),a.length=m→s=a++b →
  Zp (s,v2,List.replicate a.length 0++strd b,prodI b,(b.length:Int))=some (strd s)
 | 0,a,b,ha,e=>by
  obtain rfl:=List.eq_nil_of_length_eq_zero ha
  rw [Zp]
  have:¬ ((b.length:Int) < (s.length:Int)):=by rw [e]; simp
  simp only [this,if_false]; rw [e]; rfl
 | m+1,a,b,ha,e=>by
  rcases List.eq_nil_or_concat a with rfl|⟨a',n,rfl⟩
  ·simp at ha
  ·simp only [List.concat_eq_append] at ha e ⊢
   have ha':a'.length=m:=by simpa using ha
   rw [Zp]
   have hl:s.length=a'.length+1+b.length:=by rw [e]; simp; omega
   have ht:((b.length:Int) < (s.length:Int)):=by omega
   have w:W (W ((s.length:Int) - 1) - (b.length:Int))=(a'.length:Int):=by
    rw [show W ((s.length:Int) - 1)=(s.length:Int) - 1 from W_ok (by omega) (by omega),W_ok (by omega) (by omega)]; omega
   have e':s=a'++(n::b):=by rw [e]; simp
   have hg:(List.replicate (a'++[n]).length (0:Int)++strd b).length=v2.length:=by simp [strd_len,hv2,hl]
   have er:List.replicate (a'++[n]).length (0:Int)++strd b=List.replicate a'.length 0++0::strd b:=by
    rw [List.length_append,List.length_singleton,List.replicate_succ',List.append_assoc]; rfl
   have hj:a'.length < (List.replicate (a'++[n]).length (0:Int)++strd b).length:=by simp; omega
   have hset:(List.replicate (a'++[n]).length (0:Int)++strd b).set a'.length (prodI b)=List.replicate a'.length 0++strd (n::b):=by
    rw [er]
    have:=mid_set (p:=List.replicate a'.length (0:Int)) (s:=strd b) (x:=0) (y:=prodI b)
    simp only [List.length_replicate] at this
    rw [this,← Qu]; rfl
   have hidx:idx s (a'.length:Int)=some n:=by rw [e']; exact QB
   have hposb:∀ k∈n::b,1≤k:=fun k hk=>hpos k (by rw [e']; exact List.mem_append_right _ hk)
   have hposa:∀ k∈a',1≤k:=fun k hk=>hpos k (by rw [e']; exact List.mem_append_left _ hk)
   have hle:prodI (n::b)≤65536:=by
    have:=prod_le hposa hposb
    rw [← e'] at this; omega
   have hge:=prodI_pos hposb
   have w2:W (prodI b * n)=prodI (n::b):=by rw [prodI_cons,Int.mul_comm,W_ok (by rw [← prodI_cons]; omega) (by rw [← prodI_cons]; omega)]
   have w3:W ((b.length:Int)+1)=((n::b).length:Int):=by rw [W_ok (by omega) (by omega)]; simp
   have ih:=str_L1 s v2 hv2 hs hpos hP m a' (n::b) ha' e'
   simp only [ht,if_true,w,guardM_ok hg,Qj,idx_ok hj,setM_ok hj,hset,hidx,w2,w3]
   exact ih
theorem checkR_ok {s:List Int} (h:checkR s=0):s.length≤16∧prodI s≤65536∧∀ n∈s,0≤n∧n≤65536:=by
 unfold checkR at h
 by_cases hn:negB s=true
 ·rw [if_pos hn] at h; cases h
 ·rw [if_neg hn] at h
  by_cases h2:s.length > 16∨bigB s=true∨prodI s > 65536
  ·rw [if_pos h2] at h; cases h
  ·have hn':negB s=false:=by simpa using hn
   have hb:bigB s=false:=by
    cases hb:bigB s with
    | false=>rfl
    | true=>exact absurd (Or.inr (Or.inl hb)) h2
   refine ⟨by omega,by omega,fun n hm=>⟨neg_all hn' n hm,big_all hb n hm⟩⟩
theorem gCells_ok (s:List Int) (hs:Sm s.length):Y4 s=some (cellsR s):=by
 simp only [Y4,shapeCheck_ok s hs,Qj,cellsR,sProduct_ok s hs]
 by_cases h:checkR s=0
 ·obtain ⟨h1,h2,h3⟩:=checkR_ok h
  have hn:negB s=false:=by
   cases hn:negB s with
   | false=>rfl
   | true=>unfold checkR at h; rw [if_pos hn] at h; cases h
  have hb:bigB s=false:=by
   cases hb:bigB s with
   | false=>rfl
   | true=>unfold checkR at h; rw [if_neg (by simp [hn]),if_pos (Or.inr (Or.inl hb))] at h; cases h
  simp [h,prodR,hn,hb,show ¬ prodI s > 65536 by omega]
 ·simp [h]
theorem strides_ok {s:List Int} (hc:checkR s=0) (hpos:∀ n∈s,1≤n):Yc s=some (strd s):=by
 obtain ⟨h1,h2,h3⟩:=checkR_ok hc
 have hp:=prodI_pos hpos
 have hm:makeM 8 (s.length:Int) (0:Int)=some (List.replicate s.length 0):=by
  have:((s.length:Int) * 8≤(room:Int)):=by
   have:(1000:Nat) * 8≤room:=by decide +kernel
   omega
  simp [makeM,this]; omega
 have e:=str_L1 s (List.replicate s.length 0) (by simp) (by omega) hpos h2 s.length s [] rfl (by simp)
 simp only [strd,List.append_nil,prodI_nil,List.length_nil,Int.natCast_zero] at e
 simp only [Yc,shapeCheck_ok s (Sm_of (show s.length≤1000 by omega)),Qj,hc,hm,gCells_ok s (Sm_of (show s.length≤1000 by omega)),cellsR,if_true,ne_eq,not_true,if_false,show ¬ prodI s=0 by omega,e]
 rw [guardM_ok (by simp [strd_len])]; rfl
theorem ite_some {α:Type} {p:Prop} [Decidable p] {a b:α}:(if p then some a else some b)=some (if p then a else b):=by split <;> rfl
theorem Qah {α:Type} {p s:List α} {x:α} (h:p.length+(x::s).length≤600):W ((p.length:Int)+1)=((p++[x]).length:Int):=by
 simp at h
 rw [W_ok (by omega) (by omega)]; simp
def pmI:List Int→Int
 | []=>1
 | n::s=>(if n < 1 then 1 else n) * pmI s
theorem small_L1 (most:Int) (hm:0≤most∧most≤1000000):∀ (s p:List Int) (v:Int),p.length+s.length≤600→(∀ n∈s,n≤65536)→1≤v→v≤100000000→∃ o,Zv (p++s,most,v,(p.length:Int))=some o∧(o=.inr ()→s=[]∨v * pmI s≤100 * most)
 | [],p,v,h,hd,h1,h2=>by
  refine ⟨.inr (),?_,fun _=>Or.inl rfl⟩; rw [Zv]; simp only [ZP,if_false]
 | x::s,p,v,h,hd,h1,h2=>by
  rw [Zv]
  have w1:W (100 * most)=100 * most:=W_ok (by omega) (by omega)
  have hx:=hd x (List.mem_cons_self ..)
  have hx2:1≤(if x < 1 then 1 else x)∧(if x < 1 then 1 else x)≤65536:=by split <;> omega
  have b1:=Int.mul_le_mul h2 hx2.2 (by omega) (by omega)
  have b2:=Int.mul_le_mul h1 hx2.1 (by omega) (by omega)
  have w2:W (v * (if x < 1 then 1 else x))=v * (if x < 1 then 1 else x):=W_ok (by omega) (by omega)
  simp only [Zq,if_true,QB,Qj,Qah h,w1,w2]
  by_cases hg:v * (if x < 1 then 1 else x) > 100 * most
  ·exact ⟨_,if_pos hg,fun h=>by cases h⟩
  ·obtain ⟨o,e,ho⟩:=small_L1 most hm s (p++[x]) (v * (if x < 1 then 1 else x)) (by simp at h ⊢; omega) (fun n hn=>hd n (List.mem_cons_of_mem _ hn)) (by omega) (by omega)
   rw [← Qu] at e
   rw [if_neg hg]
   refine ⟨o,e,fun h=>Or.inr ?_⟩
   rw [pmI,← Int.mul_assoc]
   rcases ho h with rfl|h
   ·rw [pmI,Int.mul_one]; omega
   ·exact h
def smallS (m:Int) (l:List Int):Prop:=l.length≤6∧checkR l=0∧prodI l≤m∧(l=[]∨pmI l≤100 * m)
theorem small_ok2 (l:List Int) (most:Int) (hm:0≤most∧most≤1000000) (hS:Sm l.length):∃ b,XB (l,most)=some b∧(b=true→smallS most l):=by
 simp only [XB,Check_ok _ hS,Cells_ok _ hS,Qj,ite_some]
 by_cases g1:(l.length:Int) > 6
 ·exact ⟨false,by simp [g1],fun h=>by cases h⟩
 by_cases g2:checkR l=0
 ·have hc:cellsR l=prodI l:=by rw [cellsR,if_pos g2]
  by_cases g3:cellsR l > most
  ·exact ⟨false,by simp [g1,g2,g3],fun h=>by cases h⟩
  ·obtain ⟨o,e,ho⟩:=small_L1 most hm l [] 1 (by simp; omega) (fun n hn=>((checkR_ok g2).2.2 n hn).2) (by omega) (by omega)
   have e':Zv (l,most,1,0)=some o:=e
   simp only [g1,g2,g3,e',if_false,bne_self_eq_false,Bool.false_eq_true,decide_false,Qj]
   cases o with
   | inl _=>exact ⟨_,rfl,fun h=>by cases h⟩
   | inr _=>exact ⟨_,rfl,fun _=>⟨by omega,g2,by omega,by rcases ho rfl with h|h; exact Or.inl h; exact Or.inr (by omega)⟩⟩
 ·exact ⟨false,by simp [g1,g2],fun h=>by cases h⟩
theorem prodI_zero_iff {s:List Int} (h:∀ n∈s,0≤n) (hz:prodI s≠0):∀ n∈s,1≤n:=fun n hn=>by
 have h0:=h n hn
 rcases Int.lt_or_eq_of_le h0 with g|g
 ·omega
 ·subst g; exact absurd (prodI_zero hn) hz
theorem app_le {α:Type} {b:Nat} {l es:List α} (h:l.length+es.length≤100000000) (hb:b≤1000):app b l es=some (l++es):=app_ok (by
 have h1:(l.length+es.length) * b≤100000000 * 1000:=Nat.mul_le_mul h hb
 have h2:100000000 * 1000≤room:=by decide +kernel
 omega)
def rowI (n:Int) (a:List Int):List (List Int):=(List.range n.toNat).map fun (k:Nat)=>a++[(k:Int)]
def extI (out:List (List Int)) (n:Int):List (List Int):=out.flatMap (rowI n)
def allL:List Int→List (List Int)
 | []=>[[]]
 | n::s=>(List.range n.toNat).flatMap fun (k:Nat)=>(allL s).map ((k:Int)::·)
theorem foldl_ext:∀ (s:List Int) (out:List (List Int)),s.foldl extI out=out.flatMap fun a=>(allL s).map (a++·)
 | [],out=>by
  simp only [List.foldl_nil,allL,List.map_cons,List.append_nil,List.map_nil]
  induction out with
  | nil=>rfl
  | cons a o ih=>rw [List.flatMap_cons,← ih]; rfl
 | n::s,out=>by
  rw [List.foldl_cons,foldl_ext s,extI,List.flatMap_assoc]
  congr 1
  funext a
  rw [rowI,List.flatMap_map,allL,List.map_flatMap]
  congr 1
  funext k
  rw [List.map_map]
  congr 1
  funext x
  simp
theorem allI_eq (s:List Int):s.foldl extI [[]]=allL s:=by rw [foldl_ext]; simp
def pm:List Int→Nat
 | []=>1
 | n::s=>max n.toNat 1 * pm s
theorem pm_pos:∀ s:List Int,1≤pm s
 | []=>Nat.le_refl _
 | n::s=>by
  have:=pm_pos s
  rw [pm]
  exact Nat.mul_le_mul (show 1≤max n.toNat 1 by omega) this
theorem rowI_len (n:Int) (a:List Int):(rowI n a).length=n.toNat:=by simp [rowI]
theorem extI_len (n:Int):∀ out:List (List Int),(extI out n).length=out.length * n.toNat
 | []=>by simp [extI]
 | a::o=>by
  have:=extI_len n o
  unfold extI at this ⊢
  rw [List.flatMap_cons,List.length_append,rowI_len,this,List.length_cons,Nat.add_mul,Nat.one_mul]; omega
theorem all_L3 (p:List Int) (i:Nat) (n:Int) (hi:idx p (i:Int)=some n) (out:List (List Int)) (k:Nat) (a:List Int) (hk:idx out (k:Int)=some a) (ha:a.length≤1000) (base:List (List Int)) :
  ∀ (m j:Nat),j+m=n.toNat→base.length+n.toNat≤1000000→Z7 (p,(i:Int),out,(k:Int),base++((List.range j).map fun (x:Nat)=>a++[(x:Int)]),(j:Int))=some (base++rowI n a)
 | 0,j,h1,h2=>by
  rw [Z7]
  have:¬ ((j:Int) < n):=by omega
  simp only [hi,Qj,this,if_false]
  rw [rowI,← h1]; rfl
 | m+1,j,h1,h2=>by
  rw [Z7]
  have ht:((j:Int) < n):=by omega
  have ih:=all_L3 p i n hi out k a hk ha base m (j+1) (by omega) h2
  have w:W ((j:Int)+1)=((j+1:Nat):Int):=W_succ (by omega)
  have a1:app 8 ([]:List Int) a=some a:=by rw [app_le (by simp; omega) (by omega)]; rfl
  have a2:app 8 a [(j:Int)]=some (a++[(j:Int)]):=app_le (by simp; omega) (by omega)
  have a3:app 24 (base++((List.range j).map fun (x:Nat)=>a++[(x:Int)])) [a++[(j:Int)]]=some (base++((List.range (j+1)).map fun (x:Nat)=>a++[(x:Int)])):=by
   rw [app_le (by simp; omega) (by omega),List.range_succ]; simp
  simp only [hi,Qj,ht,if_true,hk,a1,a2,a3,w,ih]
theorem all_L2 (p:List Int) (i:Nat) (n:Int) (hi:idx p (i:Int)=some n):∀ (s q:List (List Int)),(∀ a∈s,a.length≤1000)→((q++s).length+1) * (max n.toNat 1)≤1000000 →
  ZU (q++s,p,(i:Int),extI q n,(q.length:Int))=some (extI (q++s) n)
 | [],q,h1,h2=>by
  rw [ZU]; simp only [List.append_nil,Int.lt_irrefl,if_false]
 | a::s,q,h1,h2=>by
  rw [ZU]
  have hm:(q++a::s).length+1≤1000000:=Nat.le_trans (Nat.le_mul_of_pos_right _ (by omega)) h2
  have hb:(extI q n).length+n.toNat≤1000000:=by
   rw [extI_len]
   have e1:q.length * n.toNat+n.toNat=(q.length+1) * n.toNat:=by rw [Nat.add_mul,Nat.one_mul]
   rw [e1]
   refine Nat.le_trans (Nat.mul_le_mul ?_ ?_) h2
   ·simp
   ·omega
  have e:=all_L3 p i n hi (q++a::s) q.length a QB (h1 a (List.mem_cons_self ..)) (extI q n) n.toNat 0 (by omega) hb
  have ih:=all_L2 p i n hi s (q++[a]) (fun x hx=>h1 x (List.mem_cons_of_mem _ hx)) (by rw [← Qu]; exact h2)
  rw [← Qu] at ih
  simp only [List.range_zero,List.map_nil,List.append_nil,Int.natCast_zero] at e
  have ee:extI (q++[a]) n=extI q n++rowI n a:=by unfold extI; rw [List.flatMap_append]; simp
  simp only [Zq,if_true,e,Qj,mid_W (Sm_of (show (q++a::s).length≤1000000 by omega)),← ee,ih]
theorem mem_ext_len {out:List (List Int)} {n:Int} {m:Nat} (h:∀ a∈out,a.length=m):∀ a∈extI out n,a.length=m+1:=fun a ha=>by
 unfold extI at ha
 obtain ⟨b,hb,hc⟩:=List.mem_flatMap.1 ha
 unfold rowI at hc
 obtain ⟨k,_,rfl⟩:=List.mem_map.1 hc
 simp [h b hb]
theorem all_L1:∀ (s p:List Int) (out:List (List Int)),(p++s).length≤900→(∀ a∈out,a.length=p.length)→(out.length+1) * pm s≤500000→ZT (p++s,out,(p.length:Int))=some (s.foldl extI out)
 | [],p,out,hs,h1,h2=>by
  rw [ZT]; simp only [ZP,if_false,List.foldl_nil]
 | n::s,p,out,hs,h1,h2=>by
  rw [ZT]
  have hp:=pm_pos s
  rw [pm,← Nat.mul_assoc] at h2
  have b1:(out.length+1) * max n.toNat 1≤500000:=Nat.le_trans (Nat.le_mul_of_pos_right _ hp) h2
  have e:ZU (out,p++n::s,(p.length:Int),[],0)=some (extI out n):=all_L2 (p++n::s) p.length n QB out [] (fun a ha=>by have:=h1 a ha; simp at hs; omega) (Nat.le_trans b1 (by omega))
  have ih:=all_L1 s (p++[n]) (extI out n) (by rw [← Qu]; exact hs) (fun a ha=>by rw [mem_ext_len h1 a ha]; simp) (by
   refine Nat.le_trans (Nat.mul_le_mul_right _ ?_) h2
   rw [extI_len,Nat.add_mul,Nat.one_mul]
   have:=Nat.mul_le_mul_left out.length (show n.toNat≤max n.toNat 1 by omega)
   omega)
  rw [← Qu] at ih
  simp only [Zq,if_true,e,Qj,mid_W (Sm_of hs),ih,List.foldl_cons]
theorem All_ok {s:List Int} (hs:s.length≤900) (h:pm s≤250000):YO s=some (allL s):=by
 have e:ZT (s,[[]],0)=some (s.foldl extI [[]]):=all_L1 s [] [[]] hs (by simp) (by simpa using by omega)
 simp only [YO,e,Qj,allI_eq]

theorem mem_allL:∀ {s x:List Int},x∈allL s↔vld s x=true
 | [],x=>by
  cases x with
  | nil=>simp [allL,vld]
  | cons a x=>simp [allL,vld]
 | n::s,x=>by
  rw [allL,List.mem_flatMap]
  constructor
  ·rintro ⟨k,hk,h⟩
   obtain ⟨y,hy,rfl⟩:=List.mem_map.1 h
   have:=List.mem_range.1 hk
   simp only [vld,Bool.and_eq_true,decide_eq_true_eq]
   exact ⟨by omega,mem_allL.1 hy⟩
  ·intro h
   cases x with
   | nil=>cases h
   | cons a x =>
    simp only [vld,Bool.and_eq_true,decide_eq_true_eq] at h
    refine ⟨a.toNat,List.mem_range.2 (by omega),List.mem_map.2 ⟨x,mem_allL.2 h.2,?_⟩⟩
    rw [Int.toNat_of_nonneg h.1.1]
theorem flat_len {α:Type} (f:Nat→List α) (c:Nat) (h:∀ k,(f k).length=c):∀ m:Nat,((List.range m).flatMap f).length=m * c
 | 0=>by simp
 | m+1=>by rw [List.range_succ,List.flatMap_append,List.length_append,flat_len f c h m]; simp [h,Nat.add_mul]
theorem allL_len:∀ {s:List Int},(∀ n∈s,0≤n)→((allL s).length:Int)=prodI s
 | [],_=>by simp [allL,prodI]
 | n::s,h=>by
  have ih:=allL_len (s:=s) fun m hm=>h m (List.mem_cons_of_mem _ hm)
  have h0:=h n (List.mem_cons_self ..)
  rw [allL,flat_len _ (allL s).length (fun k=>by simp),Int.natCast_mul,ih,prodI_cons,Int.toNat_of_nonneg h0]
theorem flat_get {α:Type} (f:Nat→List α) (c:Nat) (h:∀ k,(f k).length=c) (hc:1≤c):∀ (m j:Nat),j < m * c→((List.range m).flatMap f)[j]? = (f (j / c))[j % c]?
 | 0,j,hj=>by simp at hj
 | m+1,j,hj=>by
  rw [List.range_succ,List.flatMap_append,List.getElem?_append]
  have hl:=flat_len f c h m
  rw [hl]
  by_cases hlt:j < m * c
  ·rw [if_pos hlt]; exact flat_get f c h hc m j hlt
  ·rw [if_neg hlt]
   have e1:j / c=m:=Nat.div_eq_of_lt_le (by omega) (by omega)
   have e2:j % c=j - m * c:=by
    have:=Nat.div_add_mod j c
    rw [e1,Nat.mul_comm] at this
    omega
   rw [e1,e2]; simp
theorem pm_pmI:∀ s:List Int,((pm s:Nat):Int)=pmI s
 | []=>rfl
 | n::s=>by
  rw [pm,pmI,Int.natCast_mul,pm_pmI s]
  congr 1
  split <;> omega
theorem small_pm {m:Int} {s:List Int} (h:smallS m s) (hm:1≤m):(pm s:Int)≤100 * m:=by
 rcases h.2.2.2 with rfl|h
 ·simp [pm]; omega
 ·rw [pm_pmI]; exact h
theorem small_All {m:Int} {s:List Int} (h:smallS m s) (hm:1≤m∧m≤2500):YO s=some (allL s):=All_ok (by have:=h.1; omega) (by have:=small_pm h hm.1; omega)

def wkB:List Int→List Int→List Int→Prop
 | [],[],[]=>True
 | n::s,l::lo,h::hi=>(0≤l∧l≤h∧h≤n)∧wkB s lo hi
 | _,_,_=>False
def okB:List Int→List Int→List Int→Prop
 | [],[],[]=>True
 | n::s,l::lo,h::hi=>(0≤l∧l < h∧h≤n)∧okB s lo hi
 | _,_,_=>False
def fullB:List Int→List Int→Bool
 | l::lo,h::hi=>decide (l < h) && fullB lo hi
 | _,_=>true
def difL:List Int→List Int→List Int
 | l::lo,h::hi=>(h - l)::difL lo hi
 | _,_=>[]
theorem wk_len:∀ {s lo hi:List Int},wkB s lo hi→lo.length=s.length∧hi.length=s.length
 | [],[],[],_=>⟨rfl,rfl⟩
 | n::s,l::lo,h::hi,H=>by have:=wk_len H.2; simp [this]
 | [],_::_,_,h=>by simp [wkB] at h
 | [],[],_::_,h=>by simp [wkB] at h
 | _::_,[],_,h=>by simp [wkB] at h
 | _::_,_::_,[],h=>by simp [wkB] at h
theorem wk_ok:∀ {s lo hi:List Int},wkB s lo hi→fullB lo hi=true→okB s lo hi
 | [],[],[],_,_=>trivial
 | n::s,l::lo,h::hi,H,f=>by
  simp only [fullB,Bool.and_eq_true,decide_eq_true_eq] at f
  obtain ⟨⟨k1,k2,k3⟩,k4⟩:=H
  exact ⟨⟨k1,f.1,k3⟩,wk_ok k4 f.2⟩
 | [],_::_,_,h,_=>by simp [wkB] at h
 | [],[],_::_,h,_=>by simp [wkB] at h
 | _::_,[],_,h,_=>by simp [wkB] at h
 | _::_,_::_,[],h,_=>by simp [wkB] at h
theorem dif_le:∀ {s lo hi:List Int},okB s lo hi→1≤prodI (difL lo hi)∧prodI (difL lo hi)≤prodI s
 | [],[],[],_=>⟨Int.le_refl _,Int.le_refl _⟩
 | n::s,l::lo,h::hi,H=>by
  obtain ⟨⟨k1,k2,k3⟩,k4⟩:=H
  obtain ⟨i1,i2⟩:=dif_le k4
  rw [difL,prodI_cons,prodI_cons]
  have a:=Int.mul_le_mul (show 1≤h - l by omega) i1 (by omega) (by omega)
  have b:=Int.mul_le_mul (show h - l≤n by omega) i2 (by omega) (by omega)
  omega
 | [],_::_,_,h=>by simp [okB] at h
 | [],[],_::_,h=>by simp [okB] at h
 | _::_,[],_,h=>by simp [okB] at h
 | _::_,_::_,[],h=>by simp [okB] at h
theorem gC_L1:∀ (lo hi pl ph:List Int),pl.length=ph.length→lo.length=hi.length→pl.length+lo.length≤600→Zb (pl++lo,ph++hi,(pl.length:Int))=some (if fullB lo hi then .inr () else .inl ())
 | [],[],pl,ph,h1,h2,h=>by
  rw [Zb]
  simp only [ZP,if_false]; rfl
 | l::lo,h::hi,pl,ph,h1,h2,hl=>by
  rw [Zb]
  have i2:idx (ph++h::hi) (pl.length:Int)=some h:=by rw [h1]; exact QB
  have e:=gC_L1 lo hi (pl++[l]) (ph++[h]) (by simp [h1]) (by simpa using h2) (by simp at hl ⊢; omega)
  rw [← Qu,← Qu] at e
  simp only [Zq,if_true,i2,QB,Qj,Qah hl,e,fullB]
  by_cases g:l < h
  ·rw [if_neg (show ¬ l≥h by omega)]; simp only [g,decide_true,Bool.true_and]
  ·rw [if_pos (show l≥h by omega)]; simp only [g,decide_false,Bool.false_and]; rfl
 | [],_::_,_,_,_,h,_=>by cases h
 | _::_,[],_,_,_,h,_=>by cases h
theorem okB_pos:∀ {s lo hi:List Int},okB s lo hi→∀ n∈s,1≤n
 | [],_,_,_,n,hn=>by simp at hn
 | m::s,l::lo,h::hi,H,n,hn=>by
  obtain ⟨⟨k1,k2,k3⟩,k4⟩:=H
  rcases List.mem_cons.1 hn with rfl|hn
  ·omega
  ·exact okB_pos k4 n hn
 | _::_,[],_,h,_,_=>by simp [okB] at h
 | _::_,_::_,[],h,_,_=>by simp [okB] at h
theorem gC_L2:∀ (s lo hi pl ph:List Int) (v:Int),okB s lo hi→pl.length=ph.length→pl.length+lo.length≤600→1≤v→v * prodI s≤65536→Zc (pl++lo,ph++hi,v,(pl.length:Int))=some (v * prodI (difL lo hi))
 | [],[],[],pl,ph,v,H,h1,h,hv,hP=>by
  rw [Zc]
  simp only [ZP,if_false,difL,prodI_nil,Int.mul_one]
 | n::s,l::lo,h::hi,pl,ph,v,H,h1,hl,hv,hP=>by
  rw [Zc]
  have hps:=prodI_pos (fun m hm=>okB_pos H m (List.mem_cons_of_mem _ hm))
  obtain ⟨⟨k1,k2,k3⟩,k4⟩:=H
  have i2:idx (ph++h::hi) (pl.length:Int)=some h:=by rw [h1]; exact QB
  rw [prodI_cons,← Int.mul_assoc] at hP
  have b0:v * (h - l)≤v * n:=Int.mul_le_mul_of_nonneg_left (by omega) (by omega)
  have b1:1≤v * (h - l):=by have:=Int.mul_le_mul hv (show 1≤h - l by omega) (by omega) (by omega); omega
  have b2:(v * n) * 1≤v * n * prodI s:=Int.mul_le_mul_of_nonneg_left hps (by omega)
  have b3:1 * n≤v * n:=Int.mul_le_mul_of_nonneg_right hv (by omega)
  have b4:v * (h - l) * prodI s≤v * n * prodI s:=Int.mul_le_mul_of_nonneg_right b0 (by omega)
  have w1:W (h - l)=h - l:=W_ok (by omega) (by omega)
  have w2:W (v * (h - l))=v * (h - l):=W_ok (by omega) (by omega)
  have e:=gC_L2 s lo hi (pl++[l]) (ph++[h]) (v * (h - l)) k4 (by simp [h1]) (by simp at hl ⊢; omega) b1 (by omega)
  rw [← Qu,← Qu] at e
  simp only [Zq,if_true,i2,QB,Qj,Qah hl,w1,w2,e,difL,prodI_cons,Int.mul_assoc]
 | [],_::_,_,_,_,_,h,_,_,_,_=>by simp [okB] at h
 | [],[],_::_,_,_,_,h,_,_,_,_=>by simp [okB] at h
 | _::_,[],_,_,_,_,h,_,_,_,_=>by simp [okB] at h
 | _::_,_::_,[],_,_,_,h,_,_,_,_=>by simp [okB] at h
def cntB (lo hi:List Int):Int:=if fullB lo hi then prodI (difL lo hi) else 0
theorem gCount {s lo hi:List Int} (hP:prodI s≤65536) (h1:lo.length=hi.length) (hl:lo.length≤600) (H:fullB lo hi=true→okB s lo hi):Yk (lo,hi)=some (cntB lo hi):=by
 have e1:=gC_L1 lo hi [] [] rfl h1 (by simpa using hl)
 simp only [List.nil_append,List.length_nil,Int.natCast_zero] at e1
 unfold Yk cntB
 by_cases f:fullB lo hi=true
 ·have e2:=gC_L2 s lo hi [] [] 1 (H f) rfl (by simpa using hl) (by omega) (by omega)
  simp only [List.nil_append,List.length_nil,Int.natCast_zero,Int.one_mul] at e2
  simp only [e1,f,if_true,Qj,e2]
 ·simp only [e1,f,if_false,Qj]; rfl
theorem cnt_full {s lo hi:List Int} (H:fullB lo hi=true→okB s lo hi):(decide (cntB lo hi > 0))=fullB lo hi:=by
 unfold cntB
 by_cases f:fullB lo hi=true
 ·have:=(dif_le (H f)).1
  rw [if_pos f,f]; exact decide_eq_true (by omega)
 ·rw [if_neg f,(Bool.not_eq_true _).mp f]; decide
theorem cnt_zero {s lo hi:List Int} (H:fullB lo hi=true→okB s lo hi):(cntB lo hi == 0)=!fullB lo hi:=by
 unfold cntB
 by_cases f:fullB lo hi=true
 ·have:=(dif_le (H f)).1
  rw [if_pos f,f]; simp; omega
 ·rw [if_neg f,(Bool.not_eq_true _).mp f]; decide
def fullP (x:Qa):Bool:=fullB x.box.lo x.box.hi
theorem kept_L1 {s:List Int} (hP:prodI s≤65536) (hs:s.length≤600):∀ (l p:List Qa) (g:Nat) (out:List Qa),p.length+l.length≤100000→out.length≤p.length→(∀ x∈l,wkB s x.box.lo x.box.hi)→∃ g',Qt (p++l,g,out,(p.length:Int))=some (g',out++l.filter fullP)
 | [],p,g,out,h,ho,hw=>by
  rw [Qt]
  simp only [ZP,if_false]
  exact ⟨g,by simp⟩
 | x::l,p,g,out,h,ho,hw=>by
  rw [Qt]
  have hx:=hw x (List.mem_cons_self ..)
  obtain ⟨l1,l2⟩:=wk_len hx
  have hc:=gCount hP (l1.trans l2.symm) (by omega) (wk_ok hx)
  have hW:W ((p.length:Int)+1)=((p++[x]).length:Int):=by simp at h; rw [W_ok (by omega) (by omega)]; simp
  simp only [Zq,if_true,QB,Qj,Xn,Xj,hc,cnt_full (wk_ok hx),hW]
  by_cases f:fullB x.box.lo x.box.hi=true
  ·obtain ⟨g',e⟩:=kept_L1 hP hs l (p++[x]) (g+1) (out++[x]) (by simp at h ⊢; omega) (by simp; omega) (fun y hy=>hw y (List.mem_cons_of_mem _ hy))
   rw [← Qu] at e
   refine ⟨g',?_⟩
   rw [if_pos f,app_le (by simp at h ⊢; omega) (by omega),Qj,e,List.filter_cons_of_pos (by exact f)]
   simp
  ·obtain ⟨g',e⟩:=kept_L1 hP hs l (p++[x]) g out (by simp at h ⊢; omega) (by simp; omega) (fun y hy=>hw y (List.mem_cons_of_mem _ hy))
   rw [← Qu] at e
   refine ⟨g',?_⟩
   rw [if_neg f,e,List.filter_cons_of_neg (by exact f)]
theorem cmpL_tot:∀ {a b:List Int},a≠b→¬ cmpL a b < 0→cmpL b a < 0
 | [],[],h,_=>absurd rfl h
 | [],_::_,_,h=>by simp [cmpL] at h
 | _::_,[],_,_=>by simp [cmpL]
 | x::a,y::b,h,g=>by
  simp only [cmpL] at g ⊢
  split at g
  ·exact absurd (show (-1:Int) < 0 by decide) g
  ·split at g
   ·rw [if_pos (by omega)]; decide
   ·have e:x=y:=by omega
    subst e
    rw [if_neg (by omega),if_neg (by omega)]
    exact cmpL_tot (fun e=>h (by rw [e])) g
theorem ins_head (x:Qa):∀ l:List Qa,∃ z m,insT x l=z::m∧(z=x∨∃ m',l=z::m')
 | []=>⟨x,[],rfl,.inl rfl⟩
 | y::l=>by
  rw [insT]
  split
  ·exact ⟨y,_,rfl,.inr ⟨l,rfl⟩⟩
  ·exact ⟨x,_,rfl,.inl rfl⟩
theorem ins_strict (x:Qa):∀ l:List Qa,strictT l=true→(∀ y∈l,y.box.lo≠x.box.lo)→strictT (insT x l)=true
 | [],_,_=>rfl
 | y::l,h,hn=>by
  have hl:strictT l=true:=by
   cases l with
   | nil=>rfl
   | cons z l=>simp only [strictT,Bool.and_eq_true] at h; exact h.2
  rw [insT]
  by_cases g:cmpL y.box.lo x.box.lo < 0
  ·rw [if_pos g]
   have ih:=ins_strict x l hl (fun z hz=>hn z (List.mem_cons_of_mem _ hz))
   obtain ⟨z,m,e,hz⟩:=ins_head x l
   rw [e] at ih ⊢
   simp only [strictT,Bool.and_eq_true,decide_eq_true_eq]
   refine ⟨?_,ih⟩
   rcases hz with rfl|⟨m',rfl⟩
   ·exact g
   ·simp only [strictT,Bool.and_eq_true,decide_eq_true_eq] at h; exact h.1
  ·rw [if_neg g]
   simp only [strictT,Bool.and_eq_true,decide_eq_true_eq]
   exact ⟨cmpL_tot (hn y (List.mem_cons_self ..)) g,h⟩
theorem sort_strict:∀ {l:List Qa},l.Pairwise (fun a b=>a.box.lo≠b.box.lo)→strictT (sortT l)=true
 | [],_=>rfl
 | x::l,h=>by
  obtain ⟨h1,h2⟩:=List.pairwise_cons.1 h
  exact ins_strict x (sortT l) (sort_strict h2) (fun y hy=>(h1 y ((sortT_perm l).mem_iff.1 hy)).symm)
theorem listed_ok {s:List Int} (hP:prodI s≤65536) (hs:s.length≤600) {l:List Qa} (hl:l.length≤100000) (hw:∀ x∈l,wkB s x.box.lo x.box.hi) (hd:(l.filter fullP).Pairwise fun a b=>a.box.lo≠b.box.lo):QZ l=some (sortT (l.filter fullP)):=by
 obtain ⟨g',e⟩:=kept_L1 hP hs l [] 0 [] (by simpa using hl) (by simp) hw
 have e':Qt (l,0,[],0)=some (g',l.filter fullP):=e
 have hf:=List.length_filter_le fullP l
 have es:sortM (l.filter fullP)=some (sortT (l.filter fullP)):=by
  refine if_pos ⟨by omega,?_,sort_strict hd⟩
  rw [List.all_eq_true]
  intro x hx
  have:=(wk_len (hw x (List.mem_filter.1 hx).1)).1
  exact decide_eq_true (by omega)
 simp only [QZ,Zs,e',Qj,es]
 rw [guardM_ok (sortT_perm _).length_eq]; rfl
theorem listed_one {s:List Int} (hP:prodI s≤65536) (hs:s.length≤600) (x:Qa) (hw:wkB s x.box.lo x.box.hi):QZ [x]=some (if fullP x then [x] else []):=by
 rw [listed_ok hP hs (l:=[x]) (by simp) (fun y hy=>by simp at hy; rw [hy]; exact hw) (by by_cases f:fullP x=true <;> simp [List.filter_cons,f])]
 by_cases f:fullP x=true
 ·rw [List.filter_cons_of_pos f,if_pos f]; rfl
 ·rw [List.filter_cons_of_neg f,if_neg f]; rfl
theorem listed_nil:QZ []=some []:=listed_ok (s:=[]) (by decide) (by decide) (l:=[]) (by simp) (by simp) .nil
theorem W_in {n:Int} (h1:-1000000000000≤n) (h2:n≤1000000000000):W n=n:=W_ok (by omega) (by omega)
theorem W_nat {n:Nat} (h:n≤1000000):W ((n:Int)+1)=((n+1:Nat):Int):=by rw [W_in (by omega) (by omega)]; omega
theorem idx_of {α:Type} {l:List α} {i:Nat} {x:α} (h:l[i]? = some x):idx l (i:Int)=some x:=by
 obtain ⟨h1,h2⟩:=List.getElem?_eq_some_iff.1 h
 rw [idx_ok h1,h2]
theorem make_ok (s:List Int) (h:s.length≤600):makeM 8 (s.length:Int) (0:Int)=some (List.replicate s.length 0):=by
 have:((s.length:Int) * 8≤(room:Int)):=by
  have:(1000:Nat) * 8≤room:=by decide +kernel
  omega
 simp [makeM,this]; omega
theorem whole_ok (s:List Int) (h:s.length≤600):∃ g,ZR s=some (g,List.replicate s.length 0,s):=by
 refine ⟨mg (List.replicate s.length (0:Int)),?_⟩
 simp only [ZR,make_ok s h,Qj,Qs,app_le (b:=8) (l:=([]:List Int)) (es:=s) (by simp; omega) (by omega),List.nil_append]
def wholeP (b:Int) (s:List Int):Qa:=⟨⟨List.replicate s.length 0,s⟩,⟨2,b,0,strd s,0,0,0⟩⟩
def fillP (s:List Int):Qa:=⟨⟨List.replicate s.length 0,s⟩,⟨1,0,0,[],0,0,0⟩⟩
theorem wk_whole:∀ {s:List Int},(∀ n∈s,0≤n)→wkB s (List.replicate s.length 0) s
 | [],_=>trivial
 | n::s,h=>by
  rw [List.length_cons,List.replicate_succ]
  have:=h n (List.mem_cons_self ..)
  exact ⟨⟨Int.le_refl _,this,Int.le_refl _⟩,wk_whole fun m hm=>h m (List.mem_cons_of_mem _ hm)⟩
theorem full_whole:∀ {s:List Int},(∀ n∈s,1≤n)→fullB (List.replicate s.length 0) s=true
 | [],_=>rfl
 | n::s,h=>by
  rw [List.length_cons,List.replicate_succ,fullB,full_whole fun m hm=>h m (List.mem_cons_of_mem _ hm)]
  have:=h n (List.mem_cons_self ..)
  simp; omega
theorem full_prod {s:List Int} (h:∀ n∈s,0≤n):fullB (List.replicate s.length 0) s=if prodI s=0 then false else true:=by
 by_cases z:prodI s=0
 ·rw [if_pos z]
  cases f:fullB (List.replicate s.length 0) s with
  | false=>rfl
  | true =>
   have:=prodI_pos (okB_pos (wk_ok (wk_whole h) f))
   omega
 ·rw [if_neg z,full_whole (prodI_zero_iff h z)]
theorem pWhole_ok (b:Int) {s:List Int} (hc:checkR s=0):YC (b,s)=some (if prodI s=0 then [] else [wholeP b s]):=by
 obtain ⟨h1,h2,h3⟩:=checkR_ok hc
 obtain ⟨g,eg⟩:=whole_ok s (by omega)
 have hn:∀ n∈s,0≤n:=fun n hn=>(h3 n hn).1
 have hS:Sm s.length:=Sm_of (show s.length≤1000 by omega)
 unfold YC
 simp only [eg,Qj,XD]
 by_cases z:prodI s=0
 ·have es:Yc s=some (List.replicate s.length 0):=by
   simp only [Yc,shapeCheck_ok s hS,Qj,hc,ne_eq,not_true,if_false,make_ok s (by omega),gCells_ok s hS,cellsR,z,if_true]
  simp only [es,Qj]
  rw [listed_one h2 (by omega) _ (wk_whole hn),Qj,fullP,full_prod hn,if_pos z]
  simp [z]
 ·simp only [strides_ok hc (prodI_zero_iff hn z),Qj]
  rw [listed_one h2 (by omega) _ (wk_whole hn),Qj,fullP,full_prod hn,if_neg z,if_neg z]
  simp [wholeP]
theorem pFilled_ok {s:List Int} (hc:checkR s=0):Yq s=some (if prodI s=0 then [] else [fillP s]):=by
 obtain ⟨h1,h2,h3⟩:=checkR_ok hc
 obtain ⟨g,eg⟩:=whole_ok s (by omega)
 have hn:∀ n∈s,0≤n:=fun n hn=>(h3 n hn).1
 unfold Yq
 simp only [eg,Qj]
 rw [listed_one h2 (by omega) _ (wk_whole hn),Qj,fullP,full_prod hn]
 by_cases z:prodI s=0 <;> simp [z,fillP]
theorem awake_ok:Y1 ()=some true:=by
 have e1:YC (2,[3])=some [⟨⟨[0],[3]⟩,⟨2,2,0,[1],0,0,0⟩⟩]:=by
  rw [pWhole_ok 2 (s:=[3]) (by decide)]; rfl
 have e2:ZL ([⟨⟨[0],[3]⟩,⟨2,2,0,[1],0,0,0⟩⟩],[3],[5],[-1])=some QH:=if_pos rfl
 have e3:YK (QH,[2])=some (⟨false,2,1⟩,true):=if_pos rfl
 have e4:YK (QH,[5])=some (⟨false,0,0⟩,false):=(if_neg (by decide)).trans (if_pos rfl)
 have e5:Yl ([5],QH)=some true:=if_pos rfl
 have e6:Yl ([6],QH)=some false:=(if_neg (by decide)).trans (if_pos rfl)
 have e7:Yq [0]=some []:=by rw [pFilled_ok (s:=[0]) (by decide)]; rfl
 have e8:XX (QH,0,2,5)=some XG:=if_pos rfl
 have e9:ZS (QH,0,5)=some YU:=if_pos rfl
 have e10:Xc (QH,[0],[5])=some YV:=if_pos rfl
 have e11:Xm (QH,QH,0,5)=some Xd:=if_pos rfl
 have l1:((QH.length:Int)=3):=rfl
 have l2:idx QH 1=some ⟨⟨[1],[4]⟩,⟨2,2,-1,[1],0,0,0⟩⟩:=rfl
 have l3:((XG.length:Int)=4):=rfl
 have l4:((YU.length:Int)=3):=rfl
 have l5:((YV.length:Int)=3):=rfl
 have l6:((Xd.length:Int)=6):=rfl
 unfold Y1
 simp only [e1,e2,e3,e4,Qj,l1,ne_eq,not_true,if_false,l2,bne_self_eq_false,Bool.false_eq_true,e5,if_true,e6,Bool.not_false,beq_self_eq_true,e7,List.length_nil,Int.natCast_zero,e8,l3,e9,l4,e10,l5,e11,l6]
 rfl
def bkP (x:Qa):Qc:=⟨⟨x.box.lo,x.box.hi⟩,⟨x.access.kind,x.access.buffer,x.access.base,x.access.strides,x.access.start,x.access.step,x.access.mod⟩⟩
theorem rwhole_ok (s:List Int) (h:s.length≤600):XC s=some ⟨List.replicate s.length 0,s⟩:=by
 simp only [XC,make_ok s h,Qj]
theorem empty_L1:∀ (s p:List Int),p.length+s.length≤600→Q2 (⟨List.replicate (p.length+s.length) 0,p++s⟩,(p.length:Int))=some (if s.any (fun n=>decide (n≤0)) then .inl () else .inr ())
 | [],p,h=>by
  rw [Q2]
  have:¬ ((p.length:Int) < ((List.replicate (p.length+([]:List Int).length) (0:Int)).length:Int)):=by simp
  simp only [this,if_false]; rfl
 | x::s,p,h=>by
  rw [Q2]
  have h1:((p.length:Int) < ((List.replicate (p.length+(x::s).length) (0:Int)).length:Int)):=by simp; omega
  have h2:idx (List.replicate (p.length+(x::s).length) (0:Int)) (p.length:Int)=some 0:=by rw [idx_ok (by simp)]; simp
  have e:=empty_L1 s (p++[x]) (by simp at h ⊢; omega)
  rw [← Qu,show (p++[x]).length+s.length=p.length+(x::s).length by simp; omega] at e
  simp only [h1,if_true,h2,QB,Qj,Qah h,e,List.any_cons]
  by_cases g:x≤0
  ·have g':(0:Int)≥x:=g
   simp only [g',if_true,g,decide_true,Bool.true_or]
  ·have g':¬ (0:Int)≥x:=g
   simp only [g',if_false,g,decide_false,Bool.false_or]
theorem put_ok {s:List Int} (hc:checkR s=0) (a:Qw):Jx ([],⟨⟨List.replicate s.length 0,s⟩,a⟩)=some (if prodI s=0 then [] else [⟨⟨List.replicate s.length 0,s⟩,a⟩]):=by
 obtain ⟨h1,h2,h3⟩:=checkR_ok hc
 have e1:=empty_L1 s [] (by simp; omega)
 simp only [List.nil_append,List.length_nil,Nat.zero_add,Int.natCast_zero] at e1
 unfold Jx YE
 dsimp only
 by_cases g:s.any (fun n=>decide (n≤0))=true
 ·obtain ⟨n,hn,h0⟩:=List.any_eq_true.1 g
  have:n=0:=by have:=h3 n hn; have:=of_decide_eq_true h0; omega
  subst this
  simp only [e1,g,if_true,Qj,prodI_zero hn]
 ·have hp:∀ n∈s,1≤n:=fun n hn=>by
   rcases Int.lt_or_le 0 n with h|h
   ·omega
   ·exact absurd (List.any_eq_true.2 ⟨n,hn,decide_eq_true h⟩) g
  have hpr:=prodI_pos hp
  simp only [e1,g,if_false,Qj,Bool.false_eq_true]
  rw [YM]
  have l0:¬ ((0:Int) < (([]:List Qc).length:Int)):=by simp
  have s0:sub ([]:List Qc) 0 0=some []:=rfl
  have s1:sub ([]:List Qc) 0 (([]:List Qc).length:Int)=some []:=rfl
  simp only [l0,if_false,Qj,Bool.false_eq_true,s0,s1]
  rw [app_le (by simp) (by omega),Qj,app_le (by simp) (by omega),Qj,app_le (by simp) (by omega),Qj,if_neg (by omega)]
  rfl
theorem rFilled_ok {s:List Int} (hc:checkR s=0):YL s=some (if prodI s=0 then [] else [bkP (fillP s)]):=by
 obtain ⟨h1,h2,h3⟩:=checkR_ok hc
 unfold YL
 simp only [rwhole_ok s (by omega),Qj,put_ok hc]
 rfl
theorem Same_nil:Yg ([],[])=some true:=by
 unfold Yg
 dsimp only
 rw [ZW]
 rfl
theorem Same_one (x:Qc) (h1:Sm x.box.lo.length) (h2:Sm x.box.hi.length) (h3:Sm x.access.strides.length):Yg ([x],[x])=some true:=by
 unfold Yg
 dsimp only
 rw [ZW]
 have i0:idx [x] 0=some x:=rfl
 have l0:((0:Int) < (([x]:List Qc).length:Int)):=by simp
 have l1:¬ ((1:Int) < (([x]:List Qc).length:Int)):=by simp
 have w:W (0+1)=1:=by decide
 simp only [ne_eq,not_true,if_false,l0,if_true,i0,Qj,JH,JI,Equal_ok _ _ h1,Equal_ok _ _ h2,Equal_ok _ _ h3,decide_true,beq_self_eq_true,Bool.true_eq_false,Bool.not_true,Bool.false_eq_true,w]
 rw [ZW]
 simp only [l1,if_false,Qj]

theorem Back_L1:∀ (l p:List Qa),p.length+l.length≤100000→ZK (p++l,p.map bkP,(p.length:Int))=some ((p++l).map bkP)
 | [],p,h=>by
  rw [ZK]
  simp only [ZP,if_false]; simp only [List.append_nil]
 | x::l,p,h=>by
  rw [ZK]
  have hW:W ((p.length:Int)+1)=((p++[x]).length:Int):=by simp at h; rw [W_in (by omega) (by omega)]; simp
  have ih:=Back_L1 l (p++[x]) (by simp at h ⊢; omega)
  rw [← Qu] at ih
  have ha:app 120 (p.map bkP) [bkP x]=some ((p++[x]).map bkP):=by rw [app_le (by simp at h ⊢; omega) (by omega)]; simp
  simp only [Zq,if_true,QB,Qj,hW]
  show (app 120 (p.map bkP) [bkP x]>>=_)=_
  rw [ha]
  exact ih
theorem Back_ok {l:List Qa} (h:l.length≤100000):Z1 l=some (l.map bkP):=by
 have e:=Back_L1 l [] (by simpa using h)
 have e':ZK (l,[],0)=some (l.map bkP):=e
 simp only [Z1,e',Qj]
def inB:List Int→List Int→List Int→Bool
 | [],[],[]=>true
 | l::lo,h::hi,i::is=>(decide (l≤i) && decide (i < h)) && inB lo hi is
 | _,_,_=>false
def lessL:List Int→List Int→Bool
 | a::a',b::b'=>if a≠b then decide (a < b) else lessL a' b'
 | _,_=>false
theorem okB_len:∀ {s lo hi:List Int},okB s lo hi→lo.length=s.length∧hi.length=s.length
 | [],[],[],_=>⟨rfl,rfl⟩
 | n::s,l::lo,h::hi,H=>by have:=okB_len H.2; simp [this]
 | [],_::_,_,h=>by simp [okB] at h
 | [],[],_::_,h=>by simp [okB] at h
 | _::_,[],_,h=>by simp [okB] at h
 | _::_,_::_,[],h=>by simp [okB] at h
theorem W_l {p:List Int} {x:Int} (h:p.length≤100000):W ((p.length:Int)+1)=((p++[x]).length:Int):=by
 rw [W_in (by omega) (by omega)]; simp
theorem bR_L1:∀ (s lo hi pl ph:List Int),okB s lo hi→(∀ n∈s,n≤65536)→pl.length=ph.length→pl.length+lo.length≤600→ZN (⟨pl++lo,ph++hi⟩,(pl.length:Int))=some (.inr ())
 | [],[],[],pl,ph,H,hs,hp,hl=>by
  rw [ZN]
  simp only [ZP,if_false]
 | n::s,l::lo,h::hi,pl,ph,H,hs,hp,hl=>by
  rw [ZN]
  have i2:idx (ph++h::hi) (pl.length:Int)=some h:=by rw [hp]; exact QB
  have hn:=hs n (by simp)
  obtain ⟨⟨k1,k2,k3⟩,k4⟩:=H
  have ih:=bR_L1 s lo hi (pl++[l]) (ph++[h]) k4 (fun n hn=>hs n (List.mem_cons_of_mem _ hn)) (by simp [hp]) (by simp at hl ⊢; omega)
  rw [← Qu,← Qu] at ih
  have g1:¬ l < 0:=by omega
  have g2:¬ l > h:=by omega
  have g3:¬ h > 65536:=by omega
  simp only [Zq,if_true,QB,Qj,i2,g1,g2,g3,if_false,decide_false,Bool.false_eq_true,W_l (x:=l) (show pl.length≤100000 by omega),ih]
 | [],_::_,_,_,_,h,_,_,_=>by simp [okB] at h
 | [],[],_::_,_,_,h,_,_,_=>by simp [okB] at h
 | _::_,[],_,_,_,h,_,_,_=>by simp [okB] at h
 | _::_,_::_,[],_,_,h,_,_,_=>by simp [okB] at h
theorem bR_ok {s:List Int} {b:Ql} (H:okB s b.lo b.hi) (hs:∀ n∈s,n≤65536) (hl:s.length≤16):Y3 b=some true:=by
 obtain ⟨lo,hi⟩:=b
 obtain ⟨l1,l2⟩:=okB_len H
 simp only at H l1 l2
 have e:=bR_L1 s lo hi [] [] H hs rfl (by simp; omega)
 simp only [List.nil_append,List.length_nil,Int.natCast_zero] at e
 have g1:¬ ((lo.length:Int)≠(hi.length:Int)):=by simp; omega
 have g2:¬ ((lo.length:Int) > 16):=by omega
 simp only [Y3,g1,g2,if_false,decide_false,Qj,Bool.false_eq_true,e]
theorem bE_L1:∀ (s lo hi pl ph:List Int),okB s lo hi→pl.length=ph.length→pl.length+lo.length≤600→Q2 (⟨pl++lo,ph++hi⟩,(pl.length:Int))=some (.inr ())
 | [],[],[],pl,ph,H,hp,hl=>by
  rw [Q2]
  simp only [ZP,if_false]
 | n::s,l::lo,h::hi,pl,ph,H,hp,hl=>by
  rw [Q2]
  have i2:idx (ph++h::hi) (pl.length:Int)=some h:=by rw [hp]; exact QB
  obtain ⟨⟨k1,k2,k3⟩,k4⟩:=H
  have ih:=bE_L1 s lo hi (pl++[l]) (ph++[h]) k4 (by simp [hp]) (by simp at hl ⊢; omega)
  rw [← Qu,← Qu] at ih
  have g1:¬ l≥h:=by omega
  simp only [Zq,if_true,QB,Qj,i2,g1,if_false,W_l (x:=l) (show pl.length≤100000 by omega),ih]
 | [],_::_,_,_,_,h,_,_=>by simp [okB] at h
 | [],[],_::_,_,_,h,_,_=>by simp [okB] at h
 | _::_,[],_,_,_,h,_,_=>by simp [okB] at h
 | _::_,_::_,[],_,_,h,_,_=>by simp [okB] at h
theorem bE_ok {s:List Int} {b:Ql} (H:okB s b.lo b.hi) (hl:s.length≤16):YE b=some false:=by
 obtain ⟨lo,hi⟩:=b
 obtain ⟨l1,l2⟩:=okB_len H
 simp only at H l1 l2
 have e:=bE_L1 s lo hi [] [] H rfl (by simp; omega)
 simp only [List.nil_append,List.length_nil,Int.natCast_zero] at e
 simp only [YE,e,Qj]
theorem bX_L2 {B:List Ql} {v:Int} {b:Ql} (hb:idx B v=some b):∀ (s lo hi ps ph:List Int),okB s lo hi→b.hi=ph++hi→ps.length=ph.length→ps.length+s.length≤600→ZM (ps++s,B,v,(ps.length:Int))=some (.inr ())
 | [],[],[],ps,ph,H,hh,hp,hl=>by
  rw [ZM]
  simp only [ZP,if_false]
 | n::s,l::lo,h::hi,ps,ph,H,hh,hp,hl=>by
  rw [ZM]
  have i2:idx b.hi (ps.length:Int)=some h:=by rw [hh,hp]; exact QB
  obtain ⟨⟨k1,k2,k3⟩,k4⟩:=H
  have ih:=bX_L2 hb s lo hi (ps++[n]) (ph++[h]) k4 (by rw [hh,Qu]) (by simp [hp]) (by simp at hl ⊢; omega)
  rw [← Qu] at ih
  have g1:¬ h > n:=by omega
  simp only [Zq,if_true,QB,hb,Qj,i2,g1,if_false,W_l (x:=n) (show ps.length≤100000 by omega),ih]
 | [],_::_,_,_,_,h,_,_,_=>by simp [okB] at h
 | [],[],_::_,_,_,h,_,_,_=>by simp [okB] at h
 | _::_,[],_,_,_,h,_,_,_=>by simp [okB] at h
 | _::_,_::_,[],_,_,h,_,_,_=>by simp [okB] at h
theorem has_L1:∀ (i lo hi pi pl ph:List Int),lo.length=i.length→hi.length=i.length→pl.length=pi.length→ph.length=pi.length→pi.length+i.length≤600→Z8 (pi++i,⟨pl++lo,ph++hi⟩,(pi.length:Int))=some (if inB lo hi i=true then .inr () else .inl ())
 | [],[],[],pi,pl,ph,_,_,h1,h2,hl=>by
  rw [Z8]
  simp only [ZP,if_false]; rfl
 | x::i,l::lo,h::hi,pi,pl,ph,e1,e2,h1,h2,hl=>by
  rw [Z8]
  have i1:idx (pl++l::lo) (pi.length:Int)=some l:=by rw [← h1]; exact QB
  have i2:idx (ph++h::hi) (pi.length:Int)=some h:=by rw [← h2]; exact QB
  have ih:=has_L1 i lo hi (pi++[x]) (pl++[l]) (ph++[h]) (by simpa using e1) (by simpa using e2) (by simp [h1]) (by simp [h2]) (by simp at hl ⊢; omega)
  rw [← Qu,← Qu,← Qu] at ih
  simp only [Zq,if_true,QB,Qj,i1,i2,W_l (x:=x) (show pi.length≤100000 by omega),ih,inB]
  by_cases g1:x < l
  ·have:¬ l≤x:=by omega
   simp [g1,this]
  ·have g1':l≤x:=by omega
   by_cases g2:x≥h
   ·have:¬ x < h:=by omega
    simp [g1,g2,this]
   ·have:x < h:=by omega
    simp [g1,g1',g2,this]
 | [],_::_,_,_,_,_,h,_,_,_,_=>by simp at h
 | [],[],_::_,_,_,_,_,h,_,_,_=>by simp at h
 | _::_,[],_,_,_,_,h,_,_,_,_=>by simp at h
 | _::_,_::_,[],_,_,_,_,h,_,_,_=>by simp at h
theorem has_ok {b:Ql} {i:List Int} (h1:b.lo.length=i.length) (h2:b.hi.length=i.length) (hl:i.length≤600):Jw (b,i)=some (inB b.lo b.hi i):=by
 obtain ⟨lo,hi⟩:=b
 simp only at h1 h2 ⊢
 have e:=has_L1 i lo hi [] [] [] h1 h2 rfl rfl (by simp; omega)
 simp only [List.nil_append,List.length_nil,Int.natCast_zero] at e
 have g:¬ ((i.length:Int)≠(lo.length:Int)):=by simp; omega
 simp only [Jw,g,if_false,e,Qj]
 cases inB lo hi i <;> rfl
theorem less_L1:∀ (a b p q:List Int),a.length=b.length→p.length=q.length→p.length+a.length≤600→lessL a b=true→Yb (p++a,q++b,(p.length:Int))=some (.inl true)
 | [],[],p,q,_,_,_,h=>by simp [lessL] at h
 | x::a,y::b,p,q,e1,e2,hl,h=>by
  rw [Yb]
  have l2:((p.length:Int) < ((q++y::b).length:Int)):=by rw [e2]; exact Zq
  have i2:idx (q++y::b) (p.length:Int)=some y:=by rw [e2]; exact QB
  simp only [Zq,if_true,l2,decide_true,Qj,QB,i2]
  by_cases g:x=y
  ·have ih:=less_L1 a b (p++[x]) (q++[y]) (by simpa using e1) (by simp [e2]) (by simp at hl ⊢; omega) (by simpa [lessL,g] using h)
   rw [← Qu,← Qu] at ih
   simp only [g,ne_eq,not_true,if_false]
   rw [g] at ih
   rw [W_l (x:=y) (show p.length≤100000 by omega)]
   rw [← g] at ih ⊢
   exact ih
  ·have:x < y:=by simpa [lessL,g] using h
   simp [g,this]
 | [],_::_,_,_,h,_,_,_=>by simp at h
 | _::_,[],_,_,h,_,_,_=>by simp at h
theorem less_ok {a b:List Int} (h1:a.length=b.length) (hl:a.length≤600) (h:lessL a b=true):YS (a,b)=some true:=by
 have e:=less_L1 a b [] [] h1 rfl (by simp; omega) h
 simp only [List.nil_append,List.length_nil,Int.natCast_zero] at e
 simp only [YS,e,Qj]
theorem near_ok {x:Int} (h:-1000000000000≤x∧x≤1000000000000):Z2 (x,1099511627776)=some true:=by
 have hW:W (0 - 1099511627776)=-1099511627776:=by decide
 have g:x≥-1099511627776:=by omega
 have g2:x≤1099511627776:=by omega
 simp only [Z2,hW,g,if_true,g2,decide_true]
theorem bnd_L1 (acc:Qw):∀ (s p:List Int),acc.strides=p++s→acc.strides.length≤1000→(∀ x∈s,-1000000000000≤x∧x≤1000000000000)→Zo (acc,1099511627776,(p.length:Int))=some (.inr ())
 | [],p,h,hl,hb=>by
  rw [Zo]
  have:¬ ((p.length:Int) < (acc.strides.length:Int)):=by rw [h]; simp
  simp only [this,if_false]
 | x::s,p,h,hl,hb=>by
  rw [Zo]
  have h1:((p.length:Int) < (acc.strides.length:Int)):=by rw [h]; exact Zq
  have h2:idx acc.strides (p.length:Int)=some x:=by rw [h]; exact QB
  have hW:W ((p.length:Int)+1)=((p++[x]).length:Int):=by rw [h] at hl; simp at hl; rw [W_in (by omega) (by omega)]; simp
  have ih:=bnd_L1 acc s (p++[x]) (by rw [h]; simp) hl (fun y hy=>hb y (List.mem_cons_of_mem _ hy))
  simp only [h1,if_true,h2,Qj,near_ok (hb x (by simp)),Bool.true_eq_false,if_false,hW,ih]
structure smA (acc:Qw):Prop where
 b:0≤acc.buffer∧acc.buffer≤1000000000000
 o:-1000000000000≤acc.base∧acc.base≤1000000000000
 t:-1000000000000≤acc.start∧acc.start≤1000000000000
 s:-1000000000000≤acc.step∧acc.step≤1000000000000
 m:-1000000000000≤acc.mod∧acc.mod≤1000000000000
 l:acc.strides.length≤1000
 x:∀ x∈acc.strides,-1000000000000≤x∧x≤1000000000000
theorem bnd_ok {acc:Qw} (h:smA acc):YZ (acc,1099511627776)=some true:=by
 have e:=bnd_L1 acc acc.strides [] rfl h.l h.x
 simp only [List.length_nil,Int.natCast_zero] at e
 have hb:-1000000000000≤acc.buffer∧acc.buffer≤1000000000000:=⟨by have:=h.b; omega,h.b.2⟩
 simp only [YZ,e,Qj,near_ok hb,near_ok h.o,near_ok h.t,near_ok h.s,near_ok h.m,if_true]
theorem right_fill {n:Nat} (hn:n≤16):Yj (⟨1,0,0,[],0,0,0⟩,(n:Int))=some true:=by
 have hb:=bnd_ok (acc:=⟨1,0,0,[],0,0,0⟩) ⟨by simp,by simp,by simp,by simp,by simp,by simp,by simp⟩
 have g1:¬ ((n:Int) < 0):=by omega
 have g2:¬ ((n:Int) > 16):=by omega
 have g3:¬ ((0:Int) < 0):=by omega
 simp only [Yj,g1,g2,if_false,decide_false,Qj,Bool.false_eq_true,hb,Bool.not_true,g3,if_true,beq_self_eq_true]
 rfl
def chn:List Qc→Prop
 | a::b::l=>lessL a.box.lo b.box.lo=true∧chn (b::l)
 | _=>True
section
variable {s:List Int}
theorem Cov_L1 (hp:∀ n∈s,n≤65536) (hl:s.length≤16):∀ (P p:List Qc),p.length+P.length≤100000→(∀ x∈P,okB s x.box.lo x.box.hi∧Yj (x.access,(s.length:Int))=some true)→chn P→(p=[]∨∃ q y,p=q++[y]∧okB s y.box.lo y.box.hi∧chn (y::P)) →
  Zi (p++P,s,p.map (·.box),(p.length:Int))=some (.inr ((p++P).map (·.box)))
 | [],p,hF,h,hc,hq=>by
  rw [Zi]
  simp only [ZP,if_false]; simp only [List.append_nil]
 | x::P,p,hF,h,hc,hq=>by
  rw [Zi]
  obtain ⟨hx,ha⟩:=h x (List.mem_cons_self ..)
  obtain ⟨l1,l2⟩:=okB_len hx
  have hW:W ((p.length:Int)+1)=((p++[x]).length:Int):=by simp at hF; rw [W_in (by omega) (by omega)]; simp
  have hc':chn P:=by cases P with
   | nil=>trivial
   | cons y P=>exact hc.2
  have ih:=Cov_L1 hp hl P (p++[x]) (by simp at hF ⊢; omega) (fun y hy=>h y (List.mem_cons_of_mem _ hy)) hc' (.inr ⟨p,x,rfl,hx,hc⟩)
  rw [← Qu] at ih
  have happ:app 48 (p.map (·.box)) [x.box]=some ((p++[x]).map (·.box)):=by
   rw [app_le (by simp at hF ⊢; omega) (by omega)]; simp
  have hprev:(if (p.length:Int) > 0 then idx (p++x::P) (W ((p.length:Int) - 1))>>=fun v613=>YS (v613.box.lo,x.box.lo)>>=fun v614=>some (!v614) else some false)=some false:=by
   rcases hq with rfl|⟨q,y,rfl,hy,hch⟩
   ·rfl
   ·have g:(((q++[y]).length:Nat):Int) > 0:=by simp <;> omega
    have hWq:W ((((q++[y]).length:Nat):Int) - 1)=(q.length:Int):=by simp at hF; rw [W_in (by simp <;> omega) (by simp <;> omega)]; simp
    obtain ⟨m1,m2⟩:=okB_len hy
    have hls:=less_ok (a:=y.box.lo) (b:=x.box.lo) (by omega) (by omega) hch.1
    have hprev:idx ((q++[y])++x::P) (q.length:Int)=some y:=idx_of (by simp)
    simp only [g,if_true,hWq,hprev,Qj,hls,Bool.not_true]
  simp only [Zq,if_true,QB,Qj,bR_ok hx hp hl,bE_ok hx hl,ha,Bool.true_eq_false,if_false,Bool.false_eq_true,Bool.not_true,hprev,happ,hW,ih]
theorem X_L1 (hp:∀ n∈s,n≤65536) (hl:s.length≤16):∀ (P p:List Ql),p.length+P.length≤100000→(∀ b∈P,okB s b.lo b.hi)→Zw (p++P,s,(p.length:Int))=some (.inr ())
 | [],p,h,hb=>by
  rw [Zw]
  simp only [ZP,if_false]
 | b::P,p,h,hb=>by
  rw [Zw]
  have hB:=hb b (by simp)
  obtain ⟨l1,l2⟩:=okB_len hB
  have hW:W ((p.length:Int)+1)=((p++[b]).length:Int):=by simp at h; rw [W_in (by omega) (by omega)]; simp
  have ih:=X_L1 hp hl P (p++[b]) (by simp at h ⊢; omega) (fun y hy=>hb y (List.mem_cons_of_mem _ hy))
  rw [← Qu] at ih
  have e2:=bX_L2 (B:=p++b::P) (v:=(p.length:Int)) QB s b.lo b.hi [] [] hB rfl rfl (by simp; omega)
  simp only [List.nil_append,List.length_nil,Int.natCast_zero] at e2
  have hne:((b.lo.length:Int) != (s.length:Int))=false:=by rw [l1]; simp
  simp only [Zq,if_true,QB,Qj,bR_ok hB hp hl,Bool.true_eq_false,if_false,hne,Bool.false_eq_true,e2,hW,ih]
theorem X_L4 {A:List (List Int)} {k:Nat} {i:List Int} (hA:idx A (k:Int)=some i) (hi:i.length=s.length) (hl:s.length≤16):∀ (P p:List Ql) (m:Nat),p.length+P.length≤100000→m≤p.length→(∀ b∈P,okB s b.lo b.hi)→Za (p++P,A,(k:Int),(m:Int),(p.length:Int))=some ((m+P.countP (fun b=>inB b.lo b.hi i):Nat):Int)
 | [],p,m,h,hm,hb=>by
  rw [Za]
  simp only [ZP,if_false]; simp
 | b::P,p,m,h,hm,hb=>by
  rw [Za]
  have hB:=hb b (by simp)
  obtain ⟨l1,l2⟩:=okB_len hB
  have hW:W ((p.length:Int)+1)=((p++[b]).length:Int):=by simp at h; rw [W_in (by omega) (by omega)]; simp
  have hh:=has_ok (b:=b) (i:=i) (by omega) (by omega) (by omega)
  simp only [Zq,if_true,QB,Qj,hA,hh,hW]
  by_cases g:inB b.lo b.hi i=true
  ·have hWm:W ((m:Int)+1)=((m+1:Nat):Int):=W_nat (by simp at h; omega)
   have ih:=X_L4 hA hi hl P (p++[b]) (m+1) (by simp at h ⊢; omega) (by simp; omega) (fun y hy=>hb y (List.mem_cons_of_mem _ hy))
   rw [← Qu] at ih
   rw [if_pos g,hWm,ih,List.countP_cons_of_pos (by exact g)]
   congr 1; congr 1; omega
  ·have ih:=X_L4 hA hi hl P (p++[b]) m (by simp at h ⊢; omega) (by simp; omega) (fun y hy=>hb y (List.mem_cons_of_mem _ hy))
   rw [← Qu] at ih
   rw [if_neg g,ih,List.countP_cons_of_neg (by simpa using g)]
theorem X_L3 (hl:s.length≤16) (P:List Ql) (hP:P.length≤100000) (hb:∀ b∈P,okB s b.lo b.hi):∀ (A p:List (List Int)),p.length+A.length≤100000→(∀ i∈A,i.length=s.length∧P.countP (fun b=>inB b.lo b.hi i)=1)→Zx (p++A,P,(p.length:Int))=some (.inr ())
 | [],p,h,hA=>by
  rw [Zx]
  simp only [ZP,if_false]
 | i::A,p,h,hA=>by
  rw [Zx]
  obtain ⟨k1,k2⟩:=hA i (by simp)
  have hW:W ((p.length:Int)+1)=((p++[i]).length:Int):=by simp at h; rw [W_in (by omega) (by omega)]; simp
  have e4:=X_L4 (A:=p++i::A) (k:=p.length) QB k1 hl P [] 0 (by simpa using hP) (by simp) hb
  rw [k2] at e4
  have e4':Za (P,p++i::A,(p.length:Int),0,0)=some 1:=e4
  have ih:=X_L3 hl P hP hb A (p++[i]) (by simp at h ⊢; omega) (fun y hy=>hA y (List.mem_cons_of_mem _ hy))
  rw [← Qu] at ih
  simp only [Zq,if_true,e4',Qj,ne_eq,not_true,if_false,hW,ih]
theorem Covers_gen (hp:∀ n∈s,n≤65536) (hl:s.length≤16) (hall:YO s=some (allL s)) (hA:(allL s).length≤100000) {P:List Qc} (hP:P.length≤100000)
  (hok:∀ x∈P,okB s x.box.lo x.box.hi∧Yj (x.access,(s.length:Int))=some true) (hch:chn P) (hct:∀ i∈allL s,P.countP (fun x=>inB x.box.lo x.box.hi i)=1):Ys (s,P)=some true:=by
 have e1:=Cov_L1 hp hl P [] (by simpa using hP) hok hch (.inl rfl)
 have e1':Zi (P,s,[],0)=some (.inr (P.map (·.box))):=e1
 have hb:∀ b∈P.map (·.box),okB s b.lo b.hi:=fun b hb=>by
  obtain ⟨x,hx,rfl⟩:=List.mem_map.1 hb
  exact (hok x hx).1
 have e2:=X_L1 hp hl (P.map (·.box)) [] (by simpa using hP) hb
 have e2':Zw (P.map (·.box),s,0)=some (.inr ()):=e2
 have e3:=X_L3 hl (P.map (·.box)) (by simpa using hP) hb (allL s) [] (by simpa using hA) (fun i hi=>⟨(vld_len (mem_allL.1 hi)).symm,by rw [List.countP_map]; exact hct i hi⟩)
 have e3':Zx (allL s,P.map (·.box),0)=some (.inr ()):=e3
 simp only [Ys,e1',Qj,Jo,e2',hall,e3']
end
def frm (lo t n:Int):Int:=if t < (if W (lo - n) < 0 then 0 else W (lo - n)) then t else (if W (lo - n) < 0 then 0 else W (lo - n))
def til (lo hi t n:Int):Int:=if frm lo t n < (if t < W (hi - n) then t else W (hi - n)) then (if t < W (hi - n) then t else W (hi - n)) else frm lo t n
def clo:List Int→List Int→List Int→List Int
 | l::lo,t::ts,n::st=>frm l t n::clo lo ts st
 | _,_,_=>[]
def chi:List Int→List Int→List Int→List Int→List Int
 | l::lo,h::hi,t::ts,n::st=>til l h t n::chi lo hi ts st
 | _,_,_,_=>[]
theorem frm_in {lo t n:Int} (h:0≤t):0≤frm lo t n∧frm lo t n≤t:=by
 unfold frm
 generalize W (lo - n)=x
 split <;> split <;> omega
theorem til_in {lo hi t n:Int} (h:0≤t):frm lo t n≤til lo hi t n∧til lo hi t n≤t:=by
 have:=frm_in (lo:=lo) (n:=n) h
 unfold til
 generalize W (hi - n)=y
 generalize frm lo t n=x at *
 split <;> split <;> omega
theorem clip_L1:∀ (st lo t hi ps pl pt ph o1 o2:List Int),lo.length=st.length→t.length=st.length→hi.length=st.length→pl.length=ps.length→pt.length=ps.length→ph.length=ps.length→ps.length+st.length≤600→o1.length=ps.length→o2.length=ps.length →
  Zn (ps++st,pl++lo,pt++t,ph++hi,o1,o2,(ps.length:Int))=some (o1++clo lo t st,o2++chi lo hi t st)
 | [],[],[],[],ps,pl,pt,ph,o1,o2,_,_,_,_,_,_,hl,_,_=>by
  rw [Zn]
  simp only [ZP,if_false]; simp only [clo,chi,List.append_nil]
 | n::st,l::lo,t::ts,h::hi,ps,pl,pt,ph,o1,o2,e1,e2,e3,e4,e5,e6,hl,q1,q2=>by
  rw [Zn]
  have i1:idx (pl++l::lo) (ps.length:Int)=some l:=by rw [← e4]; exact QB
  have i2:idx (pt++t::ts) (ps.length:Int)=some t:=by rw [← e5]; exact QB
  have i3:idx (ph++h::hi) (ps.length:Int)=some h:=by rw [← e6]; exact QB
  have ih:=clip_L1 st lo ts hi (ps++[n]) (pl++[l]) (pt++[t]) (ph++[h]) (o1++[frm l t n]) (o2++[til l h t n]) (by simpa using e1) (by simpa using e2) (by simpa using e3) (by simp [e4]) (by simp [e5]) (by simp [e6]) (by simp at hl ⊢; omega) (by simp [q1]) (by simp [q2])
  rw [← Qu,← Qu,← Qu,← Qu] at ih
  have a1:app 8 o1 [frm l t n]=some (o1++[frm l t n]):=app_le (by simp at hl ⊢; omega) (by omega)
  have a2:app 8 o2 [til l h t n]=some (o2++[til l h t n]):=app_le (by simp at hl ⊢; omega) (by omega)
  unfold frm at a1
  unfold til frm at a2
  simp only [Zq,if_true,QB,i1,i2,i3,Qj,a1,a2,Qah hl]
  refine ih.trans ?_
  rw [clo,chi]
  simp
 | [],_::_,_,_,_,_,_,_,_,_,h,_,_,_,_,_,_,_,_=>by simp at h
 | [],_,_::_,_,_,_,_,_,_,_,_,h,_,_,_,_,_,_,_=>by simp at h
 | [],_,_,_::_,_,_,_,_,_,_,_,_,h,_,_,_,_,_,_=>by simp at h
 | _::_,[],_,_,_,_,_,_,_,_,h,_,_,_,_,_,_,_,_=>by simp at h
 | _::_,_,[],_,_,_,_,_,_,_,_,h,_,_,_,_,_,_,_=>by simp at h
 | _::_,_,_,[],_,_,_,_,_,_,_,_,h,_,_,_,_,_,_=>by simp at h
theorem clip_ok {lo hi t st:List Int} (h1:lo.length=st.length) (h2:t.length=st.length) (h3:hi.length=st.length) (hl:st.length≤600):Yw (lo,hi,t,st)=some ⟨clo lo t st,chi lo hi t st⟩:=by
 have e:=clip_L1 st lo t hi [] [] [] [] [] [] h1 h2 h3 rfl rfl rfl (by simpa using hl) rfl rfl
 simp only [List.nil_append,List.length_nil,Int.natCast_zero] at e
 simp only [Yw,e,Qj]
theorem clip_wk:∀ {lo hi t st:List Int},lo.length=st.length→t.length=st.length→hi.length=st.length→(∀ n∈t,0≤n)→wkB t (clo lo t st) (chi lo hi t st)
 | [],[],[],[],_,_,_,_=>trivial
 | l::lo,h::hi,t::ts,n::st,e1,e2,e3,hp=>by
  have h0:=hp t (List.mem_cons_self ..)
  have f:=frm_in (lo:=l) (n:=n) h0
  have g:=til_in (lo:=l) (hi:=h) (n:=n) h0
  exact ⟨⟨f.1,g.1,g.2⟩,clip_wk (by simpa using e1) (by simpa using e2) (by simpa using e3) fun m hm=>hp m (List.mem_cons_of_mem _ hm)⟩
 | _::_,_,_,[],h,_,_,_=>by simp at h
 | _,_::_,_,[],_,_,h,_=>by simp at h
 | _,_,_::_,[],_,h,_,_=>by simp at h
 | [],_,_,_::_,h,_,_,_=>by simp at h
 | _,[],_,_::_,_,_,h,_=>by simp at h
 | _,_,[],_::_,_,h,_,_=>by simp at h
def mxI (a b:Int):Int:=if a < b then b else a
def mnI (a b:Int):Int:=if b < a then b else a
theorem mx_L1:∀ (a b pa pb o:List Int),a.length=b.length→pa.length=pb.length→pa.length+a.length≤600→o.length=pa.length→Qz (pa++a,pb++b,o,(pa.length:Int))=some (o++List.zipWith mxI a b)
 | [],[],pa,pb,o,_,_,hl,_=>by
  rw [Qz]
  simp only [ZP,if_false]; simp only [List.zipWith_nil_left,List.append_nil]
 | x::a,y::b,pa,pb,o,e1,e2,hl,ho=>by
  rw [Qz]
  have i2:idx (pb++y::b) (pa.length:Int)=some y:=by rw [e2]; exact QB
  have ih:=mx_L1 a b (pa++[x]) (pb++[y]) (o++[mxI x y]) (by simpa using e1) (by simp [e2]) (by simp at hl ⊢; omega) (by simp [ho])
  rw [← Qu,← Qu] at ih
  have a1:app 8 o [mxI x y]=some (o++[mxI x y]):=app_le (by simp at hl ⊢; omega) (by omega)
  simp only [Zq,if_true,QB,i2,Qj,Xa,Qah hl]
  show (app 8 o [mxI x y]>>=_)=_
  rw [a1,Qj]
  refine ih.trans ?_
  simp
 | [],_::_,_,_,_,h,_,_,_=>by cases h
 | _::_,[],_,_,_,h,_,_,_=>by cases h
theorem mn_L1:∀ (a b pa pb o:List Int),a.length=b.length→pa.length=pb.length→pa.length+a.length≤600→o.length=pa.length→QA (pa++a,pb++b,o,(pa.length:Int))=some (o++List.zipWith mnI a b)
 | [],[],pa,pb,o,_,_,hl,_=>by
  rw [QA]
  simp only [ZP,if_false]; simp only [List.zipWith_nil_left,List.append_nil]
 | x::a,y::b,pa,pb,o,e1,e2,hl,ho=>by
  rw [QA]
  have i2:idx (pb++y::b) (pa.length:Int)=some y:=by rw [e2]; exact QB
  have ih:=mn_L1 a b (pa++[x]) (pb++[y]) (o++[mnI x y]) (by simpa using e1) (by simp [e2]) (by simp at hl ⊢; omega) (by simp [ho])
  rw [← Qu,← Qu] at ih
  have a1:app 8 o [mnI x y]=some (o++[mnI x y]):=app_le (by simp at hl ⊢; omega) (by omega)
  simp only [Zq,if_true,QB,i2,Qj,Xb,Qah hl]
  show (app 8 o [mnI x y]>>=_)=_
  rw [a1,Qj]
  refine ih.trans ?_
  simp
 | [],_::_,_,_,_,h,_,_,_=>by cases h
 | _::_,[],_,_,_,h,_,_,_=>by cases h
theorem Inter_ok {s al ah bl bh:List Int} (hP:prodI s≤65536) (h1:al.length=bl.length) (h2:ah.length=bh.length) (h3:al.length=ah.length) (hl:al.length≤600)
  (H:fullB (List.zipWith mxI al bl) (List.zipWith mnI ah bh)=true→okB s (List.zipWith mxI al bl) (List.zipWith mnI ah bh)) :
  Yv (⟨al,ah⟩,⟨bl,bh⟩)=some (if fullB (List.zipWith mxI al bl) (List.zipWith mnI ah bh) then (⟨List.zipWith mxI al bl,List.zipWith mnI ah bh⟩,true) else (⟨[],[]⟩,false)):=by
 have e1:=mx_L1 al bl [] [] [] h1 rfl (by simpa using hl) rfl
 have e2:=mn_L1 ah bh [] [] [] h2 rfl (by simp; omega) rfl
 simp only [List.nil_append,List.length_nil,Int.natCast_zero] at e1 e2
 have hc:=gCount hP (lo:=List.zipWith mxI al bl) (hi:=List.zipWith mnI ah bh) (by simp; omega) (by simp; omega) H
 have g:¬ ((al.length:Int)≠(bl.length:Int)):=by omega
 have hz:=cnt_zero H
 simp only [Yv,g,if_false,Zg,Zh,e1,e2,Qj,hc]
 by_cases f:fullB (List.zipWith mxI al bl) (List.zipWith mnI ah bh)=true
 ·rw [f] at hz ⊢
  rw [if_neg (by simpa using hz)]; rfl
 ·have f':=(Bool.not_eq_true _).mp f
  rw [f'] at hz ⊢
  rw [if_pos (by simpa using hz)]; rfl
theorem zip_mx:∀ {s cl ch:List Int},wkB s cl ch→List.zipWith mxI (List.replicate s.length 0) cl=cl∧List.zipWith mnI s ch=ch
 | [],[],[],_=>⟨rfl,rfl⟩
 | n::s,c::cl,d::ch,h=>by
  obtain ⟨⟨k1,k2,k3⟩,k4⟩:=h
  obtain ⟨i1,i2⟩:=zip_mx k4
  rw [List.length_cons,List.replicate_succ,List.zipWith_cons_cons,List.zipWith_cons_cons,i1,i2]
  have a:mxI 0 c=c:=by unfold mxI; split <;> omega
  have b:mnI n d=d:=by unfold mnI; split <;> omega
  rw [a,b]; exact ⟨rfl,rfl⟩
 | [],_::_,_,h=>by simp [wkB] at h
 | [],[],_::_,h=>by simp [wkB] at h
 | _::_,[],_,h=>by simp [wkB] at h
 | _::_,_::_,[],h=>by simp [wkB] at h
def minusR:List Int→List Int→List Int→List Int→List (List Int × List Int)
 | a::al,b::ah,c::cl,d::ch=>(a::al,c::ah)::(d::al,b::ah)::(minusR al ah cl ch).map fun x=>(c::x.1,d::x.2)
 | _,_,_,_=>[]
def inBox:List Int→List Int→List Int→List Int→Prop
 | [],[],[],[]=>True
 | a::al,b::ah,c::cl,d::ch=>a≤c∧c≤d∧d≤b∧inBox al ah cl ch
 | _,_,_,_=>False
def fullX (b:Qe):Bool:=fullB b.lo b.hi
theorem wk_app:∀ {sp pl ph ss l h:List Int},wkB sp pl ph→wkB ss l h→wkB (sp++ss) (pl++l) (ph++h)
 | [],[],[],_,_,_,_,h=>h
 | n::s,a::pl,b::ph,ss,l,h,k,h2=>⟨k.1,wk_app k.2 h2⟩
 | [],_::_,_,_,_,_,h,_=>by simp [wkB] at h
 | [],[],_::_,_,_,_,h,_=>by simp [wkB] at h
 | _::_,[],_,_,_,_,h,_=>by simp [wkB] at h
 | _::_,_::_,[],_,_,_,h,_=>by simp [wkB] at h
theorem with_ok {pl ph lo hi:List Int} {x y a b:Int} {k:Int} (h1:k=(pl.length:Int)) (h2:pl.length=ph.length) (h3:lo.length=hi.length) (hl:pl.length+lo.length≤500):YB (⟨pl++x::lo,ph++y::hi⟩,k,a,b)=some ⟨pl++a::lo,ph++b::hi⟩:=by
 subst h1
 have c1:Qs (pl++x::lo)=some (pl++x::lo):=app_le (by simp; omega) (by omega)
 have c2:Qs (ph++y::hi)=some (ph++y::hi):=app_le (by simp; omega) (by omega)
 have s1:setM (pl++x::lo) (pl.length:Int) a=some (pl++a::lo):=by rw [setM_ok (by simp),mid_set,← Qu]
 have s2:setM (ph++y::hi) (pl.length:Int) b=some (ph++b::hi):=by rw [h2,setM_ok (by simp),mid_set,← Qu]
 have i2:idx (ph++y::hi) (pl.length:Int)=some y:=by rw [h2]; exact QB
 simp only [YB,c1,c2,Qj,QB,s1,i2,s2]
 rw [guardM_ok (by simp),Qj,guardM_ok (by simp),Qj]
theorem gSize {s:List Int} (hP:prodI s≤65536) (hs:s.length≤600) {b:Qe} (hb:wkB s b.lo b.hi):ZG b=some (!fullB b.lo b.hi):=by
 obtain ⟨l1,l2⟩:=wk_len hb
 simp only [ZG,Xj,gCount hP (l1.trans l2.symm) (by omega) (wk_ok hb),Qj,cnt_zero (wk_ok hb)]
theorem fill2 {s:List Int} (hP:prodI s≤65536) (hs:s.length≤600) {q0 q1 q2 q3 q4 q5 q6 q7:List Int} {n:Nat} {b1 b2:Qe} (h1:wkB s b1.lo b1.hi) (h2:wkB s b2.lo b2.hi) :
  Yp (q0,q1,q2,q3,q4,q5,q6,q7,b1.lo,b1.hi,b2.lo,b2.hi,n)=some (if fullX b1 then (if fullX b2 then .inr (.inr ()) else .inl (b1.lo,b1.hi)) else (if fullX b2 then .inl (b2.lo,b2.hi) else .inr (.inl ()))):=by
 have e1:=gSize hP hs h1
 have e2:=gSize hP hs h2
 simp only [Yp,QN,QS,fullX]
 have e1':ZG ⟨b1.lo,b1.hi⟩=some (!fullB b1.lo b1.hi):=e1
 have e2':ZG ⟨b2.lo,b2.hi⟩=some (!fullB b2.lo b2.hi):=e2
 by_cases f1:fullB b1.lo b1.hi=true
 ·by_cases f2:fullB b2.lo b2.hi=true
  ·simp only [e1',e2',f1,f2,Qj]; rfl
  ·simp only [e1',e2',f1,(Bool.not_eq_true _).mp f2,Qj]; rfl
 ·by_cases f2:fullB b2.lo b2.hi=true
  ·simp only [e1',e2',(Bool.not_eq_true _).mp f1,f2,Qj]; rfl
  ·simp only [e1',e2',(Bool.not_eq_true _).mp f1,(Bool.not_eq_true _).mp f2,Qj]; rfl
theorem minus_L1 {s:List Int} (hP:prodI s≤65536) (c1:Qe):∀ (ss sp al ah cl ch pal pah pcl pch:List Int) (out:List Qe),s=sp++ss→wkB ss al ah→inBox al ah cl ch→wkB sp pcl pch→pal.length=sp.length→pah.length=sp.length→s.length≤200→out.length≤2 * sp.length →
  ∃ r1 r2,ZF (⟨pal++al,pah++ah⟩,⟨pcl++cl,pch++ch⟩,c1,pcl++al,pch++ah,out,(sp.length:Int))=some (r1,r2,out++((minusR al ah cl ch).map fun x=>(⟨pcl++x.1,pch++x.2⟩:Qe)).filter fullX)
 | [],sp,[],[],[],[],pal,pah,pcl,pch,out,e,hw,hi,hp,e1,e2,hl,ho=>by
  rw [ZF]
  have:¬ ((sp.length:Int) < ((pal++([]:List Int)).length:Int)):=by simp; omega
  simp only [this,if_false]
  exact ⟨pcl++[],pch++[],by simp [minusR]⟩
 | n::ss,sp,a::al,b::ah,c::cl,d::ch,pal,pah,pcl,pch,out,e,hw,hi,hp,e1,e2,hl,ho=>by
  rw [ZF]
  obtain ⟨⟨k1,k2,k3⟩,k4⟩:=hw
  obtain ⟨i1,i2,i3,i4⟩:=hi
  obtain ⟨m1,m2⟩:=wk_len hp
  obtain ⟨n1,n2⟩:=wk_len k4
  have hsl:sp.length+ss.length+1≤200:=by rw [e] at hl; simp at hl; omega
  have g1:((sp.length:Int) < ((pal++a::al).length:Int)):=by simp; omega
  have j1:idx (pal++a::al) (sp.length:Int)=some a:=by rw [← e1]; exact QB
  have j2:idx (pcl++c::cl) (sp.length:Int)=some c:=by rw [← m1]; exact QB
  have j3:idx (pch++d::ch) (sp.length:Int)=some d:=by rw [← m2]; exact QB
  have j4:idx (pah++b::ah) (sp.length:Int)=some b:=by rw [← e2]; exact QB
  have wt:∀ x y:Int,YB (⟨pcl++a::al,pch++b::ah⟩,(sp.length:Int),x,y)=some ⟨pcl++x::al,pch++y::ah⟩:=fun x y=>with_ok (by rw [m1]) (by omega) (by omega) (by omega)
  have hb1:wkB s (pcl++a::al) (pch++c::ah):=by rw [e]; exact wk_app hp ⟨⟨k1,i1,by omega⟩,k4⟩
  have hb2:wkB s (pcl++d::al) (pch++b::ah):=by rw [e]; exact wk_app hp ⟨⟨by omega,i3,k3⟩,k4⟩
  have ef:=fill2 hP (by omega) (q0:=pal++a::al) (q1:=pah++b::ah) (q2:=c1.lo) (q3:=c1.hi) (q4:=pcl++c::cl) (q5:=pch++d::ch) (q6:=pcl++a::al) (q7:=pch++b::ah) (n:=out.length) (b1:=⟨pcl++a::al,pch++c::ah⟩) (b2:=⟨pcl++d::al,pch++b::ah⟩) hb1 hb2
  have hW:W ((sp.length:Int)+1)=((sp++[n]).length:Int):=by rw [W_in (by omega) (by omega)]; simp
  have ih:=fun out' (h:out'.length≤2 * (sp++[n]).length)=>minus_L1 hP c1 ss (sp++[n]) al ah cl ch (pal++[a]) (pah++[b]) (pcl++[c]) (pch++[d]) out' (by rw [e,Qu]) k4 i4 (wk_app hp ⟨⟨by omega,i2,by omega⟩,trivial⟩) (by simp [e1]) (by simp [e2]) hl h
  simp only [← Qu] at ih
  have em:((minusR (a::al) (b::ah) (c::cl) (d::ch)).map fun x=>(⟨pcl++x.1,pch++x.2⟩:Qe))=⟨pcl++a::al,pch++c::ah⟩::⟨pcl++d::al,pch++b::ah⟩::((minusR al ah cl ch).map fun x=>(⟨pcl++c::x.1,pch++d::x.2⟩:Qe)):=by
   rw [minusR,List.map_cons,List.map_cons,List.map_map]; rfl
  rw [em]
  simp only [g1,if_true,j1,j2,j3,j4,Qj,wt,ef]
  by_cases f1:fullX ⟨pcl++a::al,pch++c::ah⟩=true
  ·by_cases f2:fullX ⟨pcl++d::al,pch++b::ah⟩=true
   ·obtain ⟨r1,r2,e3⟩:=ih (out++[⟨pcl++a::al,pch++c::ah⟩,⟨pcl++d::al,pch++b::ah⟩]) (by simp; omega)
    refine ⟨r1,r2,?_⟩
    rw [List.filter_cons_of_pos f1,List.filter_cons_of_pos f2]
    simp only [f1,f2,if_true]
    rw [app_le (by simp; omega) (by omega),Qj,hW,e3]
    simp
   ·obtain ⟨r1,r2,e3⟩:=ih (out++[⟨pcl++a::al,pch++c::ah⟩]) (by simp; omega)
    refine ⟨r1,r2,?_⟩
    rw [List.filter_cons_of_pos f1,List.filter_cons_of_neg f2]
    simp only [f1,f2,if_true,if_false,Bool.false_eq_true]
    rw [app_le (by simp; omega) (by omega),Qj,hW,e3]
    simp
  ·by_cases f2:fullX ⟨pcl++d::al,pch++b::ah⟩=true
   ·obtain ⟨r1,r2,e3⟩:=ih (out++[⟨pcl++d::al,pch++b::ah⟩]) (by simp; omega)
    refine ⟨r1,r2,?_⟩
    rw [List.filter_cons_of_neg f1,List.filter_cons_of_pos f2]
    simp only [f1,f2,if_true,if_false,Bool.false_eq_true]
    rw [app_le (by simp; omega) (by omega),Qj,hW,e3]
    simp
   ·obtain ⟨r1,r2,e3⟩:=ih out (by simp; omega)
    refine ⟨r1,r2,?_⟩
    rw [List.filter_cons_of_neg f1,List.filter_cons_of_neg f2]
    simp only [f1,f2,if_false,Bool.false_eq_true]
    rw [app_le (by simp; omega) (by omega),Qj,hW,List.append_nil,e3]
 | _::_,_,[],_,_,_,_,_,_,_,_,_,h,_,_,_,_,_,_=>by simp [wkB] at h
 | _::_,_,_::_,[],_,_,_,_,_,_,_,_,h,_,_,_,_,_,_=>by simp [wkB] at h
 | [],_,_::_,_,_,_,_,_,_,_,_,_,h,_,_,_,_,_,_=>by simp [wkB] at h
 | [],_,[],_::_,_,_,_,_,_,_,_,_,h,_,_,_,_,_,_=>by simp [wkB] at h
 | _,_,_::_,_::_,[],_,_,_,_,_,_,_,_,h,_,_,_,_,_=>by simp [inBox] at h
 | _,_,_::_,_::_,_::_,[],_,_,_,_,_,_,_,h,_,_,_,_,_=>by simp [inBox] at h
 | _,_,[],[],_::_,_,_,_,_,_,_,_,_,h,_,_,_,_,_=>by simp [inBox] at h
 | _,_,[],[],[],_::_,_,_,_,_,_,_,_,h,_,_,_,_,_=>by simp [inBox] at h
theorem wk_inBox:∀ {s cl ch:List Int},wkB s cl ch→inBox (List.replicate s.length 0) s cl ch
 | [],[],[],_=>trivial
 | n::s,c::cl,d::ch,h=>by
  obtain ⟨⟨k1,k2,k3⟩,k4⟩:=h
  rw [List.length_cons,List.replicate_succ]
  exact ⟨k1,k2,k3,wk_inBox k4⟩
 | [],_::_,_,h=>by simp [wkB] at h
 | [],[],_::_,h=>by simp [wkB] at h
 | _::_,[],_,h=>by simp [wkB] at h
 | _::_,_::_,[],h=>by simp [wkB] at h
def restB (s cl ch:List Int):List Qe:=(if fullB cl ch then (minusR (List.replicate s.length 0) s cl ch).map fun x=>(⟨x.1,x.2⟩:Qe) else [⟨List.replicate s.length 0,s⟩]).filter fullX
theorem Minus_ok {s cl ch:List Int} (hP:prodI s≤65536) (hs:s.length≤100) (h0:∀ n∈s,0≤n) (hc:wkB s cl ch):Ju (⟨List.replicate s.length 0,s⟩,⟨cl,ch⟩)=some (restB s cl ch):=by
 obtain ⟨l1,l2⟩:=wk_len hc
 obtain ⟨z1,z2⟩:=zip_mx hc
 have eI:=Inter_ok (s:=s) (al:=List.replicate s.length 0) (ah:=s) (bl:=cl) (bh:=ch) hP (by simp; omega) (by omega) (by simp) (by simp; omega) (by rw [z1,z2]; exact wk_ok hc)
 rw [z1,z2] at eI
 unfold Ju restB
 dsimp only
 rw [eI]
 by_cases f:fullB cl ch=true
 ·obtain ⟨r1,r2,e⟩:=minus_L1 (s:=s) hP ⟨cl,ch⟩ s [] (List.replicate s.length 0) s cl ch [] [] [] [] [] rfl (wk_whole h0) (wk_inBox hc) trivial rfl rfl (by omega) (by simp)
  simp only [List.nil_append,List.length_nil,Int.natCast_zero] at e
  simp only [f,if_true,Qj,Bool.true_eq_false,if_false,e]
 ·have c1:Qs (List.replicate s.length 0)=some (List.replicate s.length 0):=app_le (by simp; omega) (by omega)
  have c2:Qs s=some s:=app_le (by simp; omega) (by omega)
  have e1:=gSize hP (by omega) (b:=⟨List.replicate s.length 0,s⟩) (wk_whole h0)
  simp only [f,if_false,Qj,if_true,c1,c2,YQ,QO,QT,e1,Bool.false_eq_true]
  by_cases g:fullB (List.replicate s.length 0) s=true
  ·simp [g,fullX,Qj]
  ·simp [g,fullX,Qj]
theorem minusR_len:∀ (al ah cl ch:List Int),(minusR al ah cl ch).length≤2 * al.length
 | a::al,b::ah,c::cl,d::ch=>by
  have:=minusR_len al ah cl ch
  simp only [minusR,List.length_cons,List.length_map]; omega
 | [],_,_,_=>by simp [minusR]
 | _::_,[],_,_=>by simp [minusR]
 | _::_,_::_,[],_=>by simp [minusR]
 | _::_,_::_,_::_,[]=>by simp [minusR]
theorem minusR_wk:∀ {ss al ah cl ch:List Int},wkB ss al ah→inBox al ah cl ch→∀ x∈minusR al ah cl ch,wkB ss x.1 x.2
 | n::ss,a::al,b::ah,c::cl,d::ch,⟨⟨k1,k2,k3⟩,k4⟩,⟨i1,i2,i3,i4⟩,x,hx=>by
  rw [minusR] at hx
  rcases List.mem_cons.1 hx with rfl|hx
  ·exact ⟨⟨k1,i1,by omega⟩,k4⟩
  rcases List.mem_cons.1 hx with rfl|hx
  ·exact ⟨⟨by omega,i3,k3⟩,k4⟩
  obtain ⟨y,hy,rfl⟩:=List.mem_map.1 hx
  exact ⟨⟨by omega,i2,by omega⟩,minusR_wk k4 i4 y hy⟩
 | [],[],[],_,_,_,_,x,hx=>by simp [minusR] at hx
 | _::_,_::_,_::_,[],_,_,h,_,_=>by simp [inBox] at h
 | _::_,_::_,_::_,_::_,[],_,h,_,_=>by simp [inBox] at h
 | [],_::_,_,_,_,h,_,_,_=>by simp [wkB] at h
 | [],[],_::_,_,_,h,_,_,_=>by simp [wkB] at h
 | _::_,[],_,_,_,h,_,_,_=>by simp [wkB] at h
 | _::_,_::_,[],_,_,h,_,_,_=>by simp [wkB] at h
theorem filter_map_cons (c d x:Int) (i:List Int) (l:List (List Int × List Int)) :
  (l.map fun y=>(c::y.1,d::y.2)).filter (fun y=>inB y.1 y.2 (x::i))=if c≤x∧x < d then (l.filter fun y=>inB y.1 y.2 i).map fun y=>(c::y.1,d::y.2) else []:=by
 rw [List.filter_map]
 by_cases h:c≤x∧x < d
 ·rw [if_pos h]
  congr 1
  refine List.filter_congr fun y _=>?_
  simp [inB,h.1,h.2]
 ·rw [if_neg h]
  have:(l.filter ((fun y:List Int × List Int=>inB y.1 y.2 (x::i)) ∘ fun y=>(c::y.1,d::y.2)))=[]:=by
   refine List.filter_eq_nil_iff.2 fun y _=>?_
   simp only [Function.comp,inB,Bool.and_eq_true,decide_eq_true_eq]
   exact fun hh=>h hh.1
  rw [this]; rfl
theorem minus_parts:∀ (al ah cl ch i:List Int),inBox al ah cl ch→inB al ah i=true →
  (inB cl ch i=true→(minusR al ah cl ch).filter (fun y=>inB y.1 y.2 i)=[])∧(inB cl ch i=false→∃ q,(minusR al ah cl ch).filter (fun y=>inB y.1 y.2 i)=[q])
 | [],[],[],[],[],_,_=>⟨fun _=>rfl,fun h=>by simp [inB] at h⟩
 | a::al,b::ah,c::cl,d::ch,x::i,hb,hi=>by
  obtain ⟨h1,h2,h3,hb'⟩:=hb
  simp only [inB,Bool.and_eq_true,decide_eq_true_eq] at hi
  obtain ⟨ih1,ih2⟩:=minus_parts al ah cl ch i hb' hi.2
  have e0:inB (a::al) (c::ah) (x::i)=decide (x < c):=by simp [inB,hi.1.1,hi.2]
  have e1:inB (d::al) (b::ah) (x::i)=decide (d≤x):=by simp [inB,hi.1.2,hi.2]
  have ec:inB (c::cl) (d::ch) (x::i)=(decide (c≤x) && decide (x < d) && inB cl ch i):=rfl
  rw [minusR,List.filter_cons,List.filter_cons,filter_map_cons,ec]
  simp only [e0,e1]
  by_cases c1:x < c
  ·have n1:¬ d≤x:=by omega
   have n2:¬ (c≤x∧x < d):=by omega
   have n3:¬ c≤x:=by omega
   rw [if_neg n2]
   simp [c1,n1,n3]
  ·by_cases c2:d≤x
   ·have n2:¬ (c≤x∧x < d):=by omega
    have n3:¬ x < d:=by omega
    rw [if_neg n2]
    simp [c1,c2,n3]
   ·have y2:c≤x∧x < d:=by omega
    rw [if_pos y2]
    simp only [y2.1,y2.2,decide_true,Bool.true_and,c1,c2,decide_false]
    refine ⟨fun h=>by simp [ih1 h],fun h=>?_⟩
    obtain ⟨q,hq⟩:=ih2 h
    exact ⟨(c::q.1,d::q.2),by simp [hq]⟩
theorem inB_full:∀ {lo hi i:List Int},inB lo hi i=true→fullB lo hi=true
 | [],[],[],_=>rfl
 | l::lo,h::hi,x::i,H=>by
  simp only [inB,Bool.and_eq_true,decide_eq_true_eq] at H
  simp only [fullB,Bool.and_eq_true,decide_eq_true_eq]
  exact ⟨by omega,inB_full H.2⟩
theorem okB_lo:∀ {s lo hi:List Int},okB s lo hi→vld s lo=true∧inB lo hi lo=true
 | [],[],[],_=>⟨rfl,rfl⟩
 | n::s,l::lo,h::hi,⟨⟨k1,k2,k3⟩,k4⟩=>by
  obtain ⟨i1,i2⟩:=okB_lo k4
  simp only [vld,inB,i1,i2,Bool.and_true,Bool.and_eq_true,decide_eq_true_eq]
  omega
 | [],_::_,_,h=>by simp [okB] at h
 | [],[],_::_,h=>by simp [okB] at h
 | _::_,[],_,h=>by simp [okB] at h
 | _::_,_::_,[],h=>by simp [okB] at h
theorem vld_inB:∀ {s i:List Int},vld s i=true→inB (List.replicate s.length 0) s i=true
 | [],[],_=>rfl
 | n::s,x::i,h=>by
  simp only [vld,Bool.and_eq_true,decide_eq_true_eq] at h
  simp only [List.length_cons,List.replicate_succ,inB,Bool.and_eq_true,decide_eq_true_eq]
  exact ⟨h.1,vld_inB h.2⟩
 | [],_::_,h=>by cases h
 | _::_,[],h=>by cases h
def hasP (i:List Int) (x:Qa):Bool:=inB x.box.lo x.box.hi i
theorem count_full (i:List Int) (l:List Qa):(l.filter fullP).countP (hasP i)=l.countP (hasP i):=by
 rw [List.countP_filter]
 congr 1
 funext x
 unfold hasP fullP
 cases h:inB x.box.lo x.box.hi i with
 | false=>rfl
 | true=>simp [inB_full h]
theorem dist_of {s:List Int}:∀ {l:List Qa},(∀ x∈l,okB s x.box.lo x.box.hi)→(∀ i,vld s i=true→l.countP (hasP i)≤1)→l.Pairwise fun a b=>a.box.lo≠b.box.lo
 | [],_,_=>.nil
 | a::l,ho,hc=>by
  obtain ⟨v1,v2⟩:=okB_lo (ho a (List.mem_cons_self ..))
  refine List.pairwise_cons.2 ⟨fun b hb e=>?_,dist_of (fun x hx=>ho x (List.mem_cons_of_mem _ hx)) fun i hi=>?_⟩
  ·have h1:=hc a.box.lo v1
   rw [List.countP_cons_of_pos (by exact v2)] at h1
   have h2:0 < l.countP (hasP a.box.lo):=List.countP_pos_iff.2 ⟨b,hb,by rw [e]; exact (okB_lo (ho b (List.mem_cons_of_mem _ hb))).2⟩
   omega
  ·have:=hc i hi
   rw [List.countP_cons] at this
   omega
theorem cmp_less:∀ {a b:List Int},a.length=b.length→cmpL a b < 0→lessL a b=true
 | [],[],_,h=>by simp [cmpL] at h
 | x::a,y::b,h,g=>by
  simp only [cmpL] at g
  simp only [lessL]
  split at g
  ·rw [if_pos (by omega)]; exact decide_eq_true (by omega)
  ·split at g
   ·omega
   ·rw [if_neg (by omega)]; exact cmp_less (by simpa using h) g
 | [],_::_,h,_=>by simp at h
 | _::_,[],h,_=>by simp at h
theorem chn_of {n:Nat}:∀ {l:List Qa},(∀ x∈l,x.box.lo.length=n)→strictT l=true→chn (l.map bkP)
 | [],_,_=>trivial
 | [_],_,_=>trivial
 | a::b::l,hl,h=>by
  simp only [strictT,Bool.and_eq_true,decide_eq_true_eq] at h
  exact ⟨cmp_less ((hl a (by simp)).trans (hl b (by simp)).symm) h.1,chn_of (fun x hx=>hl x (List.mem_cons_of_mem _ hx)) h.2⟩
def fillA:Qp:=⟨1,0,0,[],0,0,0⟩
def fillB (b:Qe):Qa:=⟨b,fillA⟩
theorem rest_wk {s cl ch:List Int} (h0:∀ n∈s,0≤n) (hc:wkB s cl ch):∀ b∈restB s cl ch,wkB s b.lo b.hi:=fun b hb=>by
 have hb:=(List.mem_filter.1 hb).1
 by_cases f:fullB cl ch=true
 ·rw [if_pos f] at hb
  obtain ⟨x,hx,rfl⟩:=List.mem_map.1 hb
  exact minusR_wk (wk_whole h0) (wk_inBox hc) x hx
 ·rw [if_neg f] at hb
  simp only [List.mem_singleton] at hb
  subst hb
  exact wk_whole h0
theorem rest_len (s cl ch:List Int):(restB s cl ch).length≤2 * s.length+1:=by
 unfold restB
 refine Nat.le_trans (List.length_filter_le _ _) ?_
 split
 ·have:=minusR_len (List.replicate s.length 0) s cl ch
  simp at this ⊢; omega
 ·simp
theorem rest_count {s cl ch i:List Int} (a:Qp) (hc:wkB s cl ch) (hi:vld s i=true):((⟨⟨cl,ch⟩,a⟩:Qa)::(restB s cl ch).map fillB).countP (hasP i)=1:=by
 have hw:=vld_inB hi
 have e:((restB s cl ch).map fillB).countP (hasP i)=((if fullB cl ch then (minusR (List.replicate s.length 0) s cl ch).map fun x=>(⟨x.1,x.2⟩:Qe) else [⟨List.replicate s.length 0,s⟩])).countP (fun b=>inB b.lo b.hi i):=by
  rw [List.countP_map,restB,List.countP_filter]
  congr 1
  funext b
  show (inB b.lo b.hi i && fullB b.lo b.hi)=inB b.lo b.hi i
  cases h:inB b.lo b.hi i with
  | false=>rfl
  | true=>simp [inB_full h]
 rw [List.countP_cons,e]
 by_cases f:fullB cl ch=true
 ·rw [if_pos f,List.countP_map]
  have hm:=minus_parts (List.replicate s.length 0) s cl ch i (wk_inBox hc) hw
  have e2:(minusR (List.replicate s.length 0) s cl ch).countP ((fun b:Qe=>inB b.lo b.hi i) ∘ fun x=>(⟨x.1,x.2⟩:Qe))=((minusR (List.replicate s.length 0) s cl ch).filter fun y=>inB y.1 y.2 i).length:=List.countP_eq_length_filter
  rw [e2]
  unfold hasP
  cases g:inB cl ch i with
  | true=>rw [hm.1 g]; simp
  | false=>obtain ⟨q,hq⟩:=hm.2 g; rw [hq]; simp
 ·rw [if_neg f]
  unfold hasP
  have g:inB cl ch i=false:=by
   cases g:inB cl ch i with
   | false=>rfl
   | true=>exact absurd (inB_full g) f
  simp [g,hw]
theorem shf_fill (k n:Int):Yn (fillA,k,n)=some fillA:=by
 simp only [Yn,Z6,fillA,if_true,Qj]
theorem shf_lin {b o:Int} {st:List Int} {k:Nat} (n:Int) (hk:k < st.length) (hl:st.length≤600):∃ o',Yn (⟨2,b,o,st,0,0,0⟩,(k:Int),n)=some ⟨2,b,o',st,0,0,0⟩:=by
 have c:Qs st=some st:=app_le (by simp; omega) (by omega)
 have g1:¬ ((2:Int)=1):=by omega
 have g2:¬ ((2:Int)=3):=by omega
 refine ⟨W (o+W (n * st[k])),?_⟩
 simp only [Yn,Z6,g1,g2,if_false,Qj,Yd,c,Ye,ZO,idx_ok hk,ZJ]
theorem W2_fill (p1 p2:List Int) (v201 p0:List Qa) (v202:Int) (v602:Qa):∀ (st p:List Int),p.length+st.length≤600→QM (p++st,p1,p2,v201,p0,v202,v602,1,0,0,[],0,0,0,(p.length:Int))=some (1,0,0,[],0,0,0)
 | [],p,h=>by
  rw [QM]
  simp only [ZP,if_false]
 | n::st,p,h=>by
  rw [QM]
  have ih:=W2_fill p1 p2 v201 p0 v202 v602 st (p++[n]) (by simp at h ⊢; omega)
  rw [← Qu] at ih
  have e:=shf_fill (p.length:Int) n
  unfold fillA at e
  simp only [Zq,if_true,QB,Qj,e,Qah h,ih]
theorem W2_lin (p1 p2:List Int) (v201 p0:List Qa) (v202:Int) (v602:Qa) {b:Int} {str:List Int} (hs:str.length≤600):∀ (st p:List Int) (o:Int),p.length+st.length≤str.length→∃ o',QM (p++st,p1,p2,v201,p0,v202,v602,2,b,o,str,0,0,0,(p.length:Int))=some (2,b,o',str,0,0,0)
 | [],p,o,h=>by
  rw [QM]
  simp only [ZP,if_false]
  exact ⟨o,rfl⟩
 | n::st,p,o,h=>by
  rw [QM]
  obtain ⟨o1,e⟩:=shf_lin (b:=b) (o:=o) (st:=str) (k:=p.length) n (by simp at h; omega) hs
  obtain ⟨o',ih⟩:=W2_lin p1 p2 v201 p0 v202 v602 (b:=b) hs st (p++[n]) o1 (by simp at h ⊢; omega)
  rw [← Qu] at ih
  refine ⟨o',?_⟩
  simp only [Zq,if_true,QB,Qj,e,Qah (show p.length+(n::st).length≤600 by omega),ih]
theorem W3_ok (c:Qe):∀ (l p:List Qe) (out:List Qa),p.length+l.length≤100000→out.length≤p.length+1→ZE (p++l,c,out,(p.length:Int))=some (out++l.map fillB)
 | [],p,out,h,ho=>by
  rw [ZE]
  simp only [ZP,if_false]; simp only [List.map_nil,List.append_nil]
 | b::l,p,out,h,ho=>by
  rw [ZE]
  have hW:W ((p.length:Int)+1)=((p++[b]).length:Int):=by simp at h; rw [W_in (by omega) (by omega)]; simp
  have ih:=W3_ok c l (p++[b]) (out++[fillB b]) (by simp at h ⊢; omega) (by simp; omega)
  rw [← Qu] at ih
  have ha:app 120 out [fillB b]=some (out++[fillB b]):=app_le (by simp at h ⊢; omega) (by omega)
  unfold fillB fillA at ha
  simp only [Zq,if_true,QB,Qj,ha,hW]
  refine ih.trans ?_
  simp
theorem bind_id {α:Type} (x:Option α):(x>>=fun v=>some v)=x:=by cases x <;> rfl
section
variable {s st:List Int}
theorem Win_nil (hP:prodI s≤65536) (hs:s.length≤16) (h0:∀ n∈s,0≤n) (hst:st.length=s.length) :
  Zm ([],s,s,st)=QZ ((restB s (clo (List.replicate s.length 0) s st) (chi (List.replicate s.length 0) s s st)).map fillB):=by
 have hc:=clip_wk (lo:=List.replicate s.length 0) (hi:=s) (t:=s) (st:=st) (by simp [hst]) hst.symm hst.symm h0
 have e1:=clip_ok (lo:=List.replicate s.length 0) (hi:=s) (t:=s) (st:=st) (by simp [hst]) hst.symm hst.symm (by omega)
 obtain ⟨g,eg⟩:=whole_ok s (by omega)
 have e2:=Minus_ok hP (by omega) h0 hc
 have hr:=rest_len s (clo (List.replicate s.length 0) s st) (chi (List.replicate s.length 0) s s st)
 have e3:=W3_ok ⟨clo (List.replicate s.length 0) s st,chi (List.replicate s.length 0) s s st⟩ (restB s (clo (List.replicate s.length 0) s st) (chi (List.replicate s.length 0) s s st)) [] [] (by simp; omega) (by simp)
 simp only [List.nil_append,List.length_nil,Int.natCast_zero] at e3
 unfold Zm
 dsimp only
 rw [ZD]
 have l0:¬ ((0:Int) < (([]:List Qa).length:Int)):=by simp
 simp only [l0,if_false,Qj,make_ok s (by omega),e1,eg,e2,e3,bind_id]
theorem Win_one (hP:prodI s≤65536) (hs:s.length≤16) (h0:∀ n∈s,0≤n) (hst:st.length=s.length) {x:Qa} (hx:x.box=⟨List.replicate s.length 0,s⟩) {k b o t e m:Int} {str:List Int}
  (hL:QM (st,s,s,[],[x],0,x,x.access.kind,x.access.buffer,x.access.base,x.access.strides,x.access.start,x.access.step,x.access.mod,0)=some (k,b,o,str,t,e,m)) :
  Zm ([x],s,s,st)=QZ (⟨⟨clo (List.replicate s.length 0) s st,chi (List.replicate s.length 0) s s st⟩,⟨k,b,o,str,t,e,m⟩⟩::(restB s (clo (List.replicate s.length 0) s st) (chi (List.replicate s.length 0) s s st)).map fillB):=by
 have hc:=clip_wk (lo:=List.replicate s.length 0) (hi:=s) (t:=s) (st:=st) (by simp [hst]) hst.symm hst.symm h0
 have e1:=clip_ok (lo:=List.replicate s.length 0) (hi:=s) (t:=s) (st:=st) (by simp [hst]) hst.symm hst.symm (by omega)
 obtain ⟨g,eg⟩:=whole_ok s (by omega)
 have e2:=Minus_ok hP (by omega) h0 hc
 have hr:=rest_len s (clo (List.replicate s.length 0) s st) (chi (List.replicate s.length 0) s s st)
 have e3:=W3_ok ⟨clo (List.replicate s.length 0) s st,chi (List.replicate s.length 0) s s st⟩ (restB s (clo (List.replicate s.length 0) s st) (chi (List.replicate s.length 0) s s st)) [] [⟨⟨clo (List.replicate s.length 0) s st,chi (List.replicate s.length 0) s s st⟩,⟨k,b,o,str,t,e,m⟩⟩] (by simp; omega) (by simp)
 simp only [List.nil_append,List.length_nil,Int.natCast_zero] at e3
 unfold Zm
 dsimp only
 rw [ZD]
 have i0:idx [x] 0=some x:=rfl
 have l0:((0:Int) < (([x]:List Qa).length:Int)):=by simp
 have l1:¬ ((1:Int) < (([x]:List Qa).length:Int)):=by simp
 have w:W (0+1)=1:=by decide
 simp only [l0,if_true,i0,Qj,hL,hx,e1,w]
 rw [app_le (by simp) (by omega),Qj,ZD]
 simp only [l1,if_false,Qj,make_ok s (by omega),e1,eg,e2,List.nil_append,e3,bind_id]
 rfl
end
theorem not_full:∀ {s st:List Int} {k:Nat} (hk:k < s.length),st.length=s.length→(∀ n∈s,0≤n∧n≤65536)→fullB (clo (List.replicate s.length 0) s (st.set k s[k])) (chi (List.replicate s.length 0) s s (st.set k s[k]))=false
 | n::s,m::st,0,hk,hl,hp=>by
  have hn:=hp n (List.mem_cons_self ..)
  have w1:W (0 - n)=-n:=by rw [W_ok (by omega) (by omega)]; omega
  have w2:W (n - n)=0:=by rw [W_ok (by omega) (by omega)]; omega
  have a:frm 0 n n=0:=by
   unfold frm; rw [w1]
   split <;> split <;> omega
  have b:til 0 n n n=0:=by
   unfold til; rw [w2,a]
   split <;> split <;> omega
  simp only [List.length_cons,List.replicate_succ,List.set_cons_zero,List.getElem_cons_zero,clo,chi,fullB,a,b]
  rfl
 | n::s,m::st,k+1,hk,hl,hp=>by
  have ih:=not_full (s:=s) (st:=st) (k:=k) (by simpa using hk) (by simpa using hl) (fun x hx=>hp x (List.mem_cons_of_mem _ hx))
  simp only [List.length_cons,List.replicate_succ,List.set_cons_succ,List.getElem_cons_succ,clo,chi,fullB,ih,Bool.and_false]
 | [],_,_,hk,_,_=>by simp at hk
 | _::_,[],_,_,h,_=>by simp at h
theorem Wk {P:List Qa} {s st:List Int}:ZL (P,s,s,st)=Zm (P,s,s,st):=by
 unfold ZL
 refine if_neg fun e=>?_
 have h1:=congrArg (fun x=>x.2.1) e
 have h2:=congrArg (fun x=>x.2.2.1) e
 simp only [XS] at h1 h2
 rw [h1] at h2
 simp at h2
theorem Rk {P:List Qa} {a b:Int} (h:P.length≤1):ZS (P,a,b)=ZV (P,a,b):=by
 unfold ZS
 refine if_neg fun e=>?_
 have h1:=congrArg (fun x=>x.1.length) e
 simp only [XI,List.length_cons,List.length_nil] at h1
 omega
theorem Rev_nil (a b:Int):ZV ([],a,b)=some []:=by
 unfold ZV
 dsimp only
 rw [Zl]
 have l0:¬ ((0:Int) < (([]:List Qa).length:Int)):=by simp
 simp only [l0,if_false,Qj,listed_nil]
theorem flp_fill (k n:Int):Y0 (fillA,k,n)=some fillA:=by
 simp only [Y0,Yz,fillA,if_true,Qj]
theorem Rev_fill {s:List Int} {k:Nat} (hk:k < s.length) (hP:prodI s≤65536) (hs:s.length≤16) (h0:∀ n∈s,1≤n∧n≤65536):ZV ([fillP s],(k:Int),s[k])=some [fillP s]:=by
 unfold ZV
 dsimp only
 rw [Zl]
 have i0:idx [fillP s] 0=some (fillP s):=rfl
 have l0:((0:Int) < (([fillP s]:List Qa).length:Int)):=by simp
 have l1:¬ ((1:Int) < (([fillP s]:List Qa).length:Int)):=by simp
 have w:W (0+1)=1:=by decide
 have ef:Y0 ((fillP s).access,(k:Int),s[k])=some fillA:=flp_fill _ _
 have hsk:=h0 s[k] (List.getElem_mem hk)
 have c1:Qs (List.replicate s.length 0)=some (List.replicate s.length 0):=app_le (by simp; omega) (by omega)
 have c2:Qs s=some s:=app_le (by simp; omega) (by omega)
 have j1:idx (List.replicate s.length (0:Int)) (k:Int)=some 0:=by rw [idx_ok (by simpa using hk)]; simp
 have j2:idx s (k:Int)=some s[k]:=idx_ok hk
 have w1:W (s[k] - s[k])=0:=by rw [W_ok (by omega) (by omega)]; omega
 have w2:W (s[k] - 0)=s[k]:=by rw [W_ok (by omega) (by omega)]; omega
 have s1:setM (List.replicate s.length (0:Int)) (k:Int) 0=some (List.replicate s.length 0):=by
  rw [setM_ok (by simpa using hk)]
  congr 1
  exact List.ext_getElem (by simp) fun i h1 h2=>by rw [List.getElem_set]; split <;> simp
 have s2:setM s (k:Int) s[k]=some s:=by
  rw [setM_ok hk]; simp
 have ew:∀ n,Yr ((fillP s).box.lo,(fillP s).box.hi,(fillP s).access.kind,(fillP s).access.buffer,(fillP s).access.base,(fillP s).access.strides,(fillP s).access.start,(fillP s).access.step,(fillP s).access.mod,(k:Int),s[k],fillA.kind,fillA.buffer,fillA.base,fillA.strides,fillA.start,fillA.step,fillA.mod,n)=some (List.replicate s.length 0,s,s.length,s.length,List.replicate s.length 0,s):=fun n=>by
  simp only [Yr,fillP,c1,c2,Qj,j1,j2,Z9,w1,w2,s1,s2,List.length_replicate]
  rw [guardM_ok trivial,Qj,Qj]
 simp only [l0,if_true,i0,Qj,ef,ew,w]
 rw [app_le (by simp) (by omega),Qj,Zl]
 have el:=listed_one hP (by omega) (fillP s) (wk_whole fun n hn=>by have:=h0 n hn; omega)
 rw [if_pos (show fullP (fillP s)=true from full_whole fun n hn=>(h0 n hn).1)] at el
 simp only [l1,if_false,Qj,List.nil_append]
 show (QZ [fillP s]>>=_)=_
 rw [el]; rfl
theorem PF_L1 (v7:List Qa) (v8:Int):∀ (t p s:List Int) (g:Nat),s.length=(p++t).length→p.length+t.length≤600→∃ o,QR (s,p++t,v7,v8,g,p,(p.length:Int))=some o∧∀ g' v,o=.inr (g',v)→v=p++t
 | [],p,s,g,hs,hl=>by
  rw [QR]
  have:¬ ((p.length:Int) < (s.length:Int)):=by rw [hs]; simp
  simp only [this,if_false]
  exact ⟨_,rfl,fun g' v h=>by cases h; simp⟩
 | x::t,p,s,g,hs,hl=>by
  rw [QR]
  have h1:((p.length:Int) < (s.length:Int)):=by rw [hs]; exact Zq
  have ha:app 8 p [x]=some (p++[x]):=app_le (by simp at hl ⊢; omega) (by omega)
  obtain ⟨o,e,ho⟩:=PF_L1 v7 v8 t (p++[x]) s (gb g ([x]:List Int).isEmpty) (by rw [hs]; simp) (by simp at hl ⊢; omega)
  rw [← Qu] at e ho
  simp only [h1,if_true,QB,Qj,ite_some,ha,Qah hl,e]
  by_cases c1:x < -60000
  ·exact ⟨.inl (g,p),by simp [c1],fun g' v h=>by cases h⟩
  ·by_cases c2:x > 60000
   ·exact ⟨.inl (g,p),by simp [c1,c2],fun g' v h=>by cases h⟩
   ·exact ⟨o,by simp [c1,c2],ho⟩
theorem PF_L2 (g:Nat):∀ (l p:List Qc),p.length+l.length≤100000→(∀ x∈l,x.access.kind=1)→QK (p++l,g,(p.length:Int))=some (.inr ())
 | [],p,h,hk=>by
  rw [QK]
  simp only [ZP,if_false]
 | x::l,p,h,hk=>by
  rw [QK]
  have hW:W ((p.length:Int)+1)=((p++[x]).length:Int):=by simp at h; rw [W_in (by omega) (by omega)]; simp
  have ih:=PF_L2 g l (p++[x]) (by simp at h ⊢; omega) (fun y hy=>hk y (List.mem_cons_of_mem _ hy))
  rw [← Qu] at ih
  have h1:=hk x (List.mem_cons_self ..)
  simp only [Zq,if_true,QB,Qj,h1,ne_eq,not_true,if_false,hW,ih]
section
variable {s:List Int}
theorem Win_fill (hc:checkR s=0) (hz:prodI s≠0) {st:List Int} (hst:st.length=s.length) (hall:YO s=some (allL s)) (hA:(allL s).length≤100000) :
  ∃ Q,Zm ([fillP s],s,s,st)=some Q∧Q.length≤1000∧(∀ x∈Q.map bkP,x.access.kind=1)∧Ys (s,Q.map bkP)=some true:=by
 obtain ⟨h1,h2,h3⟩:=checkR_ok hc
 have h0:∀ n∈s,0≤n:=fun n hn=>(h3 n hn).1
 have hcw:=clip_wk (lo:=List.replicate s.length 0) (hi:=s) (t:=s) (st:=st) (by simp [hst]) hst.symm hst.symm h0
 have hL:=W2_fill s s [] [fillP s] 0 (fillP s) st [] (by simp; omega)
 rw [Win_one h2 (by omega) h0 hst (x:=fillP s) rfl hL]
 generalize clo (List.replicate s.length 0) s st=cl at *
 generalize chi (List.replicate s.length 0) s s st=ch at *
 have hr:=rest_len s cl ch
 let l:List Qa:=⟨⟨cl,ch⟩,fillA⟩::(restB s cl ch).map fillB
 have hw:∀ x∈l,wkB s x.box.lo x.box.hi:=fun x hx=>by
  rcases List.mem_cons.1 hx with rfl|hx
  ·exact hcw
  ·obtain ⟨b,hb,rfl⟩:=List.mem_map.1 hx
   exact rest_wk h0 hcw b hb
 have hk:∀ x∈l,x.access=fillA:=fun x hx=>by
  rcases List.mem_cons.1 hx with rfl|hx
  ·rfl
  ·obtain ⟨b,hb,rfl⟩:=List.mem_map.1 hx
   rfl
 have hcnt:∀ i,vld s i=true→(l.filter fullP).countP (hasP i)=1:=fun i hi=>by
  rw [count_full]
  exact rest_count fillA hcw hi
 have hok:∀ x∈l.filter fullP,okB s x.box.lo x.box.hi:=fun x hx=>by
  obtain ⟨k1,k2⟩:=List.mem_filter.1 hx
  exact wk_ok (hw x k1) k2
 have hd:=dist_of hok (fun i hi=>by have:=hcnt i hi; omega)
 have hll:l.length≤1000:=by simp [l]; omega
 have e:QZ l=some (sortT (l.filter fullP)):=listed_ok h2 (by omega) (by omega) hw hd
 have hp:=sortT_perm (l.filter fullP)
 have hlen:(sortT (l.filter fullP)).length≤1000:=by
  rw [hp.length_eq]
  exact Nat.le_trans (List.length_filter_le _ _) hll
 have hmem:∀ x∈sortT (l.filter fullP),okB s x.box.lo x.box.hi∧x.access=fillA:=fun x hx=>by
  have:=hp.mem_iff.1 hx
  exact ⟨hok x this,hk x (List.mem_filter.1 this).1⟩
 refine ⟨_,e,hlen,fun x hx=>?_,?_⟩
 ·obtain ⟨y,hy,rfl⟩:=List.mem_map.1 hx
  show y.access.kind=1
  rw [(hmem y hy).2]; rfl
 ·refine Covers_gen (fun n hn=>(h3 n hn).2) (by omega) hall hA (by simp; omega) (fun x hx=>?_) (chn_of (n:=s.length) (fun x hx=>(okB_len (hmem x hx).1).1) (sort_strict hd)) (fun i hi=>?_)
  ·obtain ⟨y,hy,rfl⟩:=List.mem_map.1 hx
   refine ⟨(hmem y hy).1,?_⟩
   have:=(hmem y hy).2
   show Yj (⟨y.access.kind,y.access.buffer,y.access.base,y.access.strides,y.access.start,y.access.step,y.access.mod⟩,_)=_
   rw [this]
   exact right_fill h1
  ·rw [List.countP_map]
   exact (hp.countP_eq _).trans (hcnt i (mem_allL.1 hi))
theorem Win_off (hc:checkR s=0) (hz:prodI s≠0) {st:List Int} (hst:st.length=s.length) {k:Nat} (hk:k < s.length) (b:Int):Zm ([wholeP b s],s,s,st.set k s[k])=some [fillP s]:=by
 obtain ⟨h1,h2,h3⟩:=checkR_ok hc
 have h0:∀ n∈s,0≤n:=fun n hn=>(h3 n hn).1
 have hst':(st.set k s[k]).length=s.length:=by simpa using hst
 have hcw:=clip_wk (lo:=List.replicate s.length 0) (hi:=s) (t:=s) (st:=st.set k s[k]) (by simp [hst']) hst'.symm hst'.symm h0
 have hnf:=not_full hk hst h3
 obtain ⟨o',hL⟩:=W2_lin s s [] [wholeP b s] 0 (wholeP b s) (b:=b) (str:=strd s) (by rw [strd_len]; omega) (st.set k s[k]) [] 0 (by rw [strd_len]; simp; omega)
 rw [Win_one h2 (by omega) h0 hst' (x:=wholeP b s) rfl hL]
 generalize clo (List.replicate s.length 0) s (st.set k s[k])=cl at *
 generalize chi (List.replicate s.length 0) s s (st.set k s[k])=ch at *
 have hfw:fullB (List.replicate s.length 0) s=true:=full_whole (prodI_zero_iff h0 hz)
 have hr:restB s cl ch=[⟨List.replicate s.length 0,s⟩]:=by
  unfold restB
  rw [hnf]
  simp [fullX,hfw]
 rw [hr]
 have hf:([⟨⟨cl,ch⟩,⟨2,b,o',strd s,0,0,0⟩⟩,fillP s]:List Qa).filter fullP=[fillP s]:=by
  rw [List.filter_cons_of_neg (by simp [fullP,hnf]),List.filter_cons_of_pos (by exact hfw)]; rfl
 have e:=listed_ok h2 (by omega) (l:=[⟨⟨cl,ch⟩,⟨2,b,o',strd s,0,0,0⟩⟩,fillP s]) (by simp) (fun x hx=>by
  simp only [List.mem_cons,List.not_mem_nil,or_false] at hx
  rcases hx with rfl|rfl
  ·exact hcw
  ·exact wk_whole h0) (by rw [hf]; simp)
 rw [hf] at e
 exact e
theorem Win_none (hc:checkR s=0) (hz:prodI s=0) {st:List Int} (hst:st.length=s.length):Zm ([],s,s,st)=some []:=by
 obtain ⟨h1,h2,h3⟩:=checkR_ok hc
 have h0:∀ n∈s,0≤n:=fun n hn=>(h3 n hn).1
 have hcw:=clip_wk (lo:=List.replicate s.length 0) (hi:=s) (t:=s) (st:=st) (by simp [hst]) hst.symm hst.symm h0
 rw [Win_nil h2 (by omega) h0 hst]
 generalize clo (List.replicate s.length 0) s st=cl at *
 generalize chi (List.replicate s.length 0) s s st=ch at *
 have hnf:∀ {lo hi:List Int},wkB s lo hi→fullB lo hi=false:=fun h=>by
  cases f:fullB _ _ with
  | false=>rfl
  | true=>have:=prodI_pos (okB_pos (wk_ok h f)); omega
 have hr:restB s cl ch=[]:=by
  unfold restB
  rw [hnf hcw]
  simp [fullX,hnf (wk_whole h0)]
 rw [hr]
 exact listed_nil
end
theorem PieceFills_ok (s p1:List Int) (p2:Int) (h2:0≤p2∧p2≤255) (hs:Sm s.length) (hp1:Sm p1.length):YR (s,p1,p2)=some true:=by
 unfold YR
 obtain ⟨t,et,ht⟩:=small_ok2 s 200 (by omega) hs
 simp only [awake_ok,Qj,Bool.true_eq_false,if_false,et]
 cases t with
 | false=>rfl
 | true =>
  have hsm:smallS 200 s:=ht rfl
  obtain ⟨g1,g2,g3,g4⟩:=ht rfl
  obtain ⟨c1,c2,c3⟩:=checkR_ok g2
  by_cases hn:s.length=0
  ·have:((s.length:Int) == 0)=true:=by rw [beq_iff_eq]; omega
   simp only [Bool.not_true,Bool.false_eq_true,if_false,Qj,this,if_true]
  have e0:((s.length:Int) == 0)=false:=by rw [beq_eq_false_iff_ne]; omega
  by_cases hl:p1.length=s.length
  ·have e1:((p1.length:Int) != (s.length:Int))=false:=by simp; omega
   have hk0:0≤p2.tmod (s.length:Int)∧p2.tmod (s.length:Int) < (s.length:Int):=⟨Int.tmod_nonneg _ h2.1,Int.tmod_lt_of_pos _ (by omega)⟩
   obtain ⟨k,hk⟩:∃ k:Nat,p2.tmod (s.length:Int)=(k:Int):=⟨(p2.tmod (s.length:Int)).toNat,by omega⟩
   have hks:k < s.length:=by omega
   have er:remM (W p2) (s.length:Int)=some (k:Int):=by
    rw [W_ok (by omega) (by omega),remM,if_neg (by omega),hk]
   have hall:=small_All hsm (by omega)
   have hlen:((allL s).length:Int)=prodI s:=allL_len fun n hn=>(c3 n hn).1
   have hA:(allL s).length≤100000:=by omega
   obtain ⟨o,eo,ho⟩:=PF_L1 (if prodI s=0 then [] else [fillP s]) (k:Int) p1 [] s 0 (by simpa using hl.symm) (by simp; omega)
   have eo':QR (s,p1,(if prodI s=0 then [] else [fillP s]),(k:Int),0,[],0)=some o:=eo
   simp only [Bool.not_true,Bool.false_eq_true,if_false,Qj,e0,e1,pFilled_ok g2,er,eo']
   cases o with
   | inl x=>rfl
   | inr x =>
    obtain ⟨g,v⟩:=x
    have hv:v=p1:=by simpa using ho g v rfl
    subst hv
    have hkv:k < v.length:=by omega
    have j1:idx s (k:Int)=some s[k]:=idx_ok hks
    have j2:idx v (k:Int)=some v[k]:=idx_ok hkv
    have j3:setM v (k:Int) s[k]=some (v.set k s[k]):=setM_ok hkv
    simp only [j1,j2,j3,Qj,pWhole_ok 0 g2,guardM_ok (show (v.set k s[k]).length=v.length by simp),Wk,rFilled_ok g2]
    by_cases z:prodI s=0
    ·have hnil:allL s=[]:=List.eq_nil_of_length_eq_zero (by omega)
     have ec:Ys (s,[])=some true:=Covers_gen (fun n hn=>(c3 n hn).2) (by omega) hall hA (P:=[]) (by simp) (fun x hx=>by simp at hx) trivial (fun i hi=>by rw [hnil] at hi; simp at hi)
     have e2:QK ([],g,0)=some (.inr ()):=PF_L2 g [] [] (by simp) (fun x hx=>by simp at hx)
     have b0:Z1 []=some []:=Back_ok (l:=[]) (by simp)
     simp only [z,if_true,Win_none g2 z hl,Win_none g2 z (st:=v.set k s[k]) (by simpa using hl),Qj,b0,Rk (P:=[]) (by simp),Rev_nil,Same_nil,Bool.true_eq_false,if_false,Bool.not_true,Bool.false_eq_true,ec,e2]
    ·have hpos:=prodI_zero_iff (fun n hn=>(c3 n hn).1) z
     obtain ⟨Q,q1,q2,q3,q4⟩:=Win_fill g2 z hl hall hA
     have b1:Z1 [fillP s]=some [bkP (fillP s)]:=Back_ok (l:=[fillP s]) (by simp)
     have b2:Z1 Q=some (Q.map bkP):=Back_ok (by omega)
     have s2:Yg ([bkP (fillP s)],[bkP (fillP s)])=some true:=Same_one _ (Sm_of (show _≤1000 by simp [bkP,fillP]; omega)) (Sm_of (show _≤1000 by simp [bkP,fillP]; omega)) (Sm_of (show _≤1000 by simp [bkP,fillP]))
     have er2:=Rev_fill hks c2 (by omega) (fun n hn=>⟨hpos n hn,(c3 n hn).2⟩)
     have e2:QK (Q.map bkP,g,0)=some (.inr ()):=PF_L2 g (Q.map bkP) [] (by simp; omega) q3
     simp only [z,if_false,Win_off g2 z hl hks,q1,Qj,b1,b2,Rk (P:=[fillP s]) (by simp),er2,s2,Bool.true_eq_false,Bool.not_true,Bool.false_eq_true,q4,e2]
  ·have e1:((p1.length:Int) != (s.length:Int))=true:=by simp; omega
   simp only [Bool.not_true,Bool.false_eq_true,if_false,Qj,e0,e1,if_true]
theorem ua3:prog.underlying 3=some (TypeDesc.int IntKind.i64):=by kernel_rfl
theorem ua22:prog.underlying 22=some (TypeDesc.slice 3):=by kernel_rfl
theorem ua5:prog.underlying 5=some (TypeDesc.int IntKind.u8):=by kernel_rfl
theorem ua4:prog.underlying 4=some TypeDesc.bool:=by kernel_rfl
theorem exists_map {α β:Type} {f:β→α} {p:β→Prop}:∀ {L:List α},(∀ x∈L,∃ y,x=f y∧p y)→∃ l:List β,L=l.map f∧∀ y∈l,p y
 | [],_=>⟨[],rfl,fun y h=>by cases h⟩
 | x::L,h=>by
  obtain ⟨y,rfl,hy⟩:=h x (List.mem_cons_self ..)
  obtain ⟨l,rfl,hl⟩:=exists_map (fun x hx=>h x (List.mem_cons_of_mem _ hx))
  exact ⟨y::l,rfl,fun z hz=>by
   rcases List.mem_cons.1 hz with rfl|hz
   ·exact hy
   ·exact hl z hz⟩
variable {B:Nat} {n:Nat} {cs:List Dat}
theorem tc3 (h:TyC prog B n 3 cs):∃ m:Int,cs=[(Qi m)]∧((-9223372036854775808)≤m∧m≤9223372036854775807):=by
 cases n with
 | zero=>exact h.elim
 | succ n =>
  simp only [TyC,ua3] at h
  obtain ⟨m,rfl,hm⟩:=h
  refine ⟨m,rfl,?_⟩
  simpa [Lit.wf,IntKind.min,IntKind.max,IntKind.signed,IntKind.bits] using hm
def ok22 (B:Nat) (x:(List Int)):Prop:=x.length≤B∧∀ m∈x,((-9223372036854775808)≤m∧m≤9223372036854775807)
theorem tc22 (h:TyC prog B n 22 cs):∃ l:(List Int),cs=[.lst ((List.map Qi) l)]∧ok22 B l:=by
 cases n with
 | zero=>exact h.elim
 | succ n =>
  simp only [TyC,ua22] at h
  obtain ⟨L,rfl,hl,hx⟩:=h
  obtain ⟨l,rfl,hm⟩:=exists_map (f:=fun m=>[(Qi m)]) (p:=fun m=>((-9223372036854775808)≤m∧m≤9223372036854775807)) (fun x hx'=>tc3 (hx x hx'))
  refine ⟨l,?_,by simpa using hl,hm⟩
  have e:(l.map (fun m=>[(Qi m)])).map (elemD prog 3)=l.map Qi:=by
   rw [List.map_map]; exact List.map_congr_left (fun m _=>by simp only [Function.comp_apply]; simp [elemD,aggB,ua3])
  rw [e]
theorem tc5 (h:TyC prog B n 5 cs):∃ m:Int,cs=[(numD .u8 m)]∧(0≤m∧m≤255):=by
 cases n with
 | zero=>exact h.elim
 | succ n =>
  simp only [TyC,ua5] at h
  obtain ⟨m,rfl,hm⟩:=h
  refine ⟨m,rfl,?_⟩
  simpa [Lit.wf,IntKind.min,IntKind.max,IntKind.signed,IntKind.bits] using hm
theorem ty22 {d:Dat} (h:TyA prog B 22 d):∃ m:(List Int),d=(.lst ((List.map Qi) m))∧(ok22 B m):=by
 obtain ⟨n,cs,h,hd⟩:=h
 obtain ⟨m,rfl,hm⟩:=tc22 h
 exact ⟨m,by rw [hd]; simp [elemD,aggB,ua22],hm⟩
theorem ty5 {d:Dat} (h:TyA prog B 5 d):∃ m:Int,d=(numD .u8 m)∧(0≤m∧m≤255):=by
 obtain ⟨n,cs,h,hd⟩:=h
 obtain ⟨m,rfl,hm⟩:=tc5 h
 exact ⟨m,by rw [hd]; simp [elemD,aggB,ua5],hm⟩
def argTs:List TypeId:=[3,22,5,4]
theorem argTs_closed:closedTs prog argTs=true:=by kernel_rfl
theorem laidOut:laidOutB prog=true:=by kernel_rfl
theorem summ:SummOK prog env:=⟨(fun f G h ds p hg=>by
  unfold env at h; dsimp only at h
  split at h
  ·cases h; cases hg
  cases h),
 (fun f G h=>by
  unfold env at h; dsimp only at h
  split at h
  ·rename_i e; subst e; cases h; exact ⟨by kernel_rfl,sort_call⟩
  cases h)⟩
theorem mixed:prog.follows .mixedOrders=true:=by kernel_rfl
theorem pure_of {f:FuncId} {dss:List Dat} {p:PV} (ho:p.out=true) (h:PC prog env f (dss.map .dat) [] p []):PureCall prog f dss p:=by
 obtain ⟨N,hN⟩:=h
 exact pure_sound summ mixed (hN N (Nat.le_refl _)) ho
end Go.Proofs.Tryz
