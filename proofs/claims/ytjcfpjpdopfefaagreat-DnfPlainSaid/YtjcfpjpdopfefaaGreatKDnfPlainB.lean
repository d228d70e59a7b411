/-
 Models of functions, their walks, and plain laws.
-/
import Derived.Test.YtjcfpjpdopfefaaGreatKDnfPlainA
namespace Go.Proofs.Tryz
open Go Go.Pm
set_option linter.unusedVariables false
set_option maxHeartbeats 2000000
set_option maxRecDepth 2000
def Yz (x:((List Int) × (List Int) × Int × Int × Int × (List Int) × Int × Int × Int × Int × Int × Int × Int × Int × (List Int) × Int × Int × Int × Nat)):Option (((List Int) × (List Int) × Nat × Nat × (List Int) × (List Int))) :=
 match x with
 | (q0,q1,q2,q3,q4,q5,q6,q7,q8,q9,q10,q11,q12,q13,q14,q15,q16,q17,q18) =>
 Qp q0>>=fun v1 =>
 Qp q1>>=fun v2 =>
 idx v1 q9>>=fun v3 =>
 idx v1 q9>>=fun v4 =>
 idx v2 q9>>=fun v5 =>
 idx v2 q9>>=fun v6 =>
 Yk (v4,v6,q10,q0,q1,q2,q3,q4,q5,q6,q7,q8,v1,v2,q18)>>=fun _ =>
 idx v1 q9>>=fun v7 =>
 setM v1 q9 (W (q10 - v6))>>=fun v8 =>
 idx v2 q9>>=fun v9 =>
 setM v2 q9 (W (q10 - v4))>>=fun v10 =>
 ZE (v8.length=v1.length)>>=fun _ =>
 ZE (v10.length=v2.length)>>=fun _ =>
 some (v8,v10,v1.length,v2.length,v8,v10)
theorem QaZ {q0 q1 q2 q3 q4 q5 q6 q7 q8 q9 q10 q11 q12 q13 q14 q15 q16 q17 q18 v5001 v5002 v5003 v5004 v5005 v5006} (hm:Yz (q0,q1,q2,q3,q4,q5,q6,q7,q8,q9,q10,q11,q12,q13,q14,q15,q16,q17,q18)=some (v5001,v5002,v5003,v5004,v5005,v5006)):PC prog env 116 [(QaH q0 q1 q2 q3 q4 q5 q6 q7 q8),(Qc q9),(.fn 117 [(.iptr [(Qg q10)])]),(XY q11 q12 q13 q14 q15 q16 q17)] [(.tok 62 q18),(Zw q0 q1 q2 q3 q4 q5 q6 q7 q8)] (QaH v5005 v5006 q11 q12 q13 q14 q15 q16 q17) [(.tok 62 q18),(Zw q0 q1 q2 q3 q4 q5 q6 q7 q8),(Zw q0 q1 q2 q3 q4 q5 q6 q7 q8),(Zw v5001 v5002 q11 q12 q13 q14 q15 q16 q17),QaI,QaI,(Qap v5003 v5004)]:=by
 unfold Yz at hm
 exact PC_sxB (fn:=f116) rfl (ge 3 (Qi (Yq (Qd 3 (bi hm fun v1 hx hm=>go 4 3 Qg (QF hx) (Qd 3 (bi hm fun v2 hx hm=>go 5 3 Qg (QF hx) (re 3 ⟨kr,Qi (Yq (Qd 10 (bi hm fun v3 hx hm=>QD rfl (fun _=>Zo (e:=3) (n:=q9) (j:=(q9).toNat) (tt:=4) (g:=1) (lo:=0) (len:=v1.length) (cap:=v1.length) (k:=.i64) kr kr rfl kr kr (idx_nat hx) (Nat.lt_of_lt_of_eq (idx_lt hx) rfl)) (bi hm fun v4 hx hm=>QD rfl (fun _=>Xr (tt:=4) (g:=1) (j:=(0+(q9).toNat)) (e:=3) (cs:=cellsOf Qg v1) (v:=.dat (Qg v4)) kr kr rfl kr (Yd kr) (cells_idx Qg hx)) (Qd 3 (bi hm fun v5 hx hm=>QD rfl (fun _=>Zo (e:=3) (n:=q9) (j:=(q9).toNat) (tt:=5) (g:=1) (lo:=0) (len:=v2.length) (cap:=v2.length) (k:=.i64) kr kr rfl kr kr (idx_nat hx) (Nat.lt_of_lt_of_eq (idx_lt hx) rfl)) (bi hm fun v6 hx hm=>QD rfl (fun _=>Xr (tt:=5) (g:=1) (j:=(0+(q9).toNat)) (e:=3) (cs:=cellsOf Qg v2) (v:=.dat (Qg v6)) kr kr rfl kr (Yd kr) (cells_idx Qg hx)) (bi hm fun _ hx hm=>Qcd (f:=117) (caps:=[(.iptr [(Qg q10)])]) (j:=6000) (e:=3) (ow':=[]) (Qar hx) (Qd 3 (bi hm fun v7 hx hm=>QD rfl (fun _=>Zo (e:=3) (n:=q9) (j:=(q9).toNat) (tt:=4) (g:=1) (lo:=0) (len:=v1.length) (cap:=v1.length) (k:=.i64) kr kr rfl kr kr (idx_nat hx) (Nat.lt_of_lt_of_eq (idx_lt hx) rfl)) (bi hm fun v8 hx hm=>Ym (fun H=>H.set 4 (QL v8)) rfl kr (fun _=>Qae Qg (l:=v1) (n:=q9) (y:=(W (q10 - v6))) hx (fun _=>rfl) kr rfl kr kr kr kr) (bi hm fun v9 hx hm=>QD rfl (fun _=>Zo (e:=3) (n:=q9) (j:=(q9).toNat) (tt:=5) (g:=1) (lo:=0) (len:=v2.length) (cap:=v2.length) (k:=.i64) kr kr rfl kr kr (idx_nat hx) (Nat.lt_of_lt_of_eq (idx_lt hx) rfl)) (bi hm fun v10 hx hm=>Ym (fun H=>H.set 5 (QL v10)) rfl kr (fun _=>Qae Qg (l:=v2) (n:=q9) (y:=(W (q10 - v4))) hx (fun _=>rfl) kr rfl kr kr kr kr) (QP ⟨kr,Qi (R_G (gi hm fun hl11 hm=>gi hm fun hl12 hm=>Ym (v:=(.dat (.agg [(Lb v8),(Lb v10)]))) (fun H=>((H.set 4 (.mt 3 (1+1) [])).set 5 (.mt 3 (1+1) []))) rfl kr (fun _=>QbM (n:=2) (i:=6) (off:=0) (bs:=[(.ms 4 1 0 v1.length v1.length),(.ms 5 1 0 v2.length v2.length)]) (cs:=[(.ms 4 1 0 v1.length v1.length),(.ms 5 1 0 v2.length v2.length)]) rfl rfl kr kr kr kr kr rfl (cl_ms Qg (fun _=>rfl) kr hl11 (cl_ms Qg (fun _=>rfl) kr hl12 cl_nil))) (re 3 (Ql zf))))⟩)))))) rfl rfl kr kr kr kr kr))))))))⟩))))))))
def Zd (x:((List Qa) × Int × Int × (List Qa) × Int)):Option ((List Qa)) :=
 match x with
 | (p0,p1,p2,v201,v202) =>
 if v202 < (p0.length:Int) then
  idx p0 v202>>=fun v602 =>
  Xi (v602.access,p1,p2)>>=fun v603 =>
  Yz (v602.box.lo,v602.box.hi,v602.access.kind,v602.access.buffer,v602.access.base,v602.access.strides,v602.access.start,v602.access.step,v602.access.mod,p1,p2,v603.kind,v603.buffer,v603.base,v603.strides,v603.start,v603.step,v603.mod,v201.length)>>=fun (v604,v605,v606,v607,v608,v609) =>
  app 120 v201 ([(⟨(⟨v608,v609⟩:Qj),v603⟩:Qa)]:List Qa)>>=fun v610 =>
  Zd (p0,p1,p2,v610,(W (v202+1)))
 else
 some v201
 partial_fixpoint
theorem Jf:∀ x r,Zd x=some r→match x with|(p0,p1,p2,v201,v202)=>LQ f70 70 [1,1,0,1,0,0] 1 ⟨kp 31 [(1,(Qc p1)),(5,(.iptr [(Qg p2)])),(7,(YI v201)),(10,(QM p0)),(11,(Qc (p0.length:Int))),(12,(Qc v202))],[(.tok 62 v201.length)]⟩ (P1 (.exit 0) (fun v601 d=>⟨sl d 31 [(7,(YI v601))],[(.tok 62 v601.length)]⟩) r):=by
 refine Zd.partial_correctness _ (fun Zd Jf x r hm=>?_)
 obtain ⟨p0,p1,p2,v201,v202⟩:=x
 exact lp (ge 1 (Qi (ri hm (fun hm=>Qo (Qi (Qm (Qi (R_G (ZX 9 Qa.toD hm fun v602 hm=>re 3 (Yq (Qd 8 (bi hm fun v603 hx hm=>cp (Qby hx) (bi6 hm fun v604 v605 v606 v607 v608 v609 hx hm=>QR (QaZ hx) (Qd 1 (bi hm fun v610 hx hm=>Qac 62 9 120 0 Qa.toD v201 ([(⟨(⟨v608,v609⟩:Qj),v603⟩:Qa)]:List Qa) v610 (xs:=(List.map Qa.toD) v201) (es:=(List.map Qa.toD) ([(⟨(⟨v608,v609⟩:Qj),v603⟩:Qa)]:List Qa)) (L:=(List.map Qa.toD)) (fun _=>rfl) rfl rfl Qa.fit hx (re 1 ⟨kr,R_G (re 2 (Jf _ _ hm _ kr))⟩))))))))))))) (fun hm=>QO zf))))
def Xh (x:((List Qa) × Int × Int)):Option (List Qa) :=
 match x with
 | (p0,p1,p2) =>
 Zd (p0,p1,p2,([]:List Qa),0)>>=fun v601 =>
 Q8 v601>>=fun v611 =>
 some v611
theorem Qbg {p0 p1 p2 r0} (hm:Xh (p0,p1,p2)=some r0):FQ 70 [(.lst ((List.map Qa.toD) p0)),(Qg p1),(Qg p2)] (QM r0):=by
 unfold Xh at hm
 exact fp (fn:=f70) rfl (ge 2 (ge 1 (Qi (gr 1 (ZM Qa.toD p0 (re 1 (Qm (ru1 hm (Jf _) fun v601 d hm=>gr 1 (bi hm fun v611 hx hm=>cp (YX hx) (re 1 (Ql zf)))))))))))
def Y3 (x:(Qf × (List (List Qa)))):Option (List Qa) :=
 match x with
 | (p0,p1) =>
 idx p1 0>>=fun v1 =>
 idx p0.shape p0.axis>>=fun v2 =>
 Xh (v1,p0.axis,v2)>>=fun v3 =>
 some v3
theorem QaU {p0 p1 r0} (hm:Y3 (p0,p1)=some r0):FQ 69 [(Qf.ex p0),(.lst ((List.map (fun l=>Dat.lst ((List.map Qa.toD) l))) p1))] (QM r0):=by
 unfold Y3 at hm
 exact fp (fn:=f69) rfl (ge 2 (Qi (Yq (Qd 1 (bi hm fun v1 hx hm=>YY 1 (fun l=>Dat.lst ((List.map Qa.toD) l)) p1 0 v1 (es:=(List.map (fun l=>Dat.lst ((List.map Qa.toD) l))) p1) (d:=(.lst ((List.map Qa.toD) v1))) rfl hx rfl rfl (Qd 7 (ZX 1 Qg hm fun v2 hm=>Qd 1 (bi hm fun v3 hx hm=>cp (Qbg hx) (re 1 ⟨kr,Ql zf⟩)))))))))
def YB (x:(Int × Int × Int × Int × Int × (List Int) × (List Int) × Int × Int × Int × (List Int) × Int × Int × Int × (List Int) × (List Int))):Option (Unit) :=
 match x with
 | (q0,q1,q2,q3,q4,q5,q6,q7,q8,q9,q10,q11,q12,q13,q14,q15) =>
 some ()
theorem QaD {q0 q1 q2 q3 q4 q5 q6 q7 q8 q9 q10 q11 q12 q13 q14 q15} (hm:YB (q0,q1,q2,q3,q4,q5,q6,q7,q8,q9,q10,q11,q12,q13,q14,q15)=some ()):PC prog env 163 [(Qc q0),(Qc q1),(.iptr [(Qg q2)]),(.iptr [(Qg q3)]),(.iptr [(Qg q4)])] [(Zw q5 q6 q7 q8 q9 q10 q11 q12 q13),JN,(Zw q5 q6 q7 q8 q9 q10 q11 q12 q13),JN,(QL q14),(QL q15),(Qap q14.length q15.length)] (.tup [(Qc (W ((if q3 < (if q0 < q2 then q2 else q0) then q3 else (if q0 < q2 then q2 else q0))+q4))),(Qc (W ((if (if q3 < (if q0 < q2 then q2 else q0) then q3 else (if q0 < q2 then q2 else q0)) < (if q3 < q1 then q3 else q1) then (if q3 < q1 then q3 else q1) else (if q3 < (if q0 < q2 then q2 else q0) then q3 else (if q0 < q2 then q2 else q0)))+q4)))]) [(Zw q5 q6 q7 q8 q9 q10 q11 q12 q13),JN,(Zw q5 q6 q7 q8 q9 q10 q11 q12 q13),JN,(QL q14),(QL q15),(Qap q14.length q15.length)]:=by
 unfold YB at hm
 exact PC_sxB (fn:=f163) rfl (ge 2 (gr 2 (QD rfl (fun _=>Qbd (k:=.i64) (m:=q0) (n:=q2) rfl kr kr) (Qd 1 (QD rfl (fun _=>QbF (k:=.i64) (m:=(if q0 < q2 then q2 else q0)) (n:=q3) rfl kr kr) (re 1 (Qi (Yq (Qd 6 (QD rfl (fun _=>QbF (k:=.i64) (m:=q1) (n:=q3) rfl kr kr) (QD rfl (fun _=>Qbd (k:=.i64) (m:=(if q3 < (if q0 < q2 then q2 else q0) then q3 else (if q0 < q2 then q2 else q0))) (n:=(if q3 < q1 then q3 else q1)) rfl kr kr) (re 4 ⟨kr,Ql zf⟩))))))))))))
def Y9 (x:((List Int) × (List Int) × Int × Int × Int × (List Int) × Int × Int × Int × Int × Int × Int × Int × Int × Int × Int × (List Int) × Int × Int × Int)):Option (((List Int) × (List Int) × Nat × Nat × (List Int) × (List Int))) :=
 match x with
 | (q0,q1,q2,q3,q4,q5,q6,q7,q8,q9,q10,q11,q12,q13,q14,q15,q16,q17,q18,q19) =>
 Qp q0>>=fun v1 =>
 Qp q1>>=fun v2 =>
 idx v1 q9>>=fun v3 =>
 idx v1 q9>>=fun v4 =>
 idx v2 q9>>=fun v5 =>
 idx v2 q9>>=fun v6 =>
 YB (v4,v6,q10,q11,q12,q0,q1,q2,q3,q4,q5,q6,q7,q8,v1,v2)>>=fun _ =>
 idx v1 q9>>=fun v7 =>
 setM v1 q9 (W ((if q11 < (if v4 < q10 then q10 else v4) then q11 else (if v4 < q10 then q10 else v4))+q12))>>=fun v8 =>
 idx v2 q9>>=fun v9 =>
 setM v2 q9 (W ((if (if q11 < (if v4 < q10 then q10 else v4) then q11 else (if v4 < q10 then q10 else v4)) < (if q11 < v6 then q11 else v6) then (if q11 < v6 then q11 else v6) else (if q11 < (if v4 < q10 then q10 else v4) then q11 else (if v4 < q10 then q10 else v4)))+q12))>>=fun v10 =>
 ZE (v8.length=v1.length)>>=fun _ =>
 ZE (v10.length=v2.length)>>=fun _ =>
 some (v8,v10,v1.length,v2.length,v8,v10)
theorem Qa0 {q0 q1 q2 q3 q4 q5 q6 q7 q8 q9 q10 q11 q12 q13 q14 q15 q16 q17 q18 q19 v5001 v5002 v5003 v5004 v5005 v5006} (hm:Y9 (q0,q1,q2,q3,q4,q5,q6,q7,q8,q9,q10,q11,q12,q13,q14,q15,q16,q17,q18,q19)=some (v5001,v5002,v5003,v5004,v5005,v5006)):PC prog env 116 [(QaH q0 q1 q2 q3 q4 q5 q6 q7 q8),(Qc q9),(.fn 163 [(.iptr [(Qg q10)]),(.iptr [(Qg q11)]),(.iptr [(Qg q12)])]),(XY q13 q14 q15 q16 q17 q18 q19)] [(Zw q0 q1 q2 q3 q4 q5 q6 q7 q8),JN] (QaH v5005 v5006 q13 q14 q15 q16 q17 q18 q19) [(Zw q0 q1 q2 q3 q4 q5 q6 q7 q8),JN,(Zw q0 q1 q2 q3 q4 q5 q6 q7 q8),(Zw v5001 v5002 q13 q14 q15 q16 q17 q18 q19),QaI,QaI,(Qap v5003 v5004)]:=by
 unfold Y9 at hm
 exact PC_sxB (fn:=f116) rfl (ge 3 (Qi (Yq (Qd 3 (bi hm fun v1 hx hm=>go 4 3 Qg (QF hx) (Qd 3 (bi hm fun v2 hx hm=>go 5 3 Qg (QF hx) (re 3 ⟨kr,Qi (Yq (Qd 10 (bi hm fun v3 hx hm=>QD rfl (fun _=>Zo (e:=3) (n:=q9) (j:=(q9).toNat) (tt:=4) (g:=1) (lo:=0) (len:=v1.length) (cap:=v1.length) (k:=.i64) kr kr rfl kr kr (idx_nat hx) (Nat.lt_of_lt_of_eq (idx_lt hx) rfl)) (bi hm fun v4 hx hm=>QD rfl (fun _=>Xr (tt:=4) (g:=1) (j:=(0+(q9).toNat)) (e:=3) (cs:=cellsOf Qg v1) (v:=.dat (Qg v4)) kr kr rfl kr (Yd kr) (cells_idx Qg hx)) (Qd 3 (bi hm fun v5 hx hm=>QD rfl (fun _=>Zo (e:=3) (n:=q9) (j:=(q9).toNat) (tt:=5) (g:=1) (lo:=0) (len:=v2.length) (cap:=v2.length) (k:=.i64) kr kr rfl kr kr (idx_nat hx) (Nat.lt_of_lt_of_eq (idx_lt hx) rfl)) (bi hm fun v6 hx hm=>QD rfl (fun _=>Xr (tt:=5) (g:=1) (j:=(0+(q9).toNat)) (e:=3) (cs:=cellsOf Qg v2) (v:=.dat (Qg v6)) kr kr rfl kr (Yd kr) (cells_idx Qg hx)) (bi hm fun _ hx hm=>Qcd (f:=163) (caps:=[(.iptr [(Qg q10)]),(.iptr [(Qg q11)]),(.iptr [(Qg q12)])]) (j:=6000) (e:=3) (ow':=[]) (QaD hx) (Qd 3 (bi hm fun v7 hx hm=>QD rfl (fun _=>Zo (e:=3) (n:=q9) (j:=(q9).toNat) (tt:=4) (g:=1) (lo:=0) (len:=v1.length) (cap:=v1.length) (k:=.i64) kr kr rfl kr kr (idx_nat hx) (Nat.lt_of_lt_of_eq (idx_lt hx) rfl)) (bi hm fun v8 hx hm=>Ym (fun H=>H.set 4 (QL v8)) rfl kr (fun _=>Qae Qg (l:=v1) (n:=q9) (y:=(W ((if q11 < (if v4 < q10 then q10 else v4) then q11 else (if v4 < q10 then q10 else v4))+q12))) hx (fun _=>rfl) kr rfl kr kr kr kr) (bi hm fun v9 hx hm=>QD rfl (fun _=>Zo (e:=3) (n:=q9) (j:=(q9).toNat) (tt:=5) (g:=1) (lo:=0) (len:=v2.length) (cap:=v2.length) (k:=.i64) kr kr rfl kr kr (idx_nat hx) (Nat.lt_of_lt_of_eq (idx_lt hx) rfl)) (bi hm fun v10 hx hm=>Ym (fun H=>H.set 5 (QL v10)) rfl kr (fun _=>Qae Qg (l:=v2) (n:=q9) (y:=(W ((if (if q11 < (if v4 < q10 then q10 else v4) then q11 else (if v4 < q10 then q10 else v4)) < (if q11 < v6 then q11 else v6) then (if q11 < v6 then q11 else v6) else (if q11 < (if v4 < q10 then q10 else v4) then q11 else (if v4 < q10 then q10 else v4)))+q12))) hx (fun _=>rfl) kr rfl kr kr kr kr) (QP ⟨kr,Qi (R_G (gi hm fun hl11 hm=>gi hm fun hl12 hm=>Ym (v:=(.dat (.agg [(Lb v8),(Lb v10)]))) (fun H=>((H.set 4 (.mt 3 (1+1) [])).set 5 (.mt 3 (1+1) []))) rfl kr (fun _=>QbM (n:=2) (i:=6) (off:=0) (bs:=[(.ms 4 1 0 v1.length v1.length),(.ms 5 1 0 v2.length v2.length)]) (cs:=[(.ms 4 1 0 v1.length v1.length),(.ms 5 1 0 v2.length v2.length)]) rfl rfl kr kr kr kr kr rfl (cl_ms Qg (fun _=>rfl) kr hl11 (cl_ms Qg (fun _=>rfl) kr hl12 cl_nil))) (re 3 (Ql zf))))⟩)))))) rfl rfl kr kr kr kr kr))))))))⟩))))))))
def Yu (x:(Qa × Int × Int × Int × Int)):Option Qa :=
 match x with
 | (p0,p1,p2,p3,p4) =>
 Ye (p0.access,p1,(W (0 - p4)))>>=fun v1 =>
 Y9 (p0.box.lo,p0.box.hi,p0.access.kind,p0.access.buffer,p0.access.base,p0.access.strides,p0.access.start,p0.access.step,p0.access.mod,p1,p2,p3,p4,v1.kind,v1.buffer,v1.base,v1.strides,v1.start,v1.step,v1.mod)>>=fun (v2,v3,v4,v5,v6,v7) =>
 some (⟨(⟨v6,v7⟩:Qj),(⟨v1.kind,v1.buffer,v1.base,v1.strides,v1.start,v1.step,v1.mod⟩:Qk)⟩:Qa)
theorem JL {p0 p1 p2 p3 p4 r0} (hm:Yu (p0,p1,p2,p3,p4)=some r0):FQ 119 [(Qa.toD p0),(Qg p1),(Qg p2),(Qg p3),(Qg p4)] (.dat (Qa.toD r0)):=by
 unfold Yu at hm
 exact fp (fn:=f119) rfl (ge 5 (ge 2 (Qi (Yq (Qd 8 (bi hm fun v1 hx hm=>cp (QaJ hx) (bi6 hm fun v2 v3 v4 v5 v6 v7 hx hm=>QR (Qa0 hx) (re 1 ⟨kr,Ql zf⟩))))))))
def ZB (x:((List Qa) × Int × Int × Int × (List Qa) × Int)):Option ((List Qa)) :=
 match x with
 | (p0,p1,p2,p3,v201,v202) =>
 if v202 < (p0.length:Int) then
  idx p0 v202>>=fun v602 =>
  Yu (v602,p1,p2,p3,(W (0 - p2)))>>=fun v603 =>
  Yu (v602,p1,0,p2,(W (p3 - p2)))>>=fun v604 =>
  app 120 v201 ([v603,v604]:List Qa)>>=fun v605 =>
  ZB (p0,p1,p2,p3,v605,(W (v202+1)))
 else
 some v201
 partial_fixpoint
theorem Js:∀ x r,ZB x=some r→match x with|(p0,p1,p2,p3,v201,v202)=>LQ f72 72 [1,1,0,1,0,0] 1 ⟨kp 38 [(1,(Qc p1)),(2,(Qc p2)),(3,(Qc p3)),(9,(YI v201)),(12,(QM p0)),(13,(Qc (p0.length:Int))),(14,(Qc v202))],[(.tok 62 v201.length)]⟩ (P1 (.exit 0) (fun v601 d=>⟨sl d 38 [(9,(YI v601))],[(.tok 62 v601.length)]⟩) r):=by
 refine ZB.partial_correctness _ (fun ZB Js x r hm=>?_)
 obtain ⟨p0,p1,p2,p3,v201,v202⟩:=x
 exact lp (ge 1 (Qi (ri hm (fun hm=>Qo (Qi (Qm (Qi (R_G (ZX 9 Qa.toD hm fun v602 hm=>re 3 (Yq (Qd 7 (bi hm fun v603 hx hm=>cp (JL hx) (Qd 6 (bi hm fun v604 hx hm=>cp (JL hx) (Qd 1 (bi hm fun v605 hx hm=>Qac 62 9 120 0 Qa.toD v201 ([v603,v604]:List Qa) v605 (xs:=(List.map Qa.toD) v201) (es:=(List.map Qa.toD) ([v603,v604]:List Qa)) (L:=(List.map Qa.toD)) (fun _=>rfl) rfl rfl Qa.fit hx (re 1 ⟨kr,R_G (re 2 (Js _ _ hm _ kr))⟩)))))))))))))) (fun hm=>QO zf))))
def Xx (x:((List Qa) × Int × Int × Int)):Option (List Qa) :=
 match x with
 | (p0,p1,p2,p3) =>
 ZB (p0,p1,p2,p3,([]:List Qa),0)>>=fun v601 =>
 Q8 v601>>=fun v606 =>
 some v606
theorem Qbs {p0 p1 p2 p3 r0} (hm:Xx (p0,p1,p2,p3)=some r0):FQ 72 [(.lst ((List.map Qa.toD) p0)),(Qg p1),(Qg p2),(Qg p3)] (QM r0):=by
 unfold Xx at hm
 exact fp (fn:=f72) rfl (ge 1 (ge 1 (Qi (gr 1 (ZM Qa.toD p0 (re 1 (Qm (ru1 hm (Js _) fun v601 d hm=>gr 1 (bi hm fun v606 hx hm=>cp (YX hx) (re 1 (Ql zf)))))))))))
def Y4 (x:(Qf × (List (List Qa)))):Option (List Qa) :=
 match x with
 | (p0,p1) =>
 idx p1 0>>=fun v1 =>
 idx p0.shape p0.axis>>=fun v2 =>
 Xx (v1,p0.axis,p0.amount,v2)>>=fun v3 =>
 some v3
theorem QaV {p0 p1 r0} (hm:Y4 (p0,p1)=some r0):FQ 71 [(Qf.ex p0),(.lst ((List.map (fun l=>Dat.lst ((List.map Qa.toD) l))) p1))] (QM r0):=by
 unfold Y4 at hm
 exact fp (fn:=f71) rfl (ge 2 (Qi (Yq (Qd 1 (bi hm fun v1 hx hm=>YY 1 (fun l=>Dat.lst ((List.map Qa.toD) l)) p1 0 v1 (es:=(List.map (fun l=>Dat.lst ((List.map Qa.toD) l))) p1) (d:=(.lst ((List.map Qa.toD) v1))) rfl hx rfl rfl (Qd 9 (ZX 1 Qg hm fun v2 hm=>Qd 1 (bi hm fun v3 hx hm=>cp (Qbs hx) (re 1 ⟨kr,Ql zf⟩)))))))))
def YT (x:(Int × Int × Int × (List Int) × Int × Int × Int × (List Int) × Int)):Option (((List Int) × Int)) :=
 match x with
 | (q0,q1,q2,q3,q4,q5,q6,q7,q8) =>
 Qp q3>>=fun v1 =>
 if q0=3 then
  some (v1,q4)
 else
 some (v1,q2)
theorem QaL {q0 q1 q2 q3 q4 q5 q6 q7 q8 v5001 v5002} (hm:YT (q0,q1,q2,q3,q4,q5,q6,q7,q8)=some (v5001,v5002)):PC prog env 192 [(XY q0 q1 q2 q3 q4 q5 q6)] [(Qw q0 q1 q2 q3 q4 q5 q6),(.box [(La q7)]),(.box [(Qc q8)]),QS,(Qw q0 q1 q2 q3 q4 q5 q6),QS] (.ptr 8 0) (Qbl q0 q1 q2 q3 q4 q5 q6 q7 q8 v5001 v5002 v5001.length):=by
 unfold YT at hm
 exact PC_sxB (fn:=f192) rfl (ge 2 (Qi (Yq (Qd 4 (bi hm fun v1 hx hm=>go 7 3 Qg (QF hx) (re 5 ⟨kr,Qi (ge 3 (riq hm (fun hm=>R_G (re 7 (ge 2 (Ql zf)))) (fun hm=>Qo (ge 2 (Ql zf)))))⟩))))))
def ZU (x:((List Int) × Int × Int)):Option (Int) :=
 match x with
 | (p0,v201,v202) =>
 if v202 < (p0.length:Int) then
  idx p0 v202>>=fun v602 =>
  ZU (p0,(W (v201+v602)),(W (v202+1)))
 else
 some v201
 partial_fixpoint
theorem Jo:∀ x r,ZU x=some r→match x with|(p0,v201,v202)=>LQ f196 196 [1,1,0,1,0,0] 0 ⟨kp 17 [(3,(Qc v201)),(6,(La p0)),(7,(Qc (p0.length:Int))),(8,(Qc v202))],[]⟩ (P1 (.exit 0) (fun v601 d=>⟨sl d 17 [(3,(Qc v601))],[]⟩) r):=by
 refine ZU.partial_correctness _ (fun ZU Jo x r hm=>?_)
 obtain ⟨p0,v201,v202⟩:=x
 exact lp (ge 1 (Qi (ri hm (fun hm=>Qo (Qi (Qm (Qi (R_G (ZX 1 Qg hm fun v602 hm=>re 2 (R_G (re 4 (R_G (re 2 (Jo _ _ hm _ kr))))))))))) (fun hm=>QO zf))))
def Xv (x:(List Int)):Option Int :=
 match x with
 | p0 =>
 ZU (p0,0,0)>>=fun v601 =>
 some v601
theorem Qbp {p0 r0} (hm:Xv p0=some r0):FQ 196 [(Lb p0)] (Qc r0):=by
 unfold Xv at hm
 exact fp (fn:=f196) rfl (ge 1 (ge 1 (Qi (gr 1 (ZM Qg p0 (re 1 (Qm (ru1 hm (Jo _) fun v601 d hm=>ge 2 (Ql zf)))))))))
def QA (x:((List Int) × (List Int) × (List Int) × Int × Int × Int × (List Int) × Int × Int × Int × Int × Int × (List Int) × Int)):Option ((List Int)) :=
 match x with
 | (q0,v1,q9,q2,q3,q4,q5,q6,q7,q8,q1,q10,v202,v203) =>
 if v203 < (q0.length:Int) then
  idx q0 v203>>=fun v603 =>
  ZE (v202.length=v1.length)>>=fun _ =>
  idx v202 v603>>=fun v604 =>
  idx v202 v603>>=fun v606 =>
  idx q9 v203>>=fun v607 =>
  idx q9 v203>>=fun v608 =>
  Xv ([v606,v608]:List Int)>>=fun v609 =>
  ZE (v202.length=v1.length)>>=fun _ =>
  idx v202 v603>>=fun v610 =>
  setM v202 v603 v609>>=fun v612 =>
  QA (q0,v1,q9,q2,q3,q4,q5,q6,q7,q8,q1,q10,v612,(W (v203+1)))
 else
 some v202
 partial_fixpoint
theorem Z6:∀ x r,QA x=some r→match x with|(q0,v1,q9,q2,q3,q4,q5,q6,q7,q8,q1,q10,v202,v203)=>LQ f165 165 [1,0,1,0,0] 10 ⟨kp 39 [(0,(.ptr 8 0)),(6,(.ms 9 (mg v1) 0 v1.length v1.length)),(11,(La q0)),(12,(Qc (q0.length:Int))),(13,(Qc v203))],[(Qw q2 q3 q4 q5 q6 q7 q8),(.box [(La q0)]),(.box [(Qc q1)]),QS,(Qw q2 q3 q4 q5 q6 q7 q8),QS,(Qw q2 q3 q4 q5 q6 q7 q8),(QL q9),(X1 q10 q9.length q2 q3 q4 q5 q6 q7 q8),(.mt 3 (mg v1) (cellsOf Qg v202))]⟩ (P1 (.exit 0) (fun v602 d=>⟨sl d 39 [(0,(.ptr 8 0)),(6,(.ms 9 (mg v1) 0 v1.length v1.length))],[(Qw q2 q3 q4 q5 q6 q7 q8),(.box [(La q0)]),(.box [(Qc q1)]),QS,(Qw q2 q3 q4 q5 q6 q7 q8),QS,(Qw q2 q3 q4 q5 q6 q7 q8),(QL q9),(X1 q10 q9.length q2 q3 q4 q5 q6 q7 q8),(.mt 3 (mg v1) (cellsOf Qg v602))]⟩) r):=by
 refine QA.partial_correctness _ (fun QA Z6 x r hm=>?_)
 obtain ⟨q0,v1,q9,q2,q3,q4,q5,q6,q7,q8,q1,q10,v202,v203⟩:=x
 exact lp (ge 1 (Qi (ri hm (fun hm=>Qo (Qi (Qm (gr 1 (ZX 1 Qg hm fun v603 hm=>re 3 (Yq (Qd 4 (gi hm fun hl605 hm=>bi hm fun v604 hx hm=>QD rfl (fun _=>Zo (e:=3) (n:=v603) (j:=(v603).toNat) (tt:=9) (g:=(mg v1)) (lo:=0) (len:=v1.length) (cap:=v1.length) (k:=.i64) kr kr rfl kr kr (idx_nat hx) (Nat.lt_of_lt_of_eq (idx_lt hx) hl605)) (bi hm fun v606 hx hm=>QD rfl (fun _=>Xr (tt:=9) (g:=(mg v1)) (j:=(0+(v603).toNat)) (e:=3) (cs:=cellsOf Qg v202) (v:=.dat (Qg v606)) kr kr rfl kr (Yd kr) (cells_idx Qg hx)) (Qd 5 (bi hm fun v607 hx hm=>QD rfl (fun _=>Zo (e:=3) (n:=v203) (j:=(v203).toNat) (tt:=7) (g:=1) (lo:=0) (len:=q9.length) (cap:=q9.length) (k:=.i64) kr kr rfl kr kr (idx_nat hx) (Nat.lt_of_lt_of_eq (idx_lt hx) rfl)) (bi hm fun v608 hx hm=>QD rfl (fun _=>Xr (tt:=7) (g:=1) (j:=(0+(v203).toNat)) (e:=3) (cs:=cellsOf Qg q9) (v:=.dat (Qg v608)) kr kr rfl kr (Yd kr) (cells_idx Qg hx)) (Qd 1 (bi hm fun v609 hx hm=>cp (Qbp hx) (gi hm fun hl611 hm=>bi hm fun v610 hx hm=>QD rfl (fun _=>Zo (e:=3) (n:=v603) (j:=(v603).toNat) (tt:=9) (g:=(mg v1)) (lo:=0) (len:=v1.length) (cap:=v1.length) (k:=.i64) kr kr rfl kr kr (idx_nat hx) (Nat.lt_of_lt_of_eq (idx_lt hx) hl611)) (bi hm fun v612 hx hm=>Ym (fun H=>H.set 9 (.mt 3 (mg v1) (cellsOf Qg v612))) rfl kr (fun _=>Qae Qg (l:=v202) (n:=v603) (y:=v609) hx (fun _=>rfl) kr rfl kr kr kr kr) (QP ⟨kr,R_G (re 2 (Z6 _ _ hm _ (prune_of2 [(Qw q2 q3 q4 q5 q6 q7 q8),(.box [(La q0)]),(.box [(Qc q1)]),QS,(Qw q2 q3 q4 q5 q6 q7 q8),QS,(Qw q2 q3 q4 q5 q6 q7 q8),(QL q9),(X1 q10 q9.length q2 q3 q4 q5 q6 q7 q8),(.mt 3 (mg v1) (cellsOf Qg v612))] (fun _=>(pg_cons kr (pg_cons kr (pg_cons kr (pg_cons kr (pg_cons kr (pg_cons kr (pg_cons kr (pg_cons (purge_mt Qg _ _ _ _ _) (pg_cons kr (pg_cons (purge_mt Qg _ _ _ _ _) pg_nil))))))))))) rfl)))⟩))))))))))))))))) (fun hm=>QO zf))))
def Q9 (x:((List Int) × Int × Int × Int × Int × (List Int) × Int × Int × Int × (List Int) × Int)):Option ((Nat × (List Int) × Nat)) :=
 match x with
 | (q0,q1,q2,q3,q4,q5,q6,q7,q8,q9,q10) =>
 makeM 8 q1 0>>=fun v1 =>
 QA (q0,v1,q9,q2,q3,q4,q5,q6,q7,q8,q1,q10,v1,0)>>=fun v602 =>
 some ((mg v1),v602,v1.length)
theorem JR {q0 q1 q2 q3 q4 q5 q6 q7 q8 q9 q10 v5001 v5002 v5003} (hm:Q9 (q0,q1,q2,q3,q4,q5,q6,q7,q8,q9,q10)=some (v5001,v5002,v5003)):PC prog env 165 [(.ptr 8 0),(La q0),(Qc q1)] (Qbl q2 q3 q4 q5 q6 q7 q8 q0 q1 q9 q10 q9.length) (.tup []) (Qbm q2 q3 q4 q5 q6 q7 q8 q0 q1 q9 q10 v5001 v5003 v5002):=by
 unfold Q9 at hm
 exact PC_sxB (fn:=f165) rfl (gr 1 (bi hm fun v1 hx hm=>Ym (v:=.ms 9 (mg v1) 0 v1.length v1.length) (fun H=>H++[.mt 3 (mg v1) (cellsOf Qg v1)]) rfl kr (by intro K hk; exact QbH 9 Qg (z:=0) (n:=q1) (bytes:=8) (e:=3) (os:=[]) hx kr kr kr kr rfl rfl rfl kr kr kr hk) (re 1 (Qi (gr 1 (ZM Qg q0 (re 1 (Qm (ru1 hm (Z6 _) (fun v602 d hm=>R_G (re 5 zf)) (hst:=(prune_of2 [(Qw q2 q3 q4 q5 q6 q7 q8),(.box [(La q0)]),(.box [(Qc q1)]),QS,(Qw q2 q3 q4 q5 q6 q7 q8),QS,(Qw q2 q3 q4 q5 q6 q7 q8),(QL q9),(X1 q10 q9.length q2 q3 q4 q5 q6 q7 q8),(.mt 3 (mg v1) (cellsOf Qg v1))] (fun _=>(pg_cons kr (pg_cons kr (pg_cons kr (pg_cons kr (pg_cons kr (pg_cons kr (pg_cons kr (pg_cons (purge_mt Qg _ _ _ _ _) (pg_cons kr (pg_cons (purge_mt Qg _ _ _ _ _) pg_nil))))))))))) rfl)))))))))))
def ZY (x:(Int × Int × Int × (List Int) × Int × Int × Int × (List Int) × Int × (List Int) × Int)):Option ((Nat × (List Int) × Nat)) :=
 match x with
 | (q0,q1,q2,q3,q4,q5,q6,q7,q8,q9,q10) =>
 Q9 (q7,q8,q0,q1,q2,q3,q4,q5,q6,q9,q10)>>=fun (v1,v2,v3) =>
 some (v1,v2,v3)
theorem Qag {q0 q1 q2 q3 q4 q5 q6 q7 q8 q9 q10 v5001 v5002 v5003} (hm:ZY (q0,q1,q2,q3,q4,q5,q6,q7,q8,q9,q10)=some (v5001,v5002,v5003)):PC prog env 164 [(.ptr 8 0),(.ptr 1 0),(.ptr 2 0)] (Qbl q0 q1 q2 q3 q4 q5 q6 q7 q8 q9 q10 q9.length) (.tup []) (Qbm q0 q1 q2 q3 q4 q5 q6 q7 q8 q9 q10 v5001 v5003 v5002):=by
 unfold ZY at hm
 exact PC_sxB (fn:=f164) rfl (Yq (Qd 5 (bi3 hm fun v1 v2 v3 hx hm=>QR (JR hx) (QP ⟨kr,zf⟩))))
def Zj (x:(Int × Int × Int × (List Int) × Int × Int × Int × (List Int) × Int × (List Int) × Int × Nat × (List Int) × Nat)):Option ((Int × Int × Int × Int × Int × Int)) :=
 match x with
 | (q0,q1,q2,q3,q4,q5,q6,q7,q8,q9,q10,q11,q12,q13) =>
 if q0=3 then
  some (q2,q10,q2,q10,q2,q10)
 else
 some (q10,q4,q10,q4,q10,q4)
theorem JV {q0 q1 q2 q3 q4 q5 q6 q7 q8 q9 q10 q11 q12 q13 v5001 v5002 v5003 v5004 v5005 v5006} (hm:Zj (q0,q1,q2,q3,q4,q5,q6,q7,q8,q9,q10,q11,q12,q13)=some (v5001,v5002,v5003,v5004,v5005,v5006)):PC prog env 193 [(.ptr 8 0)] (Qbm q0 q1 q2 q3 q4 q5 q6 q7 q8 q9 q10 q11 q13 q12) (.agg [(Qc q0),(Qc q1),(Qc v5005),(.ms 9 q11 0 q13 q13),(Qc v5006),(Qc q5),(Qc q6)]) [(Qw q0 q1 q2 q3 q4 q5 q6),(.box [(La q7)]),(.box [(Qc q8)]),QS,(Qw q0 q1 q2 q3 q4 q5 q6),QS,(Qw q0 q1 q2 q3 q4 q5 q6),(QL q9),(Qbn q10 q11 q13 q0 q1 q2 q3 q4 q5 q6),(X0 q11 q12),(QaG q0 q1 v5001 q11 q13 v5002 q5 q6),(QaG q0 q1 v5003 q11 q13 v5004 q5 q6)]:=by
 unfold Zj at hm
 exact PC_sxB (fn:=f193) rfl (ge 1 (ge 6 (ge 7 (Qi (ge 3 (riq hm (fun hm=>R_G (re 7 (ge 2 (Ql zf)))) (fun hm=>R_G (re 7 (ge 2 (Ql zf))))))))))
def Yf (x:(Int × Int × Int × (List Int) × Int × Int × Int × (List Int) × Int)):Option (Unit ⊕ ((List Int) × Nat × (List Int) × Int × Nat × Int × Int × Nat × Int × Nat × Int × Int × Nat × Int × Int × Nat × Int)) :=
 match x with
 | (q0,q1,q2,q3,q4,q5,q6,q7,q8) =>
 if q0=1 then
  some (Sum.inl ())
 else
 YT (q0,q1,q2,q3,q4,q5,q6,q7,q8)>>=fun (v1,v2) =>
 ZY (q0,q1,q2,q3,q4,q5,q6,q7,q8,v1,v2)>>=fun (v3,v4,v5) =>
 Zj (q0,q1,q2,q3,q4,q5,q6,q7,q8,v1,v2,v3,v4,v5)>>=fun (v6,v7,v8,v9,v10,v11) =>
 some (Sum.inr (v1,v3,v4,v10,v5,v11,v2,v5,v6,v5,v7,v8,v5,v9,v10,v5,v11))
theorem JS {q0 q1 q2 q3 q4 q5 q6 q7 q8 r} (hm:Yf (q0,q1,q2,q3,q4,q5,q6,q7,q8)=some r):PC prog env 156 [(XY q0 q1 q2 q3 q4 q5 q6),(.fn 164 [(.ptr 1 0),(.ptr 2 0)])] [(Qw q0 q1 q2 q3 q4 q5 q6),(.box [(La q7)]),(.box [(Qc q8)]),QS] (match r with|.inl _=>(XY q0 q1 q2 q3 q4 q5 q6)|.inr ((v5001,v5002,v5003,v5004,v5005,v5006,v5007,v5008,v5009,v5010,v5011,v5012,v5013,v5014,v5015,v5016,v5017))=>(.agg [(Qc q0),(Qc q1),(Qc v5015),(.ms 9 v5002 0 v5016 v5016),(Qc v5017),(Qc q5),(Qc q6)])) (match r with|.inl _=>[(Qw q0 q1 q2 q3 q4 q5 q6),(.box [(La q7)]),(.box [(Qc q8)]),QS,(Qw q0 q1 q2 q3 q4 q5 q6),(Qw q0 q1 q2 q3 q4 q5 q6)]|.inr ((v5001,v5002,v5003,v5004,v5005,v5006,v5007,v5008,v5009,v5010,v5011,v5012,v5013,v5014,v5015,v5016,v5017))=>[(Qw q0 q1 q2 q3 q4 q5 q6),(.box [(La q7)]),(.box [(Qc q8)]),QS,(Qw q0 q1 q2 q3 q4 q5 q6),(QaG q0 q1 v5004 v5002 v5005 v5006 q5 q6),(Qw q0 q1 q2 q3 q4 q5 q6),(QL v5001),(Qbn v5007 v5002 v5008 q0 q1 q2 q3 q4 q5 q6),(X0 v5002 v5003),(QaG q0 q1 v5009 v5002 v5010 v5011 q5 q6),(QaG q0 q1 v5012 v5002 v5013 v5014 q5 q6)]):=by
 unfold Yf at hm
 exact PC_sxB (fn:=f156) rfl (ge 2 (Qi (ge 3 (riq hm (fun hm=>ge 2 (Ql zf)) (fun hm=>Qo (gr 1 (bi2 hm fun v1 v2 hx hm=>QR (QaL hx) (re 1 (gr 2 (bi3 hm fun v3 v4 v5 hx hm=>QR (Qag hx) (QP (gr 1 (bi6 hm fun v6 v7 v8 v9 v10 v11 hx hm=>QR (JV hx) (re 1 (Ql zf)))))))))))))))
def Yv (x:(Qk × (List Int) × Int)):Option Qk :=
 match x with
 | (p0,p1,p2) =>
 (
 Yf (p0.kind,p0.buffer,p0.base,p0.strides,p0.start,p0.step,p0.mod,p1,p2)>>=fun out =>
 match out with
 | .inl _ =>
  some (⟨p0.kind,p0.buffer,p0.base,p0.strides,p0.start,p0.step,p0.mod⟩:Qk)
 | .inr ((v1,v2,v3,v4,v5,v6,v7,v8,v9,v10,v11,v12,v13,v14,v15,v16,v17)) =>
  ZE (v3.length=v16)>>=fun _ =>
  some (⟨p0.kind,p0.buffer,v15,v3,v17,p0.step,p0.mod⟩:Qk)
 )
theorem Qa9 {p0 p1 p2 r0} (hm:Yv (p0,p1,p2)=some r0):FQ 120 [(Qk.toD p0),(Lb p1),(Qg p2)] (.dat (Qk.toD r0)):=by
 unfold Yv at hm
 exact fp (fn:=f120) rfl (ge 4 (gr 2 (bs hm (fun _ hx hm=>QR (JS hx) (re 1 (Ql zf))) fun ⟨v1,v2,v3,v4,v5,v6,v7,v8,v9,v10,v11,v12,v13,v14,v15,v16,v17⟩ hx hm=>QR (JS hx) (re 1 (Ql (gi hm fun hl18 hm=>(by obtain rfl:=QaF hm; exact ⟨trivial,XK [(.agg [(Qc p0.kind),(Qc p0.buffer),(Qc v15),(.ms 9 v2 0 v16 v16),(Qc v17),(Qc p0.step),(Qc p0.mod)])] kr (po_agg (pc_cons kr (pc_cons kr (pc_cons kr (pc_cons (pc_ms (e:=3) Qg v3 hl18 (fun _=>rfl) kr) (pc_cons kr (pc_cons kr (pc_cons kr pc_nil))))))))⟩)))))))
def YK (x:((List Int) × (List Int) × (List Int) × Int × Int × Int × (List Int) × Int × Int × Int × Nat)):Option ((Nat × (List Int) × (List Int))) :=
 match x with
 | (q0,q1,q2,q3,q4,q5,q6,q7,q8,q9,q10) =>
 makeM 8 (q0.length:Int) 0>>=fun v1 =>
 Qp q0>>=fun v2 =>
 some ((mg v1),v1,v2)
theorem Qa5 {q0 q1 q2 q3 q4 q5 q6 q7 q8 q9 q10 v5001 v5002 v5003} (hm:YK (q0,q1,q2,q3,q4,q5,q6,q7,q8,q9,q10)=some (v5001,v5002,v5003)):PC prog env 111 [(La q0)] [(.tok 62 q10),(Zw q1 q2 q3 q4 q5 q6 q7 q8 q9)] (.agg [(.ms 3 v5001 0 v5002.length v5002.length),(.ms 4 1 0 v5003.length v5003.length)]) [(.tok 62 q10),(Zw q1 q2 q3 q4 q5 q6 q7 q8 q9),(Jk v5001 v5002.length v5003.length),(X0 v5001 v5002),(QL v5003)]:=by
 unfold YK at hm
 exact PC_sxB (fn:=f111) rfl (ge 1 (Qi (Yq (Qd 1 (ZM Qg q0 (bi hm fun v1 hx hm=>Ym (v:=.ms 3 (mg v1) 0 v1.length v1.length) (fun H=>H++[.mt 3 (mg v1) (cellsOf Qg v1)]) rfl kr (by intro K hk; exact QbH 3 Qg (z:=0) (n:=(q0.length:Int)) (bytes:=8) (e:=3) (os:=[]) hx kr kr kr kr rfl rfl rfl kr kr kr hk) (Qd 1 (bi hm fun v2 hx hm=>go 4 3 Qg (QF hx) (re 2 ⟨kr,Ql zf⟩)))))))))
def Zb (x:((List Int) × (List Int) × Qa × (List Int) × (List Int) × (List Qa) × (List Qa) × Int × Nat × (List Int) × (List Int) × Int)):Option (((List Int) × (List Int))) :=
 match x with
 | (p1,v604,v602,v605,p2,v201,p0,v202,v603,v806,v807,v808) =>
 if v808 < (p1.length:Int) then
  idx p1 v808>>=fun v1208 =>
  ZE (v806.length=v604.length)>>=fun _ =>
  idx v806 v1208>>=fun v1209 =>
  idx v806 v1208>>=fun v1211 =>
  idx v602.box.lo v808>>=fun v1212 =>
  ZE (v806.length=v604.length)>>=fun _ =>
  idx v806 v1208>>=fun v1213 =>
  setM v806 v1208 (if v1211 < v1212 then v1212 else v1211)>>=fun v1215 =>
  ZE (v807.length=v605.length)>>=fun _ =>
  idx v807 v1208>>=fun v1216 =>
  idx v807 v1208>>=fun v1218 =>
  idx v602.box.hi v808>>=fun v1219 =>
  ZE (v807.length=v605.length)>>=fun _ =>
  idx v807 v1208>>=fun v1220 =>
  setM v807 v1208 (if v1219 < v1218 then v1219 else v1218)>>=fun v1222 =>
  Zb (p1,v604,v602,v605,p2,v201,p0,v202,v603,v1215,v1222,(W (v808+1)))
 else
 some (v806,v807)
 partial_fixpoint
theorem XE:∀ x r,Zb x=some r→match x with|(p1,v604,v602,v605,p2,v201,p0,v202,v603,v806,v807,v808)=>LQ f74 74 [1,1,0,1,0,0,1,1,0,0,1,1,0,1,0,0] 6 ⟨kp 75 [(1,(La p1)),(2,(La p2)),(7,(YI v201)),(9,(.ptr 1 0)),(10,(.ptr 5 0)),(13,(QM p0)),(14,(Qc (p0.length:Int))),(15,(Qc v202)),(21,(La p1)),(22,(Qc (p1.length:Int))),(23,(Qc v808))],[(.tok 62 v201.length),(Zw v602.box.lo v602.box.hi v602.access.kind v602.access.buffer v602.access.base v602.access.strides v602.access.start v602.access.step v602.access.mod),(Jk v603 v604.length v605.length),(X0 v603 v806),(QL v807),(Jk v603 v604.length v605.length)]⟩ (P1 (.exit 2) (fun (v1206,v1207) d=>⟨sl d 75 [(1,(La p1)),(2,(La p2)),(7,(YI v201)),(9,(.ptr 1 0)),(10,(.ptr 5 0)),(13,(QM p0)),(14,(Qc (p0.length:Int))),(15,(Qc v202))],[(.tok 62 v201.length),(Zw v602.box.lo v602.box.hi v602.access.kind v602.access.buffer v602.access.base v602.access.strides v602.access.start v602.access.step v602.access.mod),(Jk v603 v604.length v605.length),(X0 v603 v1206),(QL v1207),(Jk v603 v604.length v605.length)]⟩) r):=by
 refine Zb.partial_correctness _ (fun Zb XE x r hm=>?_)
 obtain ⟨p1,v604,v602,v605,p2,v201,p0,v202,v603,v806,v807,v808⟩:=x
 exact lp (ge 1 (Qi (ri hm (fun hm=>Qo (Qi (Qm (gr 1 (ZX 1 Qg hm fun v1208 hm=>re 3 (Qi (Yq (Qd 6 (gi hm fun hl1210 hm=>bi hm fun v1209 hx hm=>QD rfl (fun _=>Zo (e:=3) (n:=v1208) (j:=(v1208).toNat) (tt:=3) (g:=v603) (lo:=0) (len:=v604.length) (cap:=v604.length) (k:=.i64) kr kr rfl kr kr (idx_nat hx) (Nat.lt_of_lt_of_eq (idx_lt hx) hl1210)) (bi hm fun v1211 hx hm=>QD rfl (fun _=>Xr (tt:=3) (g:=v603) (j:=(0+(v1208).toNat)) (e:=3) (cs:=cellsOf Qg v806) (v:=.dat (Qg v1211)) kr kr rfl kr (Yd kr) (cells_idx Qg hx)) (Qd 4 (ZX 1 Qg hm fun v1212 hm=>Qd 1 (QD rfl (fun _=>Qbd (k:=.i64) (m:=v1211) (n:=v1212) rfl kr kr) (gi hm fun hl1214 hm=>bi hm fun v1213 hx hm=>QD rfl (fun _=>Zo (e:=3) (n:=v1208) (j:=(v1208).toNat) (tt:=3) (g:=v603) (lo:=0) (len:=v604.length) (cap:=v604.length) (k:=.i64) kr kr rfl kr kr (idx_nat hx) (Nat.lt_of_lt_of_eq (idx_lt hx) hl1214)) (bi hm fun v1215 hx hm=>Ym (fun H=>H.set 3 (X0 v603 v1215)) rfl kr (fun _=>Qae Qg (l:=v806) (n:=v1208) (y:=(if v1211 < v1212 then v1212 else v1211)) hx (fun _=>rfl) kr rfl kr kr kr kr) (QP ⟨kr,Yq (Qd 6 (gi hm fun hl1217 hm=>bi hm fun v1216 hx hm=>QD rfl (fun _=>Zo (e:=3) (n:=v1208) (j:=(v1208).toNat) (tt:=4) (g:=1) (lo:=0) (len:=v605.length) (cap:=v605.length) (k:=.i64) kr kr rfl kr kr (idx_nat hx) (Nat.lt_of_lt_of_eq (idx_lt hx) hl1217)) (bi hm fun v1218 hx hm=>QD rfl (fun _=>Xr (tt:=4) (g:=1) (j:=(0+(v1208).toNat)) (e:=3) (cs:=cellsOf Qg v807) (v:=.dat (Qg v1218)) kr kr rfl kr (Yd kr) (cells_idx Qg hx)) (Qd 4 (ZX 1 Qg hm fun v1219 hm=>Qd 1 (QD rfl (fun _=>QbF (k:=.i64) (m:=v1218) (n:=v1219) rfl kr kr) (gi hm fun hl1221 hm=>bi hm fun v1220 hx hm=>QD rfl (fun _=>Zo (e:=3) (n:=v1208) (j:=(v1208).toNat) (tt:=4) (g:=1) (lo:=0) (len:=v605.length) (cap:=v605.length) (k:=.i64) kr kr rfl kr kr (idx_nat hx) (Nat.lt_of_lt_of_eq (idx_lt hx) hl1221)) (bi hm fun v1222 hx hm=>Ym (fun H=>H.set 4 (QL v1222)) rfl kr (fun _=>Qae Qg (l:=v807) (n:=v1208) (y:=(if v1219 < v1218 then v1219 else v1218)) hx (fun _=>rfl) kr rfl kr kr kr kr) (QP ⟨kr,R_G (re 2 (XE _ _ hm _ (prune_of2 [(.tok 62 v201.length),(Zw v602.box.lo v602.box.hi v602.access.kind v602.access.buffer v602.access.base v602.access.strides v602.access.start v602.access.step v602.access.mod),(Jk v603 v604.length v605.length),(X0 v603 v1215),(QL v1222),(Jk v603 v604.length v605.length)] (fun _=>(pg_cons kr (pg_cons kr (pg_cons kr (pg_cons (purge_mt Qg _ _ _ _ _) (pg_cons (purge_mt Qg _ _ _ _ _) (pg_cons kr pg_nil))))))) rfl)))⟩)))))))))⟩)))))))))))))))) (fun hm=>QO zf))))
def Q3 (x:((List Qa) × (List Int) × (List Int) × (List Qa) × Int)):Option ((List Qa)) :=
 match x with
 | (p0,p2,p1,v201,v202) =>
 if v202 < (p0.length:Int) then
  idx p0 v202>>=fun v602 =>
  YK (p2,v602.box.lo,v602.box.hi,v602.access.kind,v602.access.buffer,v602.access.base,v602.access.strides,v602.access.start,v602.access.step,v602.access.mod,v201.length)>>=fun (v603,v604,v605) =>
  Zb (p1,v604,v602,v605,p2,v201,p0,v202,v603,v604,v605,0)>>=fun (v1206,v1207) =>
  Yv (v602.access,p1,(p2.length:Int))>>=fun v1223 =>
  ZE (v1206.length=v604.length)>>=fun _ =>
  ZE (v1207.length=v605.length)>>=fun _ =>
  app 120 v201 ([(⟨(⟨v1206,v1207⟩:Qj),v1223⟩:Qa)]:List Qa)>>=fun v1226 =>
  Q3 (p0,p2,p1,v1226,(W (v202+1)))
 else
 some v201
 partial_fixpoint
theorem XD:∀ x r,Q3 x=some r→match x with|(p0,p2,p1,v201,v202)=>LQ f74 74 [1,1,0,1,0,0] 1 ⟨kp 75 [(1,(La p1)),(2,(La p2)),(7,(YI v201)),(13,(QM p0)),(14,(Qc (p0.length:Int))),(15,(Qc v202))],[(.tok 62 v201.length)]⟩ (P1 (.exit 0) (fun v601 d=>⟨sl d 75 [(7,(YI v601))],[(.tok 62 v601.length)]⟩) r):=by
 refine Q3.partial_correctness _ (fun Q3 XD x r hm=>?_)
 obtain ⟨p0,p2,p1,v201,v202⟩:=x
 exact lp (ge 1 (Qi (ri hm (fun hm=>Qo (Qi (Qm (Qi (R_G (ZX 9 Qa.toD hm fun v602 hm=>re 3 (gr 1 (bi3 hm fun v603 v604 v605 hx hm=>QR (Qa5 hx) (re 2 (Qi (gr 1 (ZM Qg p1 (re 1 (Qm (ru1 hm (XE _) (fun ⟨v1206,v1207⟩ d hm=>Yq (Qd 6 (ZM Qg p2 (bi hm fun v1223 hx hm=>cp (Qa9 hx) (gi hm fun hl1224 hm=>gi hm fun hl1225 hm=>Ym (v:=(QaH v1206 v1207 v1223.kind v1223.buffer v1223.base v1223.strides v1223.start v1223.step v1223.mod)) (fun H=>((H.set 3 (.mt 3 (v603+1) (cellsOf Qg ([]:List Int)))).set 4 QaI)) rfl kr (fun _ hk=>Qb2 (cs:=[(.ms 3 v603 0 v604.length v604.length),(.ms 4 1 0 v605.length v605.length),(Qc v1223.kind),(Qc v1223.buffer),(Qc v1223.base),(La v1223.strides),(Qc v1223.start),(Qc v1223.step),(Qc v1223.mod)]) rfl kr kr (cs_ms Qg v1206 (e:=3) hl1224 (fun _=>rfl) kr (cs_ms Qg v1207 (e:=3) hl1225 (fun _=>rfl) kr (cs_dat (cs_dat (cs_dat (cs_dat (cs_dat (cs_dat (cs_dat cs_nil))))))))) hk) (Qd 1 (bi hm fun v1226 hx hm=>Qac 62 9 120 0 Qa.toD v201 ([(⟨(⟨v1206,v1207⟩:Qj),v1223⟩:Qa)]:List Qa) v1226 (xs:=(List.map Qa.toD) v201) (es:=(List.map Qa.toD) ([(⟨(⟨v1206,v1207⟩:Qj),v1223⟩:Qa)]:List Qa)) (L:=(List.map Qa.toD)) (fun _=>rfl) rfl rfl Qa.fit hx (re 1 ⟨kr,R_G (re 2 (XD _ _ hm _ kr))⟩)))))))) (hst:=(prune_of2 [(.tok 62 v201.length),(Zw v602.box.lo v602.box.hi v602.access.kind v602.access.buffer v602.access.base v602.access.strides v602.access.start v602.access.step v602.access.mod),(Jk v603 v604.length v605.length),(X0 v603 v604),(QL v605),(Jk v603 v604.length v605.length)] (fun _=>(pg_cons kr (pg_cons kr (pg_cons kr (pg_cons (purge_mt Qg _ _ _ _ _) (pg_cons (purge_mt Qg _ _ _ _ _) (pg_cons kr pg_nil))))))) rfl))))))))))))))))) (fun hm=>QO zf))))
def YL (x:((List Qa) × (List Int) × (List Int))):Option (List Qa) :=
 match x with
 | (p0,p1,p2) =>
 Q3 (p0,p2,p1,([]:List Qa),0)>>=fun v601 =>
 Q8 v601>>=fun v1227 =>
 some v1227
theorem Qa6 {p0 p1 p2 r0} (hm:YL (p0,p1,p2)=some r0):FQ 74 [(.lst ((List.map Qa.toD) p0)),(Lb p1),(Lb p2)] (QM r0):=by
 unfold YL at hm
 exact fp (fn:=f74) rfl (ge 1 (ge 1 (Qi (gr 1 (ZM Qa.toD p0 (re 1 (Qm (ru1 hm (XD _) fun v601 d hm=>gr 1 (bi hm fun v1227 hx hm=>cp (YX hx) (re 1 (Ql zf)))))))))))
def Y5 (x:(Qf × (List (List Qa)))):Option (List Qa) :=
 match x with
 | (p0,p1) =>
 idx p1 0>>=fun v1 =>
 YL (v1,p0.perm,p0.shape)>>=fun v2 =>
 some v2
theorem QaW {p0 p1 r0} (hm:Y5 (p0,p1)=some r0):FQ 73 [(Qf.ex p0),(.lst ((List.map (fun l=>Dat.lst ((List.map Qa.toD) l))) p1))] (QM r0):=by
 unfold Y5 at hm
 exact fp (fn:=f73) rfl (ge 2 (Qi (Yq (Qd 1 (bi hm fun v1 hx hm=>YY 1 (fun l=>Dat.lst ((List.map Qa.toD) l)) p1 0 v1 (es:=(List.map (fun l=>Dat.lst ((List.map Qa.toD) l))) p1) (d:=(.lst ((List.map Qa.toD) v1))) rfl hx rfl rfl (Qd 5 (bi hm fun v2 hx hm=>cp (Qa6 hx) (re 1 ⟨kr,Ql zf⟩))))))))
def QI (x:((List Int) × (List Int) × Int)):Option (Unit ⊕ Unit) :=
 match x with
 | (p0,p1,v201) =>
 if v201 < (p0.length:Int) then
  idx p0 v201>>=fun v601 =>
  idx p1 v201>>=fun v602 =>
  if v601≠v602 then
   some (Sum.inl ())
  else
  QI (p0,p1,(W (v201+1)))
 else
 some (Sum.inr ())
 partial_fixpoint
theorem YD:∀ x r,QI x=some r→match x with|(p0,p1,v201)=>LQ f132 132 [1,1,0,1,0,0] 0 ⟨kp 26 [(0,(La p0)),(1,(La p1)),(12,(Qc (p0.length:Int))),(13,(Qc v201))],[]⟩ (P2 .ret (fun _ d=>⟨sl d 26 [(4,(Qn false))],[]⟩) (.exit 0) (fun _ d=>⟨sl d 26 [],[]⟩) r):=by
 refine QI.partial_correctness _ (fun QI YD x r hm=>?_)
 obtain ⟨p0,p1,v201⟩:=x
 exact lp (ge 1 (Qi (ri hm (fun hm=>Qo (Qi (Qm (ge 2 (Qi (Yq (Qd 2 (ZX 1 Qg hm fun v601 hm=>Qd 3 (ZX 1 Qg hm fun v602 hm=>re 2 ⟨kr,rix hm (fun hm=>ge 1 (Ql zf)) (fun hm=>Qo (R_G (re 2 (YD _ _ hm _ kr))))⟩))))))))) (fun hm=>QO zf))))
def Ys (x:((List Int) × (List Int))):Option Bool :=
 match x with
 | (p0,p1) =>
 if (p0.length:Int)≠(p1.length:Int) then
  some false
 else
 (
 QI (p0,p1,0)>>=fun out =>
 match out with
 | .inl _ =>
  some false
 | .inr (_) =>
  some true
 )
theorem Qax {p0 p1 r0} (hm:Ys (p0,p1)=some r0):FQ 132 [(Lb p0),(Lb p1)] (Qn r0):=by
 unfold Ys at hm
 exact fp (fn:=f132) rfl (ge 1 (Qi (gr 1 (ZM Qg p0 (Qd 1 (ZM Qg p1 (re 1 (rix hm (fun hm=>ge 1 (Ql zf)) (fun hm=>Qo (Qi (gr 1 (ZM Qg p0 (re 1 (Qm (ru2 hm (YD _) (fun _ d hm=>zf) fun _ d hm=>ge 1 (Ql zf))))))))))))))))
def X6 (x:((List Int) × (List Int))):Option Bool :=
 match x with
 | (p0,p1) =>
 Ys (p0,p1)>>=fun v1 =>
 some v1
theorem QbE {p0 p1 r0} (hm:X6 (p0,p1)=some r0):FQ 121 [(Lb p0),(Lb p1)] (Qn r0):=by
 unfold X6 at hm
 exact fp (fn:=f121) rfl (ge 1 (gr 2 (bi hm fun v1 hx hm=>cp (Qax hx) (re 1 (Ql zf)))))
def Xw (x:((List Qa) × (List Int) × (List Int))):Option (List Qa) :=
 match x with
 | (p0,p1,p2) =>
 X6 (p1,p2)>>=fun v1 =>
 if v1=true then
  some p0
 else
 none
theorem Qbr {p0 p1 p2 r0} (hm:Xw (p0,p1,p2)=some r0):FQ 76 [(.lst ((List.map Qa.toD) p0)),(Lb p1),(Lb p2)] (QM r0):=by
 unfold Xw at hm
 exact fp (fn:=f76) rfl (ge 1 (Qi (gr 2 (bi hm fun v1 hx hm=>cp (QbE hx) (QP (rib hm (fun hm=>ge 2 (Ql zf)) (fun hm=>Qo (gr 2 ((Qbo hm).elim)))))))))
def Y6 (x:(Qf × (List (List Qa)))):Option (List Qa) :=
 match x with
 | (p0,p1) =>
 idx p1 0>>=fun v1 =>
 idx p0.kids 0>>=fun v2 =>
 Xw (v1,v2.shape,p0.shape)>>=fun v3 =>
 some v3
theorem QaX {p0 p1 r0} (hm:Y6 (p0,p1)=some r0):FQ 75 [(Qf.ex p0),(.lst ((List.map (fun l=>Dat.lst ((List.map Qa.toD) l))) p1))] (QM r0):=by
 unfold Y6 at hm
 exact fp (fn:=f75) rfl (ge 2 (Qi (Yq (Qd 1 (bi hm fun v1 hx hm=>YY 1 (fun l=>Dat.lst ((List.map Qa.toD) l)) p1 0 v1 (es:=(List.map (fun l=>Dat.lst ((List.map Qa.toD) l))) p1) (d:=(.lst ((List.map Qa.toD) v1))) rfl hx rfl rfl (Qd 3 (bi hm fun v2 hx hm=>YY 8 Qf.toD p0.kids 0 v2 (es:=Qf.toDs p0.kids) (d:=(Qf.ex v2)) (Qf.toDs_eq _) hx (Qf.toD_eq v2) rfl (Qd 4 (bi hm fun v3 hx hm=>cp (Qbr hx) (re 1 ⟨kr,Ql zf⟩))))))))))
def ZJ (x:List Qa):Option (List Qa):=app 120 [] x
def cgm_slices_Clone_piece_Piece_piece_Piece (l:List Qa):Nat:=match l with|[]=>0|_=>1
theorem XF {x r} (hm:ZJ x=some r):PC prog env 125 ([.lst ((List.map Qa.toD) x)].map .dat) [] (.ms 0 (cgm_slices_Clone_piece_Piece_piece_Piece r) 0 r.length r.length) [.mt 62 (cgm_slices_Clone_piece_Piece_piece_Piece r) (cellsOf Qa.toD r)]:=by
 obtain ⟨hroom,hr⟩:=app_some hm
 have hr:r=x:=hr
 subst hr
 cases r with
 | nil=>exact PC_of (n:=20) (by kernel_rfl)
 | cons a l =>
  exact PC_sxB (fn:=f125) rfl (ge 1 (Qi (gr 1 (QD rfl (fun _=>QbN (p:=.dat (.lst ((List.map Qa.toD) (a::l)))) (b:=false) rfl kr kr kr) (QP (Ja kr (Qo (gr 2 (Ym (v:=.ms 0 1 0 (a::l).length (a::l).length) (fun H=>H.set 0 (.mt 62 1 (cellsOf Qa.toD (a::l)))) rfl kr (fun _ hk=>QbV Qa.toD (l:=[]) (es:=a::l) (bytes:=120) (e:=62) (tt:=0) (g:=0) (m:=0) (size:=9) hm Qa.fit rfl kr kr rfl kr kr rfl rfl kr rfl kr kr hk) (re 1 (Ql zf)))))))))))
def Q6 (x:((List Qa) × Int × Int × (List Qa) × Nat × (List Qa) × Int)):Option ((Nat × (List Qa))) :=
 match x with
 | (p1,p2,p3,p0,v202,v203,v204) =>
 if v204 < (p1.length:Int) then
  idx p1 v204>>=fun v604 =>
  Yu (v604,p2,0,65536,p3)>>=fun v605 =>
  app 120 v203 ([v605]:List Qa)>>=fun v606 =>
  Q6 (p1,p2,p3,p0,(v202+1),v606,(W (v204+1)))
 else
 some (v202,v203)
 partial_fixpoint
theorem XV:∀ x r,Q6 x=some r→match x with|(p1,p2,p3,p0,v202,v203,v204)=>LQ f78 78 [1,1,0,1,0,0] 1 ⟨kp 49 [(0,(QM p0)),(2,(Qc p2)),(3,(Qc p3)),(9,(.ms 0 v202 0 v203.length v203.length)),(16,(QM p1)),(17,(Qc (p1.length:Int))),(18,(Qc v204))],[(Xu v202 v203)]⟩ (P1 (.exit 0) (fun (v602,v603) d=>⟨sl d 49 [(0,(QM p0)),(2,(Qc p2)),(9,(.ms 0 v602 0 v603.length v603.length))],[(Xu v602 v603)]⟩) r):=by
 refine Q6.partial_correctness _ (fun Q6 XV x r hm=>?_)
 obtain ⟨p1,p2,p3,p0,v202,v203,v204⟩:=x
 exact lp (ge 1 (Qi (ri hm (fun hm=>Qo (Qi (Qm (Qi (R_G (ZX 9 Qa.toD hm fun v604 hm=>re 3 (R_G (Qd 4 (bi hm fun v605 hx hm=>cp (JL hx) (Qd 1 (bi hm fun v606 hx hm=>Ym (v:=.ms 0 (v202+1) 0 v606.length v606.length) (fun H=>H.set 0 (Qa2 v202 v606)) rfl kr (fun _ hk=>QbV Qa.toD (l:=v203) (es:=([v605]:List Qa)) (bytes:=120) (e:=62) (tt:=0) (g:=v202) (m:=v203.length) (size:=9) hx Qa.fit rfl kr kr rfl kr kr rfl rfl kr rfl kr kr hk) (re 1 (R_G (re 2 (XV _ _ hm _ (prune_of2 [(Qa2 v202 v606)] (fun _=>(pg_cons (purge_mt Qa.toD _ _ _ _ _) pg_nil)) rfl)))))))))))))))) (fun hm=>QO zf))))
def Q7 (x:((List Qa) × Int × (List Qa) × Nat × (List Qa) × Int)):Option ((List Qa)) :=
 match x with
 | (p0,p2,v603,v602,v808,v809) =>
 if v809 < (p0.length:Int) then
  ZE (0≤v809∧(v809).toNat < p0.length)>>=fun _ =>
  idx v808 v809>>=fun v1210 =>
  Yu (v1210,p2,0,65536,0)>>=fun v1211 =>
  ZE (0≤v809∧(v809).toNat < v603.length)>>=fun _ =>
  idx v808 v809>>=fun v1214 =>
  setM v808 v809 v1211>>=fun v1213 =>
  Q7 (p0,p2,v603,v602,v1213,(W (v809+1)))
 else
 some v808
 partial_fixpoint
theorem XW:∀ x r,Q7 x=some r→match x with|(p0,p2,v603,v602,v808,v809)=>LQ f78 78 [1,1,1,0,1,0,0] 1 ⟨kp 49 [(2,(Qc p2)),(9,(.ms 0 v602 0 v603.length v603.length)),(33,(.ms 0 v602 0 p0.length (max v603.length v603.length))),(34,(Qc (p0.length:Int))),(35,(Qc v809))],[(Xu v602 v808)]⟩ (P1 (.exit 2) (fun v1208 d=>⟨sl d 49 [(9,(.ms 0 v602 0 v603.length v603.length))],[(Xu v602 v1208)]⟩) r):=by
 refine Q7.partial_correctness _ (fun Q7 XW x r hm=>?_)
 obtain ⟨p0,p2,v603,v602,v808,v809⟩:=x
 exact lp (ge 1 (Qi (ri hm (fun hm=>Qo (Qi (Qm (gr 1 (gi hm fun hl1209 hm=>QD rfl (fun _=>Qb9 (e:=62) (n:=v809) (tt:=0) (g:=v602) (len:=p0.length) (cap:=(max v603.length v603.length)) (size:=9) hl1209 kr kr rfl kr kr) (bi hm fun v1210 hx hm=>QD rfl (fun _=>Qcq Qa.toD (tt:=0) (g:=v602) (n:=v809) (e:=62) (size:=9) hx Qa.fit kr kr kr rfl kr kr kr) (re 3 (R_G (Qd 4 (bi hm fun v1211 hx hm=>cp (JL hx) (gi hm fun hl1212 hm=>QD rfl (fun _=>Qb9 (e:=62) (n:=v809) (tt:=0) (g:=v602) (len:=v603.length) (cap:=v603.length) (size:=9) hl1212 kr kr rfl kr kr) (bi hm fun v1214 hz hm=>bi hm fun v1213 hx hm=>Ym (fun H=>H.set 0 (Xu v602 v1213)) rfl kr (fun _=>Qcs Qa.toD (l:=v808) (n:=v809) (y:=v1211) (size:=9) hx hz Qa.fit kr kr rfl kr kr kr kr) (QP (R_G (re 2 (XW _ _ hm _ (prune_of2 [(Xu v602 v1213)] (fun _=>(pg_cons (purge_mt Qa.toD _ _ _ _ _) pg_nil)) rfl))))))))))))))))) (fun hm=>QO zf))))
def YV (x:((List Qa) × (List Qa) × Int × Int)):Option (List Qa) :=
 match x with
 | (p0,p1,p2,p3) =>
 ZJ p0>>=fun v1 =>
 Q6 (p1,p2,p3,p0,1,v1,0)>>=fun (v602,v603) =>
 ZE (p0.length≤v603.length)>>=fun _ =>
 Q7 (p0,p2,v603,v602,v603,0)>>=fun v1208 =>
 ZE (v1208.length=v603.length)>>=fun _ =>
 Q8 v1208>>=fun v1216 =>
 some v1216
theorem Qba {p0 p1 p2 p3 r0} (hm:YV (p0,p1,p2,p3)=some r0):FQ 78 [(.lst ((List.map Qa.toD) p0)),(.lst ((List.map Qa.toD) p1)),(Qg p2),(Qg p3)] (QM r0):=by
 unfold YV at hm
 exact fp (fn:=f78) rfl (ge 1 (gr 1 (bi hm fun v1 hx hm=>go 0 62 Qa.toD (XF hx) (re 1 (Qi (gr 1 (ZM Qa.toD p1 (re 1 (Qm (ru1 hm (XV _) (fun ⟨v602,v603⟩ d hm=>Qi (gr 2 (ZM Qa.toD p0 (gi hm fun hl607 hm=>QD (v:=(.ms 0 v602 0 p0.length (max v603.length v603.length))) rfl (fun _=>Qb5 (e:=62) (len:=v603.length) (h:=p0.length) hl607 kr kr rfl kr kr) (Qd 1 (re 1 (Qm (ru1 hm (XW _) (fun v1208 d hm=>Qi (R_G (gi hm fun hl1215 hm=>Ym (v:=(QM v1208)) (fun H=>H.set 0 (.mt 62 (v602+1) (cellsOf Qa.toD ([]:List Qa)))) rfl kr (fun _ hk=>Qcr Qa.toD (l:=v1208) (tt:=0) (e:=62) (g:=v602) (m:=v603.length) (cap:=v603.length) hl1215 (fun _=>rfl) rfl kr kr kr hk) (bi hm fun v1216 hx hm=>cp (YX hx) (re 1 (Ql zf)))))) (hst:=(prune_of2 [(Xu v602 v603)] (fun _=>(pg_cons (purge_mt Qa.toD _ _ _ _ _) pg_nil)) rfl)))))))))) (hst:=(prune_of2 [(.mt 62 1 (cellsOf Qa.toD v1))] (fun _=>(pg_cons (purge_mt Qa.toD _ _ _ _ _) pg_nil)) rfl))))))))))))
def Y7 (x:(Qf × (List (List Qa)))):Option (List Qa) :=
 match x with
 | (p0,p1) =>
 idx p1 0>>=fun v1 =>
 idx p1 1>>=fun v2 =>
 idx p0.kids 0>>=fun v3 =>
 idx v3.shape p0.axis>>=fun v4 =>
 YV (v1,v2,p0.axis,v4)>>=fun v5 =>
 some v5
theorem QaY {p0 p1 r0} (hm:Y7 (p0,p1)=some r0):FQ 77 [(Qf.ex p0),(.lst ((List.map (fun l=>Dat.lst ((List.map Qa.toD) l))) p1))] (QM r0):=by
 unfold Y7 at hm
 exact fp (fn:=f77) rfl (ge 2 (Qi (Yq (Qd 1 (bi hm fun v1 hx hm=>YY 1 (fun l=>Dat.lst ((List.map Qa.toD) l)) p1 0 v1 (es:=(List.map (fun l=>Dat.lst ((List.map Qa.toD) l))) p1) (d:=(.lst ((List.map Qa.toD) v1))) rfl hx rfl rfl (Qd 2 (bi hm fun v2 hx hm=>YY 1 (fun l=>Dat.lst ((List.map Qa.toD) l)) p1 1 v2 (es:=(List.map (fun l=>Dat.lst ((List.map Qa.toD) l))) p1) (d:=(.lst ((List.map Qa.toD) v2))) rfl hx rfl rfl (Qd 5 (bi hm fun v3 hx hm=>YY 8 Qf.toD p0.kids 0 v3 (es:=Qf.toDs p0.kids) (d:=(Qf.ex v3)) (Qf.toDs_eq _) hx (Qf.toD_eq v3) rfl (Qd 4 (ZX 1 Qg hm fun v4 hm=>Qd 1 (bi hm fun v5 hx hm=>cp (Qba hx) (re 1 ⟨kr,Ql zf⟩)))))))))))))
mutual
def Qt (x:((List Qf) × Int × (List Int) × Int × (List Int) × Int × Int × (List Int) × (List (List Qa)) × Int)):Option ((List (List Qa))) :=
 match x with
 | (q7,q0,q1,q2,q3,q4,q5,q6,v201,v202) =>
 if v202 < (q7.length:Int) then
  idx q7 v202>>=fun v602 =>
  Za (v602.kind,v602.shape,v602.buffer,v602.starts,v602.axis,v602.amount,v602.perm,v602.kids)>>=fun v603 =>
  app 24 v201 ([v603]:List (List Qa))>>=fun v604 =>
  Qt (q7,q0,q1,q2,q3,q4,q5,q6,v604,(W (v202+1)))
 else
 some v201
 partial_fixpoint
def Za (x:(Int × (List Int) × Int × (List Int) × Int × Int × (List Int) × (List Qf))):Option ((List Qa)) :=
 match x with
 | (q0,q1,q2,q3,q4,q5,q6,q7) =>
 Qt (q7,q0,q1,q2,q3,q4,q5,q6,([]:List (List Qa)),0)>>=fun v601 =>
 if q0=1 then
  Y1 ((⟨q0,q1,q2,q3,q4,q5,q6,q7⟩:Qf),v601)>>=fun v605 =>
  some v605
 else
 if q0=2 then
  Y2 ((⟨q0,q1,q2,q3,q4,q5,q6,q7⟩:Qf),v601)>>=fun v606 =>
  some v606
 else
 if q0=3 then
  Y3 ((⟨q0,q1,q2,q3,q4,q5,q6,q7⟩:Qf),v601)>>=fun v607 =>
  some v607
 else
 if q0=4 then
  Y4 ((⟨q0,q1,q2,q3,q4,q5,q6,q7⟩:Qf),v601)>>=fun v608 =>
  some v608
 else
 if q0=5 then
  Y5 ((⟨q0,q1,q2,q3,q4,q5,q6,q7⟩:Qf),v601)>>=fun v609 =>
  some v609
 else
 if q0=6 then
  Y6 ((⟨q0,q1,q2,q3,q4,q5,q6,q7⟩:Qf),v601)>>=fun v610 =>
  some v610
 else
 if q0=7 then
  Y7 ((⟨q0,q1,q2,q3,q4,q5,q6,q7⟩:Qf),v601)>>=fun v611 =>
  some v611
 else
 none
 partial_fixpoint
end
def Yi:((List Qf) × Int × (List Int) × Int × (List Int) × Int × Int × (List Int) × (List (List Qa)) × Int)→((List (List Qa)))→Prop:=fun x r=>match x with
 | (q7,q0,q1,q2,q3,q4,q5,q6,v201,v202)=>LQ f32 32 [1,1,0,1,0,0] 4 ⟨kp 29 [(1,(.ptr 2 0)),(2,(.ptr 1 0)),(3,(.iptr [(Qg q0),(Lb q1),(Qg q2),(Lb q3),(Qg q4),(Qg q5),(Lb q6),(.lst (Qf.toDs q7))])),(5,(.vec 3 ((List.map (fun l=>Dat.lst ((List.map Qa.toD) l))) v201))),(9,(.dat (.lst (Qf.toDs q7)))),(10,(Qc (q7.length:Int))),(11,(Qc v202))],[(.map [(.int .i64 1,(.dat (.raw (.func (.func 65) #[] #[])))),(.int .i64 2,(.dat (.raw (.func (.func 67) #[] #[])))),(.int .i64 3,(.dat (.raw (.func (.func 69) #[] #[])))),(.int .i64 4,(.dat (.raw (.func (.func 71) #[] #[])))),(.int .i64 5,(.dat (.raw (.func (.func 73) #[] #[])))),(.int .i64 6,(.dat (.raw (.func (.func 75) #[] #[])))),(.int .i64 7,(.dat (.raw (.func (.func 77) #[] #[]))))]),(.box [(.mapv 0)]),(.box [(.fn 32 [(.ptr 2 0),(.ptr 1 0)])]),(.tok 29 v201.length)]⟩ (P1 (.exit 0) (fun v601 d=>⟨sl d 29 [(2,(.ptr 1 0)),(3,(.iptr [(Qg q0),(Lb q1),(Qg q2),(Lb q3),(Qg q4),(Qg q5),(Lb q6),(.lst (Qf.toDs q7))])),(5,(.vec 3 ((List.map (fun l=>Dat.lst ((List.map Qa.toD) l))) v601)))],[(.map [(.int .i64 1,(.dat (.raw (.func (.func 65) #[] #[])))),(.int .i64 2,(.dat (.raw (.func (.func 67) #[] #[])))),(.int .i64 3,(.dat (.raw (.func (.func 69) #[] #[])))),(.int .i64 4,(.dat (.raw (.func (.func 71) #[] #[])))),(.int .i64 5,(.dat (.raw (.func (.func 73) #[] #[])))),(.int .i64 6,(.dat (.raw (.func (.func 75) #[] #[])))),(.int .i64 7,(.dat (.raw (.func (.func 77) #[] #[]))))]),(.box [(.mapv 0)]),(.box [(.fn 32 [(.ptr 2 0),(.ptr 1 0)])]),(.tok 29 v601.length)]⟩) r)
def YH:(Int × (List Int) × Int × (List Int) × Int × Int × (List Int) × (List Qf))→(List Qa)→Prop:=fun x r=>match x with
 | (q0,q1,q2,q3,q4,q5,q6,q7)=>PCX prog env 32 [(.dat (.agg [(Qg q0),(Lb q1),(Qg q2),(Lb q3),(Qg q4),(Qg q5),(Lb q6),(.lst (Qf.toDs q7))])),(.ptr 2 0),(.ptr 1 0)] [(.map [(.int .i64 1,(.dat (.raw (.func (.func 65) #[] #[])))),(.int .i64 2,(.dat (.raw (.func (.func 67) #[] #[])))),(.int .i64 3,(.dat (.raw (.func (.func 69) #[] #[])))),(.int .i64 4,(.dat (.raw (.func (.func 71) #[] #[])))),(.int .i64 5,(.dat (.raw (.func (.func 73) #[] #[])))),(.int .i64 6,(.dat (.raw (.func (.func 75) #[] #[])))),(.int .i64 7,(.dat (.raw (.func (.func 77) #[] #[]))))]),(.box [(.mapv 0)]),(.box [(.fn 32 [(.ptr 2 0),(.ptr 1 0)])])] (match r with|v5001=>(QM v5001)) (match r with|v5001=>[(.map [(.int .i64 1,(.dat (.raw (.func (.func 65) #[] #[])))),(.int .i64 2,(.dat (.raw (.func (.func 67) #[] #[])))),(.int .i64 3,(.dat (.raw (.func (.func 69) #[] #[])))),(.int .i64 4,(.dat (.raw (.func (.func 71) #[] #[])))),(.int .i64 5,(.dat (.raw (.func (.func 73) #[] #[])))),(.int .i64 6,(.dat (.raw (.func (.func 75) #[] #[])))),(.int .i64 7,(.dat (.raw (.func (.func 77) #[] #[]))))]),(.box [(.mapv 0)]),(.box [(.fn 32 [(.ptr 2 0),(.ptr 1 0)])])])
theorem g_dnf_Reduce_1_f53df_L1:(∀ x r,Qt x=some r→Yi x r)∧(∀ x r,Za x=some r→YH x r):=by
 refine Qt.mutual_partial_correctness Yi YH ?_ ?_
 ·intro Qt Za Yl XC x r hm
  unfold Yi
  obtain ⟨q7,q0,q1,q2,q3,q4,q5,q6,v201,v202⟩:=x
  exact lp (ge 1 (Qi (ri hm (fun hm=>Qo (Qi (Qm (Qi (R_G (bi hm fun v602 hx hm=>YY 8 Qf.toD q7 v202 v602 (es:=Qf.toDs q7) (d:=(Qf.ex v602)) (Qf.toDs_eq _) hx (Qf.toD_eq v602) rfl (re 3 (R_G (Qd 3 (bi hm fun v603 hx hm=>QbZ (A0:=[(.dat (.agg [(Qg v602.kind),(Lb v602.shape),(Qg v602.buffer),(Lb v602.starts),(Qg v602.axis),(Qg v602.amount),(Lb v602.perm),(.lst (Qf.toDs v602.kids))])),(.ptr 2 0),(.ptr 1 0)]) (q:=(QM v603)) (H0:=[(.map [(.int .i64 1,(.dat (.raw (.func (.func 65) #[] #[])))),(.int .i64 2,(.dat (.raw (.func (.func 67) #[] #[])))),(.int .i64 3,(.dat (.raw (.func (.func 69) #[] #[])))),(.int .i64 4,(.dat (.raw (.func (.func 71) #[] #[])))),(.int .i64 5,(.dat (.raw (.func (.func 73) #[] #[])))),(.int .i64 6,(.dat (.raw (.func (.func 75) #[] #[])))),(.int .i64 7,(.dat (.raw (.func (.func 77) #[] #[]))))]),(.box [(.mapv 0)]),(.box [(.fn 32 [(.ptr 2 0),(.ptr 1 0)])])]) (b:=0) (n:=3) (XC _ _ hx) (rn_cons rfl (rn_cons rfl (rn_cons rfl rn_nil))) (rn_cons rfl (rn_cons rfl (rn_cons rfl rn_nil))) (Qd 1 (bi hm fun v604 hx hm=>Qac 29 1 24 3 (fun l=>Dat.lst ((List.map Qa.toD) l)) v201 ([v603]:List (List Qa)) v604 (xs:=(List.map (fun l=>Dat.lst ((List.map Qa.toD) l))) v201) (es:=(List.map (fun l=>Dat.lst ((List.map Qa.toD) l))) ([v603]:List (List Qa))) (L:=(List.map (fun l=>Dat.lst ((List.map Qa.toD) l)))) (fun _=>rfl) rfl rfl (fun _=>rfl) hx (re 1 (R_G (re 2 (Yl _ _ hm _ (prune_of2 [(.map [(.int .i64 1,(.dat (.raw (.func (.func 65) #[] #[])))),(.int .i64 2,(.dat (.raw (.func (.func 67) #[] #[])))),(.int .i64 3,(.dat (.raw (.func (.func 69) #[] #[])))),(.int .i64 4,(.dat (.raw (.func (.func 71) #[] #[])))),(.int .i64 5,(.dat (.raw (.func (.func 73) #[] #[])))),(.int .i64 6,(.dat (.raw (.func (.func 75) #[] #[])))),(.int .i64 7,(.dat (.raw (.func (.func 77) #[] #[]))))]),(.box [(.mapv 0)]),(.box [(.fn 32 [(.ptr 2 0),(.ptr 1 0)])]),(.tok 29 v604.length)] (fun _=>(pg_cons kr (pg_cons kr (pg_cons kr (pg_cons kr pg_nil))))) rfl))))))))))))))))) (fun hm=>QO zf))))
 ·intro Qt Yl x r hm
  unfold YH
  obtain ⟨q0,q1,q2,q3,q4,q5,q6,q7⟩:=x
  refine PCX_sxB (fn:=f32) rfl ?_
  exact ge 2 (ge 1 (Qi (gr 2 (Qaz Qf.toD q7 (es:=Qf.toDs q7) (Qf.toDs_eq _) (re 1 (Qm (ru1 hm (Yl _) (fun v601 d hm=>gr 3 (kc (n:=q0) (K:=1) hm (fun hc hm=>QD (v:=(.dat (.raw (.func (.func 65) #[] #[])))) rfl (fun _=>Qas (i:=0) (kt:=3) (e:=69) (ik:=.i64) (es:=[(.int .i64 1,(.dat (.raw (.func (.func 65) #[] #[])))),(.int .i64 2,(.dat (.raw (.func (.func 67) #[] #[])))),(.int .i64 3,(.dat (.raw (.func (.func 69) #[] #[])))),(.int .i64 4,(.dat (.raw (.func (.func 71) #[] #[])))),(.int .i64 5,(.dat (.raw (.func (.func 73) #[] #[])))),(.int .i64 6,(.dat (.raw (.func (.func 75) #[] #[])))),(.int .i64 7,(.dat (.raw (.func (.func 77) #[] #[]))))]) (n:=q0) (K:=1) (j:=0) hc kr kr rfl kr kr kr kr) (Qd 2 (bi hm fun v605 hx hm=>cp (QaS hx) (re 1 (Ql zf))))) (fun hm=>kc (n:=q0) (K:=2) hm (fun hc hm=>QD (v:=(.dat (.raw (.func (.func 67) #[] #[])))) rfl (fun _=>Qas (i:=0) (kt:=3) (e:=69) (ik:=.i64) (es:=[(.int .i64 1,(.dat (.raw (.func (.func 65) #[] #[])))),(.int .i64 2,(.dat (.raw (.func (.func 67) #[] #[])))),(.int .i64 3,(.dat (.raw (.func (.func 69) #[] #[])))),(.int .i64 4,(.dat (.raw (.func (.func 71) #[] #[])))),(.int .i64 5,(.dat (.raw (.func (.func 73) #[] #[])))),(.int .i64 6,(.dat (.raw (.func (.func 75) #[] #[])))),(.int .i64 7,(.dat (.raw (.func (.func 77) #[] #[]))))]) (n:=q0) (K:=2) (j:=1) hc kr kr rfl kr kr kr kr) (Qd 2 (bi hm fun v606 hx hm=>cp (QaT hx) (re 1 (Ql zf))))) (fun hm=>kc (n:=q0) (K:=3) hm (fun hc hm=>QD (v:=(.dat (.raw (.func (.func 69) #[] #[])))) rfl (fun _=>Qas (i:=0) (kt:=3) (e:=69) (ik:=.i64) (es:=[(.int .i64 1,(.dat (.raw (.func (.func 65) #[] #[])))),(.int .i64 2,(.dat (.raw (.func (.func 67) #[] #[])))),(.int .i64 3,(.dat (.raw (.func (.func 69) #[] #[])))),(.int .i64 4,(.dat (.raw (.func (.func 71) #[] #[])))),(.int .i64 5,(.dat (.raw (.func (.func 73) #[] #[])))),(.int .i64 6,(.dat (.raw (.func (.func 75) #[] #[])))),(.int .i64 7,(.dat (.raw (.func (.func 77) #[] #[]))))]) (n:=q0) (K:=3) (j:=2) hc kr kr rfl kr kr kr kr) (Qd 2 (bi hm fun v607 hx hm=>cp (QaU hx) (re 1 (Ql zf))))) (fun hm=>kc (n:=q0) (K:=4) hm (fun hc hm=>QD (v:=(.dat (.raw (.func (.func 71) #[] #[])))) rfl (fun _=>Qas (i:=0) (kt:=3) (e:=69) (ik:=.i64) (es:=[(.int .i64 1,(.dat (.raw (.func (.func 65) #[] #[])))),(.int .i64 2,(.dat (.raw (.func (.func 67) #[] #[])))),(.int .i64 3,(.dat (.raw (.func (.func 69) #[] #[])))),(.int .i64 4,(.dat (.raw (.func (.func 71) #[] #[])))),(.int .i64 5,(.dat (.raw (.func (.func 73) #[] #[])))),(.int .i64 6,(.dat (.raw (.func (.func 75) #[] #[])))),(.int .i64 7,(.dat (.raw (.func (.func 77) #[] #[]))))]) (n:=q0) (K:=4) (j:=3) hc kr kr rfl kr kr kr kr) (Qd 2 (bi hm fun v608 hx hm=>cp (QaV hx) (re 1 (Ql zf))))) (fun hm=>kc (n:=q0) (K:=5) hm (fun hc hm=>QD (v:=(.dat (.raw (.func (.func 73) #[] #[])))) rfl (fun _=>Qas (i:=0) (kt:=3) (e:=69) (ik:=.i64) (es:=[(.int .i64 1,(.dat (.raw (.func (.func 65) #[] #[])))),(.int .i64 2,(.dat (.raw (.func (.func 67) #[] #[])))),(.int .i64 3,(.dat (.raw (.func (.func 69) #[] #[])))),(.int .i64 4,(.dat (.raw (.func (.func 71) #[] #[])))),(.int .i64 5,(.dat (.raw (.func (.func 73) #[] #[])))),(.int .i64 6,(.dat (.raw (.func (.func 75) #[] #[])))),(.int .i64 7,(.dat (.raw (.func (.func 77) #[] #[]))))]) (n:=q0) (K:=5) (j:=4) hc kr kr rfl kr kr kr kr) (Qd 2 (bi hm fun v609 hx hm=>cp (QaW hx) (re 1 (Ql zf))))) (fun hm=>kc (n:=q0) (K:=6) hm (fun hc hm=>QD (v:=(.dat (.raw (.func (.func 75) #[] #[])))) rfl (fun _=>Qas (i:=0) (kt:=3) (e:=69) (ik:=.i64) (es:=[(.int .i64 1,(.dat (.raw (.func (.func 65) #[] #[])))),(.int .i64 2,(.dat (.raw (.func (.func 67) #[] #[])))),(.int .i64 3,(.dat (.raw (.func (.func 69) #[] #[])))),(.int .i64 4,(.dat (.raw (.func (.func 71) #[] #[])))),(.int .i64 5,(.dat (.raw (.func (.func 73) #[] #[])))),(.int .i64 6,(.dat (.raw (.func (.func 75) #[] #[])))),(.int .i64 7,(.dat (.raw (.func (.func 77) #[] #[]))))]) (n:=q0) (K:=6) (j:=5) hc kr kr rfl kr kr kr kr) (Qd 2 (bi hm fun v610 hx hm=>cp (QaX hx) (re 1 (Ql zf))))) (fun hm=>kc (n:=q0) (K:=7) hm (fun hc hm=>QD (v:=(.dat (.raw (.func (.func 77) #[] #[])))) rfl (fun _=>Qas (i:=0) (kt:=3) (e:=69) (ik:=.i64) (es:=[(.int .i64 1,(.dat (.raw (.func (.func 65) #[] #[])))),(.int .i64 2,(.dat (.raw (.func (.func 67) #[] #[])))),(.int .i64 3,(.dat (.raw (.func (.func 69) #[] #[])))),(.int .i64 4,(.dat (.raw (.func (.func 71) #[] #[])))),(.int .i64 5,(.dat (.raw (.func (.func 73) #[] #[])))),(.int .i64 6,(.dat (.raw (.func (.func 75) #[] #[])))),(.int .i64 7,(.dat (.raw (.func (.func 77) #[] #[]))))]) (n:=q0) (K:=7) (j:=6) hc kr kr rfl kr kr kr kr) (Qd 2 (bi hm fun v611 hx hm=>cp (QaY hx) (re 1 (Ql zf))))) (fun hm=>(Qbo hm).elim))))))))) (hst:=(prune_of2 [(.map [(.int .i64 1,(.dat (.raw (.func (.func 65) #[] #[])))),(.int .i64 2,(.dat (.raw (.func (.func 67) #[] #[])))),(.int .i64 3,(.dat (.raw (.func (.func 69) #[] #[])))),(.int .i64 4,(.dat (.raw (.func (.func 71) #[] #[])))),(.int .i64 5,(.dat (.raw (.func (.func 73) #[] #[])))),(.int .i64 6,(.dat (.raw (.func (.func 75) #[] #[])))),(.int .i64 7,(.dat (.raw (.func (.func 77) #[] #[]))))]),(.box [(.mapv 0)]),(.box [(.fn 32 [(.ptr 2 0),(.ptr 1 0)])]),(.tok 29 (([]:List (List Qa)).length))] (fun _=>(pg_cons kr (pg_cons kr (pg_cons kr (pg_cons kr pg_nil))))) rfl)))))))))
theorem Yl:∀ x r,Qt x=some r→Yi x r:=g_dnf_Reduce_1_f53df_L1.1
theorem XC:∀ x r,Za x=some r→YH x r:=g_dnf_Reduce_1_f53df_L1.2
def Jl (x:Qf):Option (List Qa) :=
 match x with
 | p0 =>
 Yr ()>>=fun _ =>
 Za (p0.kind,p0.shape,p0.buffer,p0.starts,p0.axis,p0.amount,p0.perm,p0.kids)>>=fun v1 =>
 some v1
theorem QbK {p0 r0} (hm:Jl p0=some r0):FQ 9 [(Qf.ex p0)] (QM r0):=by
 unfold Jl at hm
 exact fp (fn:=f9) rfl (ge 2 (Qi (R_G (bi hm fun _ hx hm=>QR (Qau hx) (re 2 (ge 1 (ge 2 (gr 2 (bi hm fun v1 hx hm=>QbZ (A0:=[(.dat (.agg [(Qg p0.kind),(Lb p0.shape),(Qg p0.buffer),(Lb p0.starts),(Qg p0.axis),(Qg p0.amount),(Lb p0.perm),(.lst (Qf.toDs p0.kids))])),(.ptr 2 0),(.ptr 1 0)]) (q:=(QM v1)) (H0:=[(.map [(.int .i64 1,(.dat (.raw (.func (.func 65) #[] #[])))),(.int .i64 2,(.dat (.raw (.func (.func 67) #[] #[])))),(.int .i64 3,(.dat (.raw (.func (.func 69) #[] #[])))),(.int .i64 4,(.dat (.raw (.func (.func 71) #[] #[])))),(.int .i64 5,(.dat (.raw (.func (.func 73) #[] #[])))),(.int .i64 6,(.dat (.raw (.func (.func 75) #[] #[])))),(.int .i64 7,(.dat (.raw (.func (.func 77) #[] #[]))))]),(.box [(.mapv 0)]),(.box [(.fn 32 [(.ptr 2 0),(.ptr 1 0)])])]) (b:=0) (n:=3) (XC _ _ hx) (rn_cons rfl (rn_cons rfl (rn_cons rfl rn_nil))) (rn_cons rfl (rn_cons rfl (rn_cons rfl rn_nil))) (re 1 (Ql zf)))))))))))
def ZG (x:((List Qa) × Int × Int × Int × Int)):Option ((Int × Int × Int)) :=
 match x with
 | (p0,v201,v202,v203,v204) =>
 if v204 < (p0.length:Int) then
  idx p0 v204>>=fun v604 =>
  if (W (v604.access.kind - 1))=0 then
   ZG (p0,(W (v201+1)),v202,v203,(W (v204+1)))
  else
  if (W (v604.access.kind - 1))=1 then
   ZG (p0,v201,(W (v202+1)),v203,(W (v204+1)))
  else
  if (W (v604.access.kind - 1))=2 then
   ZG (p0,v201,v202,(W (v203+1)),(W (v204+1)))
  else
  none
 else
 some (v201,v202,v203)
 partial_fixpoint
theorem XB:∀ x r,ZG x=some r→match x with|(p0,v201,v202,v203,v204)=>LQ f21 21 [1,1,0,1,0,0] 2 ⟨kp 22 [(2,(.ptr 0 0)),(3,(.ptr 1 0)),(6,(QM p0)),(7,(Qc (p0.length:Int))),(8,(Qc v204))],[(.box [(Qc 0),(Qc 0),(Qc 0)]),(.box [(Qc v201),(Qc v202),(Qc v203)])]⟩ (P1 (.exit 0) (fun (v601,v602,v603) d=>⟨sl d 22 [(2,(.ptr 0 0)),(3,(.ptr 1 0))],[(.box [(Qc 0),(Qc 0),(Qc 0)]),(.box [(Qc v601),(Qc v602),(Qc v603)])]⟩) r):=by
 refine ZG.partial_correctness _ (fun ZG XB x r hm=>?_)
 obtain ⟨p0,v201,v202,v203,v204⟩:=x
 exact lp (ge 1 (Qi (ri hm (fun hm=>Qo (Qi (Qm (Qi (R_G (ZX 9 Qa.toD hm fun v604 hm=>re 3 (R_G (Qd 4 (kc (n:=(W (v604.access.kind - 1))) (K:=0) hm (fun hc605 hm=>QD (v:=.ptr 1 0) rfl (fun _=>Qan (n:=(W (v604.access.kind - 1))) (K:=0) (len:=3) (e:=3) (size:=1) (i:=1) (off:=0) hc605 kr kr kr kr rfl kr kr) (Qd 2 (QD (v:=.ptr 1 0) rfl (fun _=>Qan (n:=(W (v604.access.kind - 1))) (K:=0) (len:=3) (e:=3) (size:=1) (i:=1) (off:=0) hc605 kr kr kr kr rfl kr kr) (re 1 (R_G (re 2 (XB _ _ hm _ kr))))))) (fun hm=>kc (n:=(W (v604.access.kind - 1))) (K:=1) hm (fun hc605 hm=>QD (v:=.ptr 1 1) rfl (fun _=>Qan (n:=(W (v604.access.kind - 1))) (K:=1) (len:=3) (e:=3) (size:=1) (i:=1) (off:=0) hc605 kr kr kr kr rfl kr kr) (Qd 2 (QD (v:=.ptr 1 1) rfl (fun _=>Qan (n:=(W (v604.access.kind - 1))) (K:=1) (len:=3) (e:=3) (size:=1) (i:=1) (off:=0) hc605 kr kr kr kr rfl kr kr) (re 1 (R_G (re 2 (XB _ _ hm _ kr))))))) (fun hm=>kc (n:=(W (v604.access.kind - 1))) (K:=2) hm (fun hc605 hm=>QD (v:=.ptr 1 2) rfl (fun _=>Qan (n:=(W (v604.access.kind - 1))) (K:=2) (len:=3) (e:=3) (size:=1) (i:=1) (off:=0) hc605 kr kr kr kr rfl kr kr) (Qd 2 (QD (v:=.ptr 1 2) rfl (fun _=>Qan (n:=(W (v604.access.kind - 1))) (K:=2) (len:=3) (e:=3) (size:=1) (i:=1) (off:=0) hc605 kr kr kr kr rfl kr kr) (re 1 (R_G (re 2 (XB _ _ hm _ kr))))))) (fun hm=>(Qbo hm).elim)))))))))))) (fun hm=>QO zf))))
def JP (x:(List Qa)):Option S50 :=
 match x with
 | p0 =>
 ZG (p0,0,0,0,0)>>=fun (v601,v602,v603) =>
 some (⟨v601,v602,v603⟩:S50)
theorem QbT {p0 r0} (hm:JP p0=some r0):FQ 21 [(.lst ((List.map Qa.toD) p0))] (.dat (S50.toD r0)):=by
 unfold JP at hm
 exact fp (fn:=f21) rfl (ge 1 (ge 1 (Qi (gr 1 (ZM Qa.toD p0 (re 1 (Qm (ru1 hm (XB _) fun ⟨v601,v602,v603⟩ d hm=>ge 2 (Ql zf)))))))))
mutual
def Q4 (x:(Qb × Int)):Option (Unit ⊕ Unit) :=
 match x with
 | (p0,v201) =>
 if v201 < (p0.kids.length:Int) then
  idx p0.kids v201>>=fun v601 =>
  Yn v601>>=fun v602 =>
  if v602=true then
   some (Sum.inl ())
  else
  Q4 (p0,(W (v201+1)))
 else
 some (Sum.inr ())
 partial_fixpoint
def Yn (x:Qb):Option Bool :=
 match x with
 | p0 =>
 if p0.kind=2 then
  some true
 else
 (
 Q4 (p0,0)>>=fun out =>
 match out with
 | .inl _ =>
  some true
 | .inr (_) =>
  some false
 )
 partial_fixpoint
end
def YZ:(Qb × Int)→(Unit ⊕ Unit)→Prop:=fun x r=>match x with
 | (p0,v201)=>LQ f25 25 [1,1,0,1,0,0] 1 ⟨kp 20 [(1,(.ptr 0 0)),(3,(Qc v201))],(Qs p0.kind p0.shape p0.buffer p0.starts p0.axis p0.amount p0.perm p0.kids)⟩ (P2 .ret (fun _ d=>⟨sl d 20 [(2,(Qn true))],(Qs p0.kind p0.shape p0.buffer p0.starts p0.axis p0.amount p0.perm p0.kids)⟩) (.exit 0) (fun _ d=>⟨sl d 20 [],(Qs p0.kind p0.shape p0.buffer p0.starts p0.axis p0.amount p0.perm p0.kids)⟩) r)
def X8:Qb→Bool→Prop:=fun x r=>match x,r with
 | p0,r0=>∀ H,PC prog env 25 ([(Qb.ex p0)].map .dat) H (Qn r0) H
theorem g_law20_windows_L1:(∀ x r,Q4 x=some r→YZ x r)∧(∀ x r,Yn x=some r→X8 x r):=by
 refine Q4.mutual_partial_correctness YZ X8 ?_ ?_
 ·intro Q4 Yn Xc JY x r hm
  unfold YZ
  obtain ⟨p0,v201⟩:=x
  exact lp (Qi (gr 3 (Qaz Qb.toD p0.kids (es:=Qb.toDs p0.kids) (Qb.toDs_eq _) (re 1 (ri hm (fun hm=>Qo (Qi (Qm (gr 3 (bi hm fun v601 hx hm=>YY 8 Qb.toD p0.kids v201 v601 (es:=Qb.toDs p0.kids) (d:=(Qb.ex v601)) (Qb.toDs_eq _) hx (Qb.toD_eq v601) rfl (Qd 1 (bi hm fun v602 hx hm=>Yb (JY _ _ hx []) (QP (rib hm (fun hm=>ge 1 (Ql zf)) (fun hm=>Qo (R_G (re 3 (Xc _ _ hm _ kr))))))))))))) (fun hm=>QO zf))))))
 ·intro Q4 Xc p0 r0 hm
  unfold X8
  intro H
  refine PC_sx (ds:=[(Qb.ex p0)]) (fn:=f25) rfl ?_
  exact ge 2 (Qi (ge 3 (riq hm (fun hm=>ge 1 (Ql zf)) (fun hm=>Qo (Qi (ge 1 (Qm (ru2 hm (Xc _) (fun _ d hm=>zf) fun _ d hm=>ge 1 (Ql zf)))))))))
theorem Xc:∀ x r,Q4 x=some r→YZ x r:=g_law20_windows_L1.1
theorem JY:∀ x r,Yn x=some r→X8 x r:=g_law20_windows_L1.2
def XL (x:(Qb × (List (List Int)))):Option Bool :=
 match x with
 | (p0,p1) =>
 (JJ ()>>=fun (v2:Bool) =>
 (if v2=false then
  some true
 else
 X4 (p0,p1,300)>>=fun v4 =>
 some (!v4)
 )>>=fun (v3:Bool) =>
 if v3=true then
  some true
 else
 YS p0>>=fun v5 =>
 some (!v5)
 )>>=fun (v1:Bool) =>
 if v1=true then
  JJ ()>>=fun v6 =>
  some v6
 else
 Y8 p0>>=fun v7 =>
 Jl (⟨v7.kind,v7.shape,v7.buffer,v7.starts,v7.axis,v7.amount,v7.perm,v7.kids⟩:Qf)>>=fun v8 =>
 YN p0.shape>>=fun v9 =>
 if (v8.length:Int) > v9 then
  some false
 else
 JP v8>>=fun v10 =>
 if v10.c2=0 then
  Yn p0>>=fun v11 =>
  if v11=true then
   some true
  else
  some (v10.c0 == 0)
 else
 some false
def Qao:(Qb × (List (List Int)))→Bool→Prop:=fun x r=>match x,r with
 | (p0,p1),r0=>∀ H,PC prog env 5 ([(Qb.ex p0),(.lst ((List.map (fun l=>Dat.lst ((List.map Qg) l))) p1))].map .dat) H (Qn r0) H
theorem w_law20_DnfPlain:∀ x r,XL x=some r→Qao x r:=by
 intro x r0 hm
 unfold XL at hm
 unfold Qao
 obtain ⟨p0,p1⟩:=x
 intro H
 refine PC_sx (ds:=[(Qb.ex p0),(.lst ((List.map (fun l=>Dat.lst ((List.map Qg) l))) p1))]) (fn:=f5) rfl ?_
 exact ge 2 (Qi (Qi (bi hm fun v1 hs hm=>Jx (fun d=>⟨sl d 44 [(2,(.ptr 0 0)),(19,(Qn v1))],(Qs p0.kind p0.shape p0.buffer p0.starts p0.axis p0.amount p0.perm p0.kids)⟩) (have hm:=hs;QbO (bi hm fun v2 hx hm=>Yb (QaM _ _ hx []) (Qd 2 (bi hm fun v3 hs hm=>Xs (j:=8) (fun d=>⟨sl d 44 [(2,(.ptr 0 0)),(14,(Qn v3))],(Qs p0.kind p0.shape p0.buffer p0.starts p0.axis p0.amount p0.perm p0.kids)⟩) (fun d=>Qd 1 (gsb 15 hm (fun hm=>re 4 ⟨kr,zf⟩) (fun hm=>Qd 1 (bi hm fun v5 hx hm=>Yb (Qam _ _ hx []) (re 2 ⟨kr,zf⟩))))) (fun hJ=>gsn 9 hs (fun hm=>Qd 5 zf) (fun hm=>Qd 2 (bi hm fun v4 hx hm=>cp (QbC hx) (Qd 2 zf)))))))) (fun d=>rib hm (fun hm=>Qi (R_G (bi hm fun v6 hx hm=>Yb (QaM _ _ hx []) (re 1 (Ql zf))))) (fun hm=>Qo (gr 1 (bi hm fun v7 hx hm=>Yb (Qav _ _ hx []) (bi hm fun v8 hx hm=>cp (QbK hx) (re 1 (Qi (gr 1 (ZM Qa.toD v8 (Qd 2 (bi hm fun v9 hx hm=>cp (QaN hx) (re 1 (ri hm (fun hm=>ge 1 (Ql zf)) (fun hm=>Qo (gr 1 (bi hm fun v10 hx hm=>cp (QbT hx) (re 2 (gr 4 (gsq 35 hm (fun hm=>Qd 1 (bi hm fun v11 hx hm=>Yb (JY _ _ hx []) (Qd 1 (gsb 38 hm (fun hm=>re 6 (Ql zf)) (fun hm=>re 6 (Ql zf)))))) (fun hm=>re 9 (Ql zf))))))))))))))))))))))))
set_option linter.unusedSimpArgs false
theorem Equal_L1:∀ (s t p q:List Int),s.length=t.length→p.length=q.length→Sm (p++s).length→ZP (p++s,q++t,(p.length:Int))=some (if s=t then .inr () else .inl ())
 | [],[],p,q,_,_,hs=>by
  rw [ZP]; simp only [Zc,if_false,if_true]
 | x::s,y::t,p,q,h1,h2,hs=>by
  rw [ZP]
  have ih:=Equal_L1 s t (p++[x]) (q++[y]) (by simpa using h1) (by simp [h2]) (by rw [← Qv]; exact hs)
  rw [← Qv,← Qv] at ih
  simp only [Zg,if_true,Qz,Qe,mid_W hs,ih]
  rw [h2,Qz]
  by_cases he:x=y <;> simp [he,Qe]
 | [],_::_,_,_,h,_,_=>by cases h
 | _::_,[],_,_,h,_,_=>by cases h
theorem Equal_ok (a b:List Int) (hs:Sm a.length):Yc (a,b)=some (decide (a=b)):=by
 simp only [Yc]
 by_cases h:a.length=b.length
 ·have e:=Equal_L1 a b [] [] h rfl hs
  have e2:¬ ((a.length:Int)≠(b.length:Int)):=by omega
  simp only [e2,if_false]
  have e3:ZP (a,b,0)=_:=e
  rw [e3]
  by_cases hab:a=b
  ·subst hab; simp
  ·rw [if_neg hab,decide_eq_false hab]; rfl
 ·have e2:((a.length:Int)≠(b.length:Int)):=by omega
  have e3:a≠b:=fun e=>h (by rw [e])
  rw [if_pos e2,decide_eq_false e3]

def prodI (l:List Int):Int:=l.foldl (· * ·) 1
def negB (l:List Int):Bool:=l.any fun d=>decide (d < 0)
def bigB (l:List Int):Bool:=l.any fun d=>decide (d > 65536)
def prodR (l:List Int):Int × Int:=if negB l then (0,6) else if bigB l then (0,7) else if prodI l > 65536 then (0,7) else (prodI l,0)
def checkR (l:List Int):Int:=if negB l then 6 else if l.length > 16∨bigB l=true∨prodI l > 65536 then 7 else 0
def cellsR (l:List Int):Int:=if checkR l=0 then prodI l else 0
theorem foldl_mul:∀ (l:List Int) (x:Int),l.foldl (· * ·) x=x * l.foldl (· * ·) 1
 | [],x=>by simp
 | d::l,x=>by rw [List.foldl_cons,foldl_mul l (x * d),List.foldl_cons,foldl_mul l (1 * d),Int.one_mul,Int.mul_assoc]
theorem prodI_cons (d:Int) (l:List Int):prodI (d::l)=d * prodI l:=by rw [prodI,List.foldl_cons,foldl_mul,Int.one_mul]; rfl
theorem prodI_nil:prodI []=1:=rfl
theorem prodI_append (a b:List Int):prodI (a++b)=prodI a * prodI b:=by rw [prodI,prodI,prodI,List.foldl_append,foldl_mul]
theorem prodI_pos:∀ {l:List Int},(∀ d∈l,1≤d)→1≤prodI l
 | [],_=>by simp [prodI]
 | d::l,h=>by
  have h1:=prodI_pos (l:=l) (fun x hx=>h x (List.mem_cons_of_mem _ hx))
  have h2:=h d (List.mem_cons_self ..)
  rw [prodI_cons]
  have:=Int.mul_le_mul h2 h1 (by omega) (by omega)
  omega
theorem prodI_zero {l:List Int} (h:(0:Int)∈l):prodI l=0:=by
 obtain ⟨s,t,rfl⟩:=List.append_of_mem h
 rw [prodI_append,prodI_cons]; simp
theorem negB_cons (d:Int) (l:List Int):negB (d::l)=(decide (d < 0) || negB l):=rfl
theorem bigB_cons (d:Int) (l:List Int):bigB (d::l)=(decide (d > 65536) || bigB l):=rfl

theorem Prod_L1:∀ (s p:List Int) (z:Bool),Sm (p++s).length→Q5 (p++s,z,(p.length:Int))=some (if negB s then .inl () else .inr (z || s.any (· == 0)))
 | [],p,z,hs=>by
  rw [Q5]; simp only [Zc,if_false]; simp [negB]
 | x::s,p,z,hs=>by
  rw [Q5]
  have ih:=fun z=>Prod_L1 s (p++[x]) z (by rw [← Qv]; exact hs)
  rw [← Qv] at ih
  simp only [Zg,if_true,Qz,Qe,mid_W hs,ih,negB_cons]
  by_cases hn:x < 0
  ·simp [hn]
  ·cases z <;> by_cases hz:x=0 <;> simp [hn,hz]
theorem Prod_L2:∀ (s p:List Int) (z:Bool),Sm (p++s).length→Ze (p++s,z,(p.length:Int))=some (if bigB s then .inl () else .inr ())
 | [],p,z,hs=>by
  rw [Ze]; simp only [Zc,if_false]; simp [bigB]
 | x::s,p,z,hs=>by
  rw [Ze]
  have ih:=Prod_L2 s (p++[x]) z (by rw [← Qv]; exact hs)
  rw [← Qv] at ih
  simp only [Zg,if_true,Qz,Qe,mid_W hs,ih,bigB_cons]
  by_cases hn:x > 65536 <;> simp [hn]
theorem Prod_L3:∀ (s p:List Int) (m:Int),Sm (p++s).length→(∀ d∈s,1≤d∧d≤65536)→1≤m→m≤65536→Zf (p++s,m,(p.length:Int))=some (if m * prodI s > 65536 then .inl () else .inr (m * prodI s))
 | [],p,m,hs,hd,h1,h2=>by
  rw [Zf]; simp only [Zc,if_false,prodI_nil,Int.mul_one]
  rw [if_neg (by omega)]
 | x::s,p,m,hs,hd,h1,h2=>by
  rw [Zf]
  have hx:=hd x (List.mem_cons_self ..)
  have b1:=Int.mul_le_mul h2 hx.2 (by omega) (by omega)
  have b2:=Int.mul_le_mul h1 hx.1 (by omega) (by omega)
  have hw:W (m * x)=m * x:=W_ok (by omega) (by omega)
  have hds:∀ d∈s,1≤d∧d≤65536:=fun d h=>hd d (List.mem_cons_of_mem _ h)
  simp only [Zg,if_true,Qz,Qe,mid_W hs,hw,prodI_cons]
  rw [← Int.mul_assoc]
  by_cases hn:m * x > 65536
  ·have hp:=prodI_pos (l:=s) (fun d h=>(hds d h).1)
   have:m * x * 1≤m * x * prodI s:=Int.mul_le_mul_of_nonneg_left hp (by omega)
   rw [if_pos hn,if_pos (by omega)]
  ·have ih:=Prod_L3 s (p++[x]) (m * x) (by rw [← Qv]; exact hs) hds (by omega) (by omega)
   rw [← Qv] at ih
   rw [if_neg hn,ih]
theorem neg_all {l:List Int} (h:negB l=false):∀ d∈l,0≤d:=fun d hd=>by
 have:=List.any_eq_false.1 h d hd
 simp at this; omega
theorem big_all {l:List Int} (h:bigB l=false):∀ d∈l,d≤65536:=fun d hd=>by
 have:=List.any_eq_false.1 h d hd
 simp at this; omega
theorem Product_ok (l:List Int) (hs:Sm l.length):YG l=some (prodR l):=by
 have e1:Q5 (l,false,0)=_:=Prod_L1 l [] false hs
 have e2:∀ z,Ze (l,z,0)=_:=fun z=>Prod_L2 l [] z hs
 simp only [YG,e1,Qe,prodR]
 by_cases hn:negB l=true
 ·simp [hn]
 ·have hn':negB l=false:=by simpa using hn
  simp only [hn',Bool.false_eq_true,if_false,Bool.false_or,e2,Qe]
  by_cases hb:bigB l=true
  ·simp [hb]
  ·have hb':bigB l=false:=by simpa using hb
   simp only [hb',Bool.false_eq_true,if_false]
   by_cases hz:(l.any (· == 0))=true
   ·have:prodI l=0:=prodI_zero (by simpa using hz)
    simp [hz,this]
   ·have hz':l.any (· == 0)=false:=(Bool.not_eq_true _).mp hz
    have e3:Zf (l,1,0)=_:=Prod_L3 l [] 1 hs (fun d hd=>by
     have h1:=neg_all hn' d hd
     have h2:=big_all hb' d hd
     have h3:d≠0:=fun e=>by have:=List.any_eq_false.1 hz' d hd; simp [e] at this
     omega) (by omega) (by omega)
    simp only [hz',Bool.false_eq_true,if_false,e3,Qe,Int.one_mul]
    by_cases hp:prodI l > 65536 <;> simp [hp]
theorem Check_L1:∀ (s p:List Int),Sm (p++s).length→ZO (p++s,(p.length:Int))=some (if negB s then .inl () else .inr ())
 | [],p,hs=>by
  rw [ZO]; simp only [Zc,if_false]; simp [negB]
 | x::s,p,hs=>by
  rw [ZO]
  have ih:=Check_L1 s (p++[x]) (by rw [← Qv]; exact hs)
  rw [← Qv] at ih
  simp only [Zg,if_true,Qz,Qe,mid_W hs,ih,negB_cons]
  by_cases hn:x < 0 <;> simp [hn]
theorem Check_ok (l:List Int) (hs:Sm l.length):YO l=some (checkR l):=by
 have e1:ZO (l,0)=_:=Check_L1 l [] hs
 simp only [YO,e1,Qe,checkR,Product_ok l hs]
 by_cases hn:negB l=true
 ·simp [hn]
 ·simp only [hn,if_false,prodR,Bool.false_eq_true]
  by_cases hl:l.length > 16
  ·have:(l.length:Int) > 16:=by omega
   simp [hl,this,Qe]
  ·have:¬ (l.length:Int) > 16:=by omega
   by_cases hb:bigB l=true
   ·simp [hl,this,hb,Qe]
   ·by_cases hp:prodI l > 65536 <;> simp [hl,this,hb,hp,Qe]
theorem Cont1_L1:∀ (s p:List Int),Sm (p++s).length→∃ r,Qq (p++s,(p.length:Int))=some r∧(negB s=true→∃ j:Nat,r=.inl (j:Int))∧(negB s=false→r=.inr ())
 | [],p,hs=>by
  rw [Qq]; simp only [Zc,if_false]; exact ⟨_,rfl,fun h=>(by cases h),fun _=>rfl⟩
 | x::s,p,hs=>by
  rw [Qq]
  obtain ⟨r,h1,h2,h3⟩:=Cont1_L1 s (p++[x]) (by rw [← Qv]; exact hs)
  rw [← Qv] at h1
  simp only [Zg,if_true,Qz,Qe,mid_W hs,Jm,negB_cons]
  by_cases hn:x < 0
  ·simp only [hn,decide_true,if_true]; exact ⟨_,rfl,fun _=>⟨_,rfl⟩,fun h=>by simp at h⟩
  ·simp only [hn,decide_false,Bool.false_eq_true,if_false,Bool.false_or]; exact ⟨r,h1,h2,h3⟩
theorem Cont1_ok (l:List Int) (hs:Sm l.length):QG l=some (negB l):=by
 obtain ⟨r,h1,h2,h3⟩:=Cont1_L1 l [] hs
 have e:Qq (l,0)=some r:=h1
 simp only [QG,Q1,e,Qe]
 cases hn:negB l
 ·rw [h3 hn]; rfl
 ·obtain ⟨j,rfl⟩:=h2 hn; simp [Qe]
theorem Cont2_L1:∀ (s p:List Int),Sm (p++s).length→∃ r,Qr (p++s,(p.length:Int))=some r∧(bigB s=true→∃ j:Nat,r=.inl (j:Int))∧(bigB s=false→r=.inr ())
 | [],p,hs=>by
  rw [Qr]; simp only [Zc,if_false]; exact ⟨_,rfl,fun h=>(by cases h),fun _=>rfl⟩
 | x::s,p,hs=>by
  rw [Qr]
  obtain ⟨r,h1,h2,h3⟩:=Cont2_L1 s (p++[x]) (by rw [← Qv]; exact hs)
  rw [← Qv] at h1
  simp only [Zg,if_true,Qz,Qe,mid_W hs,Jn,bigB_cons]
  by_cases hn:x > 65536
  ·simp only [hn,decide_true,if_true]; exact ⟨_,rfl,fun _=>⟨_,rfl⟩,fun h=>by simp at h⟩
  ·simp only [hn,decide_false,Bool.false_eq_true,if_false,Bool.false_or]; exact ⟨r,h1,h2,h3⟩
theorem Cont2_ok (l:List Int) (hs:Sm l.length):QH l=some (bigB l):=by
 obtain ⟨r,h1,h2,h3⟩:=Cont2_L1 l [] hs
 have e:Qr (l,0)=some r:=h1
 simp only [QH,Q2,e,Qe]
 cases hn:bigB l
 ·rw [h3 hn]; rfl
 ·obtain ⟨j,rfl⟩:=h2 hn; simp [Qe]
def errR (l:List Int):Int:=if negB l then 6 else if bigB l then 7 else 0
theorem sizecheck_ok (l:List Int) (hs:Sm l.length):XO l=some (errR l):=by
 simp only [XO,Cont1_ok l hs,Cont2_ok l hs,Qe,errR]
 by_cases h1:negB l=true
 ·simp [h1]
 ·by_cases h2:bigB l=true <;> simp [h1,h2]
theorem Index_L1 (v:Int):∀ (s p:List Int),Sm (p++s).length→∃ r,QJ (p++s,v,(p.length:Int))=some r∧(s.any (v == ·)=true→∃ j:Nat,r=.inl (j:Int))∧(s.any (v == ·)=false→r=.inr ())
 | [],p,hs=>by
  rw [QJ]; simp only [Zc,if_false]; exact ⟨_,rfl,fun h=>(by cases h),fun _=>rfl⟩
 | x::s,p,hs=>by
  rw [QJ]
  obtain ⟨r,h1,h2,h3⟩:=Index_L1 v s (p++[x]) (by rw [← Qv]; exact hs)
  rw [← Qv] at h1
  simp only [Zg,if_true,Qz,Qe,mid_W hs]
  by_cases hn:v=x
  ·rw [if_pos hn]; exact ⟨_,rfl,fun _=>⟨_,rfl⟩,fun h=>by simp [hn] at h⟩
  ·rw [if_neg hn]; exact ⟨r,h1,fun h=>h2 (by simpa [hn] using h),fun h=>h3 (by simpa [hn] using h)⟩
theorem Contains_ok (l:List Int) (v:Int) (hs:Sm l.length):ZT (l,v)=some (l.any (v == ·)):=by
 obtain ⟨r,h1,h2,h3⟩:=Index_L1 v l [] hs
 have e:QJ (l,v,0)=some r:=h1
 simp only [ZT,Yt,e,Qe]
 cases hn:l.any (v == ·)
 ·rw [h3 hn]; rfl
 ·obtain ⟨j,rfl⟩:=h2 hn; simp [Qe]
theorem Mul_ok {a b:Int} (ha:1≤a∧a≤65536) (hb:1≤b∧b≤65536):J6 (a,b,65536)=some (if a * b > 65536 then (0,false) else (a * b,true)):=by
 have m1:=Int.mul_le_mul ha.2 hb.2 (by omega) (by omega)
 have m2:=Int.mul_le_mul ha.1 hb.1 (by omega) (by omega)
 have hq0:(65536:Int).tdiv b=65536 / b:=Int.tdiv_eq_ediv_of_nonneg (by omega)
 have hq1:(65536:Int) / b≤65536:=Int.ediv_le_self _ (by omega)
 have hq2:0≤(65536:Int) / b:=Int.ediv_nonneg (by omega) (by omega)
 have hq:quoM 65536 b=some (65536 / b):=by
  rw [quoM,if_neg (by omega),hq0,W_ok (by omega) (by omega)]
 have hlt:(a > 65536 / b)=(a * b > 65536):=by
  have:=Int.ediv_lt_iff_lt_mul (a:=65536) (b:=a) (c:=b) (by omega)
  simp only [gt_iff_lt,eq_iff_iff]
  exact this
 simp only [J6,show ¬ a < 0 by omega,show ¬ b < 0 by omega,show ¬ a > 65536 by omega,show ¬ b > 65536 by omega,show b > 0 by omega,if_false,if_true,hq,Qe,hlt,decide_false,Bool.false_eq_true]
 by_cases h:a * b > 65536
 ·simp [h]
 ·simp only [h,decide_false,Qe,Bool.false_eq_true,if_false]; rw [W_ok (by omega) (by omega)]
theorem foldP_L1:∀ (s p:List Int) (m:Int),Sm (p++s).length→(∀ d∈s,1≤d∧d≤65536)→1≤m→m≤65536 →
  ∃ r,Qy (p++s,m,(p.length:Int))=some r∧(m * prodI s > 65536→∃ v,r=.inl v)∧(¬ m * prodI s > 65536→r=.inr (m * prodI s))
 | [],p,m,hs,hd,h1,h2=>by
  rw [Qy]; simp only [Zc,if_false,prodI_nil,Int.mul_one]
  exact ⟨_,rfl,fun h=>(by omega),fun _=>rfl⟩
 | x::s,p,m,hs,hd,h1,h2=>by
  rw [Qy]
  have hx:=hd x (List.mem_cons_self ..)
  have hds:∀ d∈s,1≤d∧d≤65536:=fun d h=>hd d (List.mem_cons_of_mem _ h)
  have b2:=Int.mul_le_mul h1 hx.1 (by omega) (by omega)
  simp only [Zg,if_true,Qz,Qe,mid_W hs,XN,Mul_ok ⟨h1,h2⟩ hx,prodI_cons]
  rw [← Int.mul_assoc]
  by_cases hn:m * x > 65536
  ·have hp:=prodI_pos (l:=s) (fun d h=>(hds d h).1)
   have:m * x * 1≤m * x * prodI s:=Int.mul_le_mul_of_nonneg_left hp (by omega)
   simp only [hn,if_true,Qe]
   exact ⟨_,rfl,fun _=>⟨_,rfl⟩,fun h=>absurd h (by omega)⟩
  ·obtain ⟨r,e1,e2,e3⟩:=foldP_L1 s (p++[x]) (m * x) (by rw [← Qv]; exact hs) hds (by omega) (by omega)
   rw [← Qv] at e1
   simp only [hn,if_false,Qe,Bool.true_eq_false]
   exact ⟨r,e1,e2,e3⟩
theorem sProduct_ok (l:List Int) (hs:Sm l.length):YW l=some (prodR l):=by
 simp only [YW,sizecheck_ok l hs,Qe,ZR,prodR,errR]
 by_cases hn:negB l=true
 ·simp [hn,Qe]
 ·have hn':negB l=false:=(Bool.not_eq_true _).mp hn
  by_cases hb:bigB l=true
  ·simp [hn,hb,Qe]
  ·have hb':bigB l=false:=(Bool.not_eq_true _).mp hb
   simp only [hn',hb',Bool.false_eq_true,if_false,if_true,Contains_ok l 0 hs,Qe]
   by_cases hz:l.any ((0:Int) == ·)=true
   ·have h0:(0:Int)∈l:=by
     obtain ⟨x,hx,he⟩:=List.any_eq_true.1 hz
     have:(0:Int)=x:=by simpa using he
     rw [this]; exact hx
    have:=prodI_zero h0
    simp [hz,this,Qe]
   ·have hall:∀ d∈l,1≤d∧d≤65536:=fun d hd=>by
     have h1:=neg_all hn' d hd
     have h2:=big_all hb' d hd
     have h3:d≠0:=fun e=>hz (List.any_eq_true.2 ⟨d,hd,by simp [e]⟩)
     omega
    obtain ⟨r,e1,e2,e3⟩:=foldP_L1 l [] 1 hs hall (by omega) (by omega)
    have e4:Qy (l,1,0)=some r:=e1
    rw [Int.one_mul] at e2 e3
    simp only [hz,if_false,Qe,ZS,e4,ne_eq,not_true]
    by_cases hp:prodI l > 65536
    ·obtain ⟨v,rfl⟩:=e2 hp; simp [hp,Qe]
    ·rw [e3 hp]; simp [hp,Qe]
theorem shapeCheck_ok (l:List Int) (hs:Sm l.length):Xk l=some (checkR l):=by
 simp only [Xk,sProduct_ok l hs,Qe,prodR,checkR]
 by_cases hn:negB l=true
 ·simp [hn,Qe]
 ·by_cases hl:l.length > 16
  ·have h16:(l.length:Int) > 16:=by omega
   by_cases hb:bigB l=true
   ·simp [hn,hb,hl,h16,Qe]
   ·by_cases hp:prodI l > 65536 <;> simp [hn,hb,hp,hl,h16,Qe]
  ·have h16:¬ (l.length:Int) > 16:=by omega
   by_cases hb:bigB l=true
   ·simp [hn,hb,hl,h16,Qe]
   ·by_cases hp:prodI l > 65536 <;> simp [hn,hb,hp,hl,h16,Qe]
theorem Cells_ok (l:List Int) (hs:Sm l.length):YN l=some (cellsR l):=by
 simp only [YN,Check_ok l hs,Qe,Product_ok l hs,cellsR]
 by_cases hc:checkR l=0
 ·have:(prodR l).1=prodI l:=by
   unfold checkR at hc
   unfold prodR
   by_cases hn:negB l=true
   ·simp [hn] at hc
   ·by_cases hb:bigB l=true
    ·simp [hn,hb] at hc
    ·by_cases hp:prodI l > 65536
     ·simp [hn,hb,hp] at hc
     ·simp [hn,hb,hp]
  simp [hc,this]
 ·simp [hc]
def vld:List Int→List Int→Bool
 | [],[]=>true
 | n::s,x::i=>(decide (0≤x) && decide (x < n)) && vld s i
 | _,_=>false
theorem vld_len:∀ {s i:List Int},vld s i=true→s.length=i.length
 | [],[],_=>rfl
 | n::s,x::i,h=>by
  simp only [vld,Bool.and_eq_true] at h
  simp [vld_len h.2]
 | [],_::_,h=>by cases h
 | _::_,[],h=>by cases h
theorem vld_get:∀ {s i:List Int},vld s i=true→∀ k,k < s.length→0≤i.getD k 0∧i.getD k 0 < s.getD k 0
 | [],_,_,k,hk=>by cases hk
 | n::s,x::i,h,k,hk=>by
  simp only [vld,Bool.and_eq_true,decide_eq_true_eq] at h
  cases k with
  | zero=>simpa using h.1
  | succ k=>simpa using vld_get h.2 k (by simpa using hk)
 | _::_,[],h,_,_=>by cases h
theorem vld_of:∀ {s i:List Int},s.length=i.length→(∀ k,k < s.length→0≤i.getD k 0∧i.getD k 0 < s.getD k 0)→vld s i=true
 | [],[],_,_=>rfl
 | n::s,x::i,h,hg=>by
  simp only [vld,Bool.and_eq_true,decide_eq_true_eq]
  exact ⟨by simpa using hg 0 (by simp),vld_of (by simpa using h) fun k hk=>by simpa using hg (k+1) (by simpa using hk)⟩
 | [],_::_,h,_=>by cases h
 | _::_,[],h,_=>by cases h
theorem setM_ok {l:List Int} {j:Nat} {v:Int} (h:j < l.length):setM l (j:Int) v=some (l.set j v):=by simp [setM,h]
theorem guardM_ok {p:Prop} [Decidable p] (h:p):ZE p=some ():=if_pos h
theorem mid_set {α:Type} {p s:List α} {x y:α}:(p++x::s).set p.length y=(p++[y])++s:=by simp
def zipP (l s:List Int) (j r:Int):Prop:=∀ a∈l.zip s,a.1=j→r≤a.2
theorem tr_L1 (v1 p0:Qb):∀ (s t p q:List Int),v1.shape=p++s→p0.perm=q++t→s.length=t.length→p.length=q.length→Sm (p++s).length →
  ∃ o,QV (v1,p0,(p.length:Int))=some o∧(o=.inr ()→∀ x∈t,0≤x∧x < (p0.shape.length:Int))
 | [],[],p,q,e1,e2,_,h2,hs=>by
  rw [QV]; simp only [e1,Zc,if_false]
  exact ⟨_,rfl,fun _ x h=>by cases h⟩
 | n::s,x::t,p,q,e1,e2,h1,h2,hs=>by
  rw [QV]
  obtain ⟨o,e,ho⟩:=tr_L1 v1 p0 s t (p++[n]) (q++[x]) (by rw [e1]; simp) (by rw [e2]; simp) (by simpa using h1) (by simp [h2]) (by rw [← Qv]; exact hs)
  have hi:idx (q++x::t) (p.length:Int)=some x:=by rw [h2]; exact Qz
  simp only [e1,e2,Zg,if_true,hi,Qe,mid_W hs,e]
  by_cases ha:x < 0
  ·simp only [ha,if_true,Qe]; exact ⟨_,rfl,fun h=>by cases h⟩
  ·by_cases hb:x≥(p0.shape.length:Int)
   ·simp only [ha,hb,if_false,decide_true,Qe,if_true]; exact ⟨_,rfl,fun h=>by cases h⟩
   ·simp only [ha,hb,if_false,decide_false,Qe,Bool.false_eq_true]
    refine ⟨o,rfl,fun h y hy=>?_⟩
    rcases List.mem_cons.1 hy with rfl|hy
    ·omega
    ·exact ho h y hy
 | [],_::_,_,_,_,_,h,_,_=>by cases h
 | _::_,[],_,_,_,_,h,_,_=>by cases h
theorem tr_L3 (v1 p0:Qb) (j:Int):∀ (s t p q:List Int) (v:Int),v1.shape=p++s→p0.perm=q++t→s.length=t.length→p.length=q.length→Sm (p++s).length →
  ∃ r,QK (v1,p0,j,v,(p.length:Int))=some r∧((∀ n∈s,0≤n)→(0≤v→r≤v)∧zipP t s j r)
 | [],[],p,q,v,e1,e2,_,h2,hs=>by
  rw [QK]; simp only [e1,Zc,if_false]
  exact ⟨_,rfl,fun _=>⟨fun _=>Int.le_refl _,fun a ha=>by cases ha⟩⟩
 | n::s,x::t,p,q,v,e1,e2,h1,h2,hs=>by
  rw [QK]
  have ih:=fun v=>tr_L3 v1 p0 j s t (p++[n]) (q++[x]) v (by rw [e1]; simp) (by rw [e2]; simp) (by simpa using h1) (by simp [h2]) (by rw [← Qv]; exact hs)
  have hi:idx (q++x::t) (p.length:Int)=some x:=by rw [h2]; exact Qz
  simp only [e1,e2,Zg,if_true,hi,Qe,Qz,mid_W hs]
  have new:∃ r,QK (v1,p0,j,n,((p++[n]).length:Int))=some r∧((∀ m∈n::s,0≤m)→r≤n∧zipP (x::t) (n::s) j r):=by
   obtain ⟨r,e,hr⟩:=ih n
   refine ⟨r,e,fun h=>?_⟩
   obtain ⟨g1,g2⟩:=hr (fun m hm=>h m (List.mem_cons_of_mem _ hm))
   have g3:=g1 (h n (List.mem_cons_self ..))
   exact ⟨g3,fun a ha=>by
    rcases List.mem_cons.1 ha with rfl|ha
    ·exact fun _=>g3
    ·exact g2 a ha⟩
  by_cases hx:x=j
  ·simp only [hx,if_true]
   by_cases hv:v < 0
   ·simp only [hv,if_true,Qe]
    obtain ⟨r,e,hr⟩:=new
    exact ⟨r,e,fun h=>⟨fun h'=>by omega,by have:=(hr h).2; rwa [hx] at this⟩⟩
   ·by_cases hn:n < v
    ·simp only [hv,hn,if_false,Qe,decide_true,if_true]
     obtain ⟨r,e,hr⟩:=new
     exact ⟨r,e,fun h=>⟨fun h'=>by have:=(hr h).1; omega,by have:=(hr h).2; rwa [hx] at this⟩⟩
    ·simp only [hv,hn,if_false,Qe,decide_false,Bool.false_eq_true]
     obtain ⟨r,e,hr⟩:=ih v
     refine ⟨r,e,fun h=>?_⟩
     obtain ⟨g1,g2⟩:=hr (fun m hm=>h m (List.mem_cons_of_mem _ hm))
     have g3:=g1 (by omega)
     exact ⟨fun _=>g3,fun a ha=>by
      rcases List.mem_cons.1 ha with rfl|ha
      ·exact fun _=>by show r≤n; omega
      ·exact g2 a ha⟩
  ·simp only [hx,if_false,Qe,Bool.false_eq_true]
   obtain ⟨r,e,hr⟩:=ih v
   refine ⟨r,e,fun h=>?_⟩
   obtain ⟨g1,g2⟩:=hr (fun m hm=>h m (List.mem_cons_of_mem _ hm))
   exact ⟨g1,fun a ha=>by
    rcases List.mem_cons.1 ha with rfl|ha
    ·exact fun h'=>absurd h' hx
    ·exact g2 a ha⟩
 | [],_::_,_,_,_,_,_,h,_,_=>by cases h
 | _::_,[],_,_,_,_,_,h,_,_=>by cases h
theorem tr_L2 (v1 p0:Qb) (hl:v1.shape.length=p0.perm.length) (hv:Sm v1.shape.length):∀ (s p:List Int),p0.shape=p++s→Sm (p++s).length →
  ∃ o,QX (p0,v1,(p.length:Int))=some o∧(o=.inr ()→(∀ n∈v1.shape,0≤n)→∀ k,k < s.length→zipP p0.perm v1.shape ((p.length+k:Nat):Int) (s.getD k 0))
 | [],p,e1,hs=>by
  rw [QX]; simp only [e1,Zc,if_false]
  exact ⟨_,rfl,fun _ _ k hk=>by cases hk⟩
 | n::s,p,e1,hs=>by
  rw [QX]
  obtain ⟨r,er,hr⟩:=tr_L3 v1 p0 (p.length:Int) v1.shape p0.perm [] [] (-1) rfl rfl hl rfl hv
  obtain ⟨o,e,ho⟩:=tr_L2 v1 p0 hl hv s (p++[n]) (by rw [e1]; simp) (by rw [← Qv]; exact hs)
  have er':QK (v1,p0,(p.length:Int),-1,0)=some r:=er
  simp only [e1,Zg,if_true,er',Qe,Qz,mid_W hs,e]
  by_cases hn:r=n
  ·rw [if_neg (fun h=>h hn)]
   refine ⟨o,rfl,fun h h0 k hk=>?_⟩
   cases k with
   | zero=>rw [← hn]; exact (hr h0).2
   | succ k =>
    have:=ho h h0 k (by simpa using hk)
    simp only [List.length_append,List.length_cons,List.length_nil] at this
    rw [show p.length+(k+1)=p.length+(0+1)+k by omega]
    exact this
  ·rw [if_pos hn]; exact ⟨_,rfl,fun h=>by cases h⟩
theorem zip_get:∀ {l s:List Int} {k:Nat},k < l.length→l.length=s.length→(l.getD k 0,s.getD k 0)∈l.zip s
 | x::l,n::s,0,_,_=>by simp
 | x::l,n::s,k+1,h,h2=>by
  simp only [List.getD_cons_succ,List.zip_cons_cons]
  exact List.mem_cons_of_mem _ (zip_get (by simpa using h) (by simpa using h2))
 | [],_,_,h,_=>by cases h
 | _::_,[],_,_,h=>by cases h
theorem tr_ok (p0 v1:Qb) (hk:idx p0.kids 0=some v1) (h1:Sm v1.shape.length) (h2:Sm p0.shape.length):∃ b,YA p0=some b∧(b=true→p0.perm.length=v1.shape.length ∧
  ((∀ n∈v1.shape,0≤n)→∀ k,k < v1.shape.length→0≤p0.perm.getD k 0∧p0.perm.getD k 0 < (p0.shape.length:Int)∧p0.shape.getD (p0.perm.getD k 0).toNat 0≤v1.shape.getD k 0)):=by
 simp only [YA,hk,Qe]
 by_cases hl:p0.perm.length=v1.shape.length
 ·rw [if_neg (by omega)]
  obtain ⟨o,e,ho⟩:=tr_L1 v1 p0 v1.shape p0.perm [] [] rfl rfl hl.symm rfl h1
  obtain ⟨o2,e2,ho2⟩:=tr_L2 v1 p0 hl.symm h1 p0.shape [] rfl h2
  have e':QV (v1,p0,0)=some o:=e
  have e2':QX (p0,v1,0)=some o2:=e2
  rw [e',Qe]
  cases o with
  | inl _=>exact ⟨_,rfl,fun h=>by cases h⟩
  | inr _ =>
   simp only [e2',Qe]
   cases o2 with
   | inl _=>exact ⟨_,rfl,fun h=>by cases h⟩
   | inr _ =>
    refine ⟨_,rfl,fun _=>⟨hl,fun h0 k hk=>?_⟩⟩
    have hm:p0.perm.getD k 0∈p0.perm:=by
     rw [List.getD_eq_getElem?_getD,List.getElem?_eq_getElem (by omega)]
     exact List.getElem_mem _
    have g:=ho rfl _ hm
    refine ⟨g.1,g.2,?_⟩
    have z:=ho2 rfl h0 (p0.perm.getD k 0).toNat (by omega)
    exact z _ (zip_get (by omega) hl) (by simp only [List.length_nil,Nat.zero_add]; omega)
 ·rw [if_pos (by omega)]; exact ⟨_,rfl,fun h=>by cases h⟩
def pick (l p:List Int):List Int:=p.map fun j=>l.getD j.toNat 0
theorem idx_getD {l:List Int} {j:Int} (h:0≤j) (h2:j < (l.length:Int)):idx l j=some (l.getD j.toNat 0):=by
 have:j.toNat < l.length:=by omega
 simp [idx,h,this]
def strd:List Int→List Int
 | []=>[]
 | _::s=>prodI s::strd s
theorem strd_len:∀ s:List Int,(strd s).length=s.length
 | []=>rfl
 | _::s=>by simp [strd,strd_len s]
theorem vld_pos:∀ {s i:List Int},vld s i=true→∀ n∈s,1≤n
 | n::s,x::i,h,m,hm=>by
  simp only [vld,Bool.and_eq_true,decide_eq_true_eq] at h
  rcases List.mem_cons.1 hm with rfl|hm
  ·omega
  ·exact vld_pos h.2 m hm
 | [],_,_,m,hm=>by cases hm
 | _::_,[],h,_,_=>by cases h
theorem prod_le {a b:List Int} (ha:∀ n∈a,1≤n) (hb:∀ n∈b,1≤n):prodI b≤prodI (a++b):=by
 rw [prodI_append]
 have h1:=prodI_pos ha
 have h2:=prodI_pos hb
 have:=Int.mul_le_mul_of_nonneg_right h1 (show 0≤prodI b by omega)
 omega
theorem str_L1 (s v2:List Int) (hv2:v2.length=s.length) (hs:s.length≤1000) (hpos:∀ n∈s,1≤n) (hP:prodI s≤65536):∀ (m:Nat) (a b:List Int),a.length=m→s=a++b →
  ZI (s,v2,List.replicate a.length 0++strd b,prodI b,(b.length:Int))=some (strd s)
 | 0,a,b,ha,e=>by
  obtain rfl:=List.eq_nil_of_length_eq_zero ha
  rw [ZI]
  have:¬ ((b.length:Int) < (s.length:Int)):=by rw [e]; simp
  simp only [this,if_false]; rw [e]; rfl
 | m+1,a,b,ha,e=>by
  rcases List.eq_nil_or_concat a with rfl|⟨a',n,rfl⟩
  ·simp at ha
  ·simp only [List.concat_eq_append] at ha e ⊢
   have ha':a'.length=m:=by simpa using ha
   rw [ZI]
   have hl:s.length=a'.length+1+b.length:=by rw [e]; simp; omega
   have ht:((b.length:Int) < (s.length:Int)):=by omega
   have w:W (W ((s.length:Int) - 1) - (b.length:Int))=(a'.length:Int):=by
    rw [show W ((s.length:Int) - 1)=(s.length:Int) - 1 from W_ok (by omega) (by omega),W_ok (by omega) (by omega)]; omega
   have e':s=a'++(n::b):=by rw [e]; simp
   have hg:(List.replicate (a'++[n]).length (0:Int)++strd b).length=v2.length:=by simp [strd_len,hv2,hl]
   have er:List.replicate (a'++[n]).length (0:Int)++strd b=List.replicate a'.length 0++0::strd b:=by
    rw [List.length_append,List.length_singleton,List.replicate_succ',List.append_assoc]; rfl
   have hj:a'.length < (List.replicate (a'++[n]).length (0:Int)++strd b).length:=by simp; omega
   have hset:(List.replicate (a'++[n]).length (0:Int)++strd b).set a'.length (prodI b)=List.replicate a'.length 0++strd (n::b):=by
    rw [er]
    have:=mid_set (p:=List.replicate a'.length (0:Int)) (s:=strd b) (x:=0) (y:=prodI b)
    simp only [List.length_replicate] at this
    rw [this,← Qv]; rfl
   have hidx:idx s (a'.length:Int)=some n:=by rw [e']; exact Qz
   have hposb:∀ k∈n::b,1≤k:=fun k hk=>hpos k (by rw [e']; exact List.mem_append_right _ hk)
   have hposa:∀ k∈a',1≤k:=fun k hk=>hpos k (by rw [e']; exact List.mem_append_left _ hk)
   have hle:prodI (n::b)≤65536:=by
    have:=prod_le hposa hposb
    rw [← e'] at this; omega
   have hge:=prodI_pos hposb
   have w2:W (prodI b * n)=prodI (n::b):=by rw [prodI_cons,Int.mul_comm,W_ok (by rw [← prodI_cons]; omega) (by rw [← prodI_cons]; omega)]
   have w3:W ((b.length:Int)+1)=((n::b).length:Int):=by rw [W_ok (by omega) (by omega)]; simp
   have ih:=str_L1 s v2 hv2 hs hpos hP m a' (n::b) ha' e'
   simp only [ht,if_true,w,guardM_ok hg,Qe,idx_ok hj,setM_ok hj,hset,hidx,w2,w3]
   exact ih
theorem checkR_ok {s:List Int} (h:checkR s=0):s.length≤16∧prodI s≤65536∧∀ n∈s,0≤n∧n≤65536:=by
 unfold checkR at h
 by_cases hn:negB s=true
 ·rw [if_pos hn] at h; cases h
 ·rw [if_neg hn] at h
  by_cases h2:s.length > 16∨bigB s=true∨prodI s > 65536
  ·rw [if_pos h2] at h; cases h
  ·have hn':negB s=false:=by simpa using hn
   have hb:bigB s=false:=by
    cases hb:bigB s with
    | false=>rfl
    | true=>exact absurd (Or.inr (Or.inl hb)) h2
   refine ⟨by omega,by omega,fun n hm=>⟨neg_all hn' n hm,big_all hb n hm⟩⟩
theorem gCells_ok (s:List Int) (hs:Sm s.length):X5 s=some (cellsR s):=by
 simp only [X5,shapeCheck_ok s hs,Qe,cellsR,sProduct_ok s hs]
 by_cases h:checkR s=0
 ·obtain ⟨h1,h2,h3⟩:=checkR_ok h
  have hn:negB s=false:=by
   cases hn:negB s with
   | false=>rfl
   | true=>unfold checkR at h; rw [if_pos hn] at h; cases h
  have hb:bigB s=false:=by
   cases hb:bigB s with
   | false=>rfl
   | true=>unfold checkR at h; rw [if_neg (by simp [hn]),if_pos (Or.inr (Or.inl hb))] at h; cases h
  simp [h,prodR,hn,hb,show ¬ prodI s > 65536 by omega]
 ·simp [h]
theorem strides_ok {s:List Int} (hc:checkR s=0) (hpos:∀ n∈s,1≤n):Yo s=some (strd s):=by
 obtain ⟨h1,h2,h3⟩:=checkR_ok hc
 have hp:=prodI_pos hpos
 have hm:makeM 8 (s.length:Int) (0:Int)=some (List.replicate s.length 0):=by
  have:((s.length:Int) * 8≤(room:Int)):=by
   have:(1000:Nat) * 8≤room:=by decide +kernel
   omega
  simp [makeM,this]; omega
 have e:=str_L1 s (List.replicate s.length 0) (by simp) (by omega) hpos h2 s.length s [] rfl (by simp)
 simp only [strd,List.append_nil,prodI_nil,List.length_nil,Int.natCast_zero] at e
 simp only [Yo,shapeCheck_ok s (Sm_of (show s.length≤1000 by omega)),Qe,hc,hm,gCells_ok s (Sm_of (show s.length≤1000 by omega)),cellsR,if_true,ne_eq,not_true,if_false,show ¬ prodI s=0 by omega,e]
 rw [guardM_ok (by simp [strd_len])]; rfl
theorem mm {o P n:Int}:(o % (P * n)) % n=o % n:=Int.emod_emod_of_dvd o (Int.dvd_mul_left P n)
mutual
def szC:Qb→Nat
 | ⟨_,_,_,_,_,_,_,kids⟩=>1+szCs kids
def szCs:List Qb→Nat
 | []=>0
 | k::ks=>szC k+szCs ks
end
mutual
def smC:Qb→Prop
 | ⟨_,shape,_,starts,_,_,perm,kids⟩=>shape.length≤40∧starts.length≤40∧perm.length≤40∧kids.length≤600∧smCs kids
def smCs:List Qb→Prop
 | []=>True
 | k::ks=>smC k∧smCs ks
end
theorem szC_pos:∀ c:Qb,1≤szC c
 | ⟨_,_,_,_,_,_,_,kids⟩=>by rw [szC]; omega
theorem szCs_len:∀ l:List Qb,l.length≤szCs l
 | []=>Nat.zero_le _
 | k::ks=>by have:=szCs_len ks; have:=szC_pos k; rw [szCs]; simp only [List.length_cons]; omega
mutual
theorem left_ok:∀ (c:Qb) (n:Int),0≤n→n≤600→∃ r,Xa (c,n)=some r∧-1≤r∧r≤n - 1∧(0≤r→r+szC c≤n∧smC c)
 | ⟨k,sh,b,st,ax,am,pe,ks⟩,n,h1,h2=>by
  rw [Xa]
  simp only []
  have w:W (n - 1)=n - 1:=W_ok (by omega) (by omega)
  obtain ⟨r,e,i1,i2,i3⟩:=left_loop ks [] (n - 1) k sh b st ax am pe (by omega) (by simp; omega)
  simp only [List.nil_append,List.length_nil,Int.natCast_zero] at e
  by_cases c1:(sh.length:Int) > 40
  ·exact ⟨-1,by simp only [c1,if_true,if_false,Qe,decide_true,decide_false,Bool.false_eq_true],by omega,by omega,by omega⟩
  ·by_cases c2:(st.length:Int) > 40
   ·exact ⟨-1,by simp only [c1,c2,if_true,if_false,Qe,decide_true,decide_false,Bool.false_eq_true],by omega,by omega,by omega⟩
   ·by_cases c3:(pe.length:Int) > 40
    ·exact ⟨-1,by simp only [c1,c2,c3,if_true,if_false,Qe,decide_true,decide_false,Bool.false_eq_true],by omega,by omega,by omega⟩
    ·refine ⟨r,by simp only [c1,c2,c3,w,e,if_true,if_false,Qe,decide_true,decide_false,Bool.false_eq_true],i1,i2,fun h=>?_⟩
     have:=i3 h
     have hl:=szCs_len ks
     rw [szC,smC]
     exact ⟨by omega,by omega,by omega,by omega,by omega,this.2⟩
theorem left_loop:∀ (s p:List Qb) (n:Int) (k:Int) (sh:List Int) (b:Int) (st:List Int) (ax am:Int) (pe:List Int),-1≤n→(p.length:Int)+n≤600 →
  ∃ r,ZL (⟨k,sh,b,st,ax,am,pe,p++s⟩,n,(p.length:Int))=some r∧-1≤r∧r≤n∧(0≤r→r+szCs s≤n∧smCs s)
 | [],p,n,k,sh,b,st,ax,am,pe,h1,h2=>by
  rw [ZL]
  simp only [Zc,if_false,Qe,Bool.false_eq_true]
  exact ⟨n,rfl,h1,by omega,fun h=>⟨by rw [szCs]; omega,trivial⟩⟩
 | x::s,p,n,k,sh,b,st,ax,am,pe,h1,h2=>by
  rw [ZL]
  simp only [Zg,if_true,Qe]
  by_cases hn:n≥0
  ·rw [decide_eq_true hn]
   obtain ⟨r,e,i1,i2,i3⟩:=left_ok x n hn (by omega)
   obtain ⟨r',e',j1,j2,j3⟩:=left_loop s (p++[x]) r k sh b st ax am pe i1 (by simp; omega)
   rw [← Qv] at e'
   have w:W ((p.length:Int)+1)=((p++[x]).length:Int):=by rw [W_ok (by omega) (by omega)]; simp
   simp only [if_true,Qz,Qe,e,w,e']
   refine ⟨r',rfl,j1,by omega,fun h=>?_⟩
   have a:=j3 h
   have b:=i3 (by omega)
   rw [szCs,smCs]
   exact ⟨by omega,b.2,a.2⟩
  ·rw [decide_eq_false hn]
   simp only [Bool.false_eq_true,if_false]
   exact ⟨n,rfl,h1,by omega,fun h=>by omega⟩
end
theorem Few_ok (c:Qb) (n:Int) (h1:0≤n) (h2:n≤600):∃ b,JQ (c,n)=some b∧(b=true→smC c∧(szC c:Int)≤n):=by
 obtain ⟨r,e,_,_,h⟩:=left_ok c n h1 h2
 refine ⟨decide (r≥0),by simp only [JQ,e,Qe],fun hb=>?_⟩
 have h0:0≤r:=by simpa using hb
 have:=h h0
 exact ⟨this.2,by omega⟩
mutual
def conv:Qb→Qf
 | ⟨k,sh,b,st,ax,am,pe,ks⟩=>⟨k,sh,b,st,ax,am,pe,convs ks⟩
def convs:List Qb→List Qf
 | []=>[]
 | k::ks=>conv k::convs ks
end
mutual
theorem Core_ok:∀ (c:Qb),smC c→Y8 c=some (conv c)
 | ⟨k,sh,b,st,ax,am,pe,ks⟩,h=>by
  rw [smC] at h
  rw [Y8]
  have e:=Core_loop ks [] [] k sh b st ax am pe h.2.2.2.2 rfl (by simp; omega)
  simp only [List.nil_append,List.length_nil,Int.natCast_zero] at e
  simp only [e,Qe,conv]
theorem Core_loop:∀ (s p:List Qb) (q:List Qf) (k:Int) (sh:List Int) (b:Int) (st:List Int) (ax am:Int) (pe:List Int),smCs s→q.length=p.length→p.length+s.length≤600 →
  ZK (⟨k,sh,b,st,ax,am,pe,p++s⟩,q,(p.length:Int))=some (q++convs s)
 | [],p,q,k,sh,b,st,ax,am,pe,h1,h2,h3=>by
  rw [ZK]
  simp only [Zc,if_false,convs]
  rw [List.append_nil]
 | x::s,p,q,k,sh,b,st,ax,am,pe,h1,h2,h3=>by
  rw [ZK]
  rw [smCs] at h1
  have e:=Core_ok x h1.1
  simp only [List.length_cons] at h3
  have e':=Core_loop s (p++[x]) (q++[conv x]) k sh b st ax am pe h1.2 (by simp [h2]) (by simp; omega)
  rw [← Qv] at e'
  have w:W ((p.length:Int)+1)=((p++[x]).length:Int):=by rw [W_ok (by omega) (by omega)]; simp
  have ha:app 128 q [conv x]=some (q++[conv x]):=app_ok (by
   have:602 * 128≤room:=by decide +kernel
   simp only [List.length_cons,List.length_nil]
   omega)
  simp only [Zg,if_true,Qz,Qe,e,ha,w,e',convs,List.append_assoc,List.singleton_append]
end
theorem Equal_ok' (a b:List Int) (hs:Sm b.length):Yc (a,b)=some (decide (a=b)):=by
 by_cases h:a.length=b.length
 ·exact Equal_ok a b (by rw [h]; exact hs)
 ·have e2:((a.length:Int)≠(b.length:Int)):=by omega
  have e3:a≠b:=fun e=>h (by rw [e])
  simp only [Yc]
  rw [if_pos e2,decide_eq_false e3]
theorem idx_zero {α:Type} {l:List α} {k:α} {r:List α} (h:l=k::r):idx l 0=some k:=by subst h; rfl
theorem idx_one {α:Type} {l:List α} {k k2:α} {r:List α} (h:l=k::k2::r):idx l 1=some k2:=by subst h; rfl
theorem alike_ok (p0 k:Qb) (r:List Qb) (hk:p0.kids=k::r) (hs:Sm p0.shape.length):∃ b,Xj p0=some b∧(b=true→k.shape=p0.shape∧0≤p0.axis∧p0.axis < (p0.shape.length:Int)):=by
 simp only [Xj,idx_zero hk,Qe,Equal_ok' _ _ hs]
 by_cases h1:k.shape=p0.shape
 ·by_cases h2:p0.axis≥0
  ·by_cases h3:p0.axis < (p0.shape.length:Int)
   ·exact ⟨true,by simp [h1,h2,h3],fun _=>⟨h1,h2,h3⟩⟩
   ·exact ⟨false,by simp [h1,h2,h3],fun h=>by cases h⟩
  ·exact ⟨false,by simp [h1,h2],fun h=>by cases h⟩
 ·exact ⟨false,by simp [h1],fun h=>by cases h⟩
def catA (ax:Int) (s a b:List Int) (k:Nat):Prop:=((k:Int)=ax→s.getD k 0=W (a.getD k 0+b.getD k 0))∧((k:Int)≠ax→a.getD k 0=b.getD k 0∧a.getD k 0=s.getD k 0)
theorem get_mid {p s:List Int} {x:Int}:(p++x::s).getD p.length 0=x:=by simp
theorem join_L1 (v1 p0 v2:Qb):∀ (a b s p q u:List Int),v1.shape=p++a→v2.shape=q++b→p0.shape=u++s→a.length=b.length→a.length=s.length→p.length=q.length→p.length=u.length→Sm (p++a).length →
  ∃ o,ZD (v1,p0,v2,(p.length:Int))=some o∧(o=.inr ()→∀ k,p.length≤k→k < v1.shape.length→catA p0.axis p0.shape v1.shape v2.shape k)
 | [],b,s,p,q,u,e1,e2,e3,_,_,_,_,hs=>by
  rw [ZD]; simp only [e1,Zc,if_false]
  exact ⟨_,rfl,fun _ k h1 h2=>by simp at h2; omega⟩
 | x::a,y::b,z::s,p,q,u,e1,e2,e3,h1,h2,h3,h4,hs=>by
  rw [ZD]
  obtain ⟨o,e,ho⟩:=join_L1 v1 p0 v2 a b s (p++[x]) (q++[y]) (u++[z]) (by rw [e1]; simp) (by rw [e2]; simp) (by rw [e3]; simp) (by simpa using h1) (by simpa using h2) (by simp [h3]) (by simp [h4]) (by rw [← Qv]; exact hs)
  have i1:idx v1.shape (p.length:Int)=some x:=by rw [e1]; exact Qz
  have i2:idx v2.shape (p.length:Int)=some y:=by rw [e2,h3]; exact Qz
  have i3:idx p0.shape (p.length:Int)=some z:=by rw [e3,h4]; exact Qz
  have g1:v1.shape.getD p.length 0=x:=by rw [e1]; exact get_mid
  have g2:v2.shape.getD p.length 0=y:=by rw [e2,h3]; exact get_mid
  have g3:p0.shape.getD p.length 0=z:=by rw [e3,h4]; exact get_mid
  have ht:((p.length:Int) < (v1.shape.length:Int)):=by rw [e1]; exact Zg
  have w:W ((p.length:Int)+1)=((p++[x]).length:Int):=mid_W hs
  have fin:∀ c:catA p0.axis p0.shape v1.shape v2.shape p.length,o=.inr ()→∀ k,p.length≤k→k < v1.shape.length→catA p0.axis p0.shape v1.shape v2.shape k:=fun c h k hk hk2=>by
   by_cases hkp:k=p.length
   ·rw [hkp]; exact c
   ·exact ho h k (by simp; omega) hk2
  simp only [ht,if_true,i1,i2,i3,Qe,w,e]
  by_cases ha:(p.length:Int)=p0.axis
  ·simp only [ha,if_true,Qe,ne_eq,not_true,if_false]
   by_cases hz:z=W (x+y)
   ·refine ⟨o,by simp [hz],fin ⟨fun _=>by rw [g1,g2,g3]; exact hz,fun h=>absurd ha h⟩⟩
   ·exact ⟨.inl (),by simp [hz],fun h=>by cases h⟩
  ·simp only [ha,if_false,Qe,ne_eq,not_false_eq_true,if_true,Bool.false_eq_true]
   by_cases hx:x=y
   ·by_cases hz:x=z
    ·refine ⟨o,by simp [← hx,← hz],fin ⟨fun h=>absurd h ha,fun _=>by rw [g1,g2,g3]; exact ⟨hx,hz⟩⟩⟩
    ·exact ⟨.inl (),by simp [← hx,hz],fun h=>by cases h⟩
   ·exact ⟨.inl (),by simp [hx],fun h=>by cases h⟩
 | _::_,[],_,_,_,_,_,_,_,h,_,_,_,_=>by cases h
 | _::_,_::_,[],_,_,_,_,_,_,_,h,_,_,_=>by cases h
theorem joined_ok (p0 v1 v2:Qb) (r:List Qb) (hk:p0.kids=v1::v2::r) (hs:Sm v1.shape.length):∃ b,Xz p0=some b∧(b=true→v1.shape.length=v2.shape.length∧v1.shape.length=p0.shape.length ∧
  0≤p0.axis∧p0.axis < (v1.shape.length:Int)∧∀ k,k < v1.shape.length→catA p0.axis p0.shape v1.shape v2.shape k):=by
 simp only [Xz,idx_zero hk,idx_one hk,Qe]
 by_cases h1:v1.shape.length=v2.shape.length
 ·by_cases h2:v1.shape.length=p0.shape.length
  ·by_cases h3:p0.axis < 0
   ·exact ⟨false,by simp [h1,h2,← h2,h3],fun h=>by cases h⟩
   ·by_cases h4:p0.axis≥(v1.shape.length:Int)
    ·refine ⟨false,?_,fun h=>by cases h⟩
     have c1:(v1.shape.length:Int)=(v2.shape.length:Int):=by omega
     have c2:((v1.shape.length:Int) != (p0.shape.length:Int))=false:=by simp [h2]
     simp only [ne_eq,c1,not_true,if_false,Qe,Bool.false_eq_true,decide_eq_false h3]
     rw [← c1]
     simp only [c2,Qe,Bool.false_eq_true,if_false,decide_eq_true h4,if_true]
    ·obtain ⟨o,e,ho⟩:=join_L1 v1 p0 v2 v1.shape v2.shape p0.shape [] [] [] rfl rfl rfl h1 h2 rfl rfl hs
     have e':ZD (v1,p0,v2,0)=some o:=e
     have c1:¬ ((v1.shape.length:Int)≠(v2.shape.length:Int)):=by omega
     have c2:((v1.shape.length:Int) != (p0.shape.length:Int))=false:=by simp [h2]
     have m:∀ f:Unit ⊕ Unit→Option Bool,f o=(if o.isRight then f (.inr ()) else f (.inl ())):=fun f=>by cases o <;> rfl
     simp only [c1,if_false,c2,Qe,Bool.false_eq_true,decide_eq_false h3,decide_eq_false h4,e']
     cases o with
     | inl _=>exact ⟨_,rfl,fun h=>by cases h⟩
     | inr _=>exact ⟨_,rfl,fun _=>⟨h1,h2,by omega,by omega,fun k hk=>ho rfl k (Nat.zero_le _) hk⟩⟩
  ·refine ⟨false,?_,fun h=>by cases h⟩
   have c1:¬ ((v1.shape.length:Int)≠(v2.shape.length:Int)):=by omega
   have c2:((v1.shape.length:Int) != (p0.shape.length:Int))=true:=by simp; omega
   simp only [c1,if_false,Qe,c2,if_true]
 ·refine ⟨false,?_,fun h=>by cases h⟩
  have c1:((v1.shape.length:Int)≠(v2.shape.length:Int)):=by omega
  simp only [if_pos c1,Qe,if_true]
theorem ite_some {α:Type} {p:Prop} [Decidable p] {a b:α}:(if p then some a else some b)=some (if p then a else b):=by split <;> rfl
structure nodeF (c:Qb):Prop where
 kind:1≤c.kind∧c.kind≤7
 kids:(c.kids.length:Int)=if c.kind=7 then 2 else if c.kind=1 then 0 else 1
 chk:checkR c.shape=0
 win:c.kind=2→c.starts.length=c.shape.length∧(∀ x∈c.starts,-65536≤x∧x≤65536)∧∀ k r,c.kids=k::r→k.shape.length=c.shape.length
 rev:c.kind=3∨c.kind=4→∀ k r,c.kids=k::r→k.shape=c.shape∧0≤c.axis∧c.axis < (c.shape.length:Int)
 rot:c.kind=4→0≤c.amount∧(c.amount=0∨c.amount < c.shape.getD c.axis.toNat 0)
 tra:c.kind=5→∀ k r,c.kids=k::r→c.perm.length=k.shape.length ∧
  ((∀ n∈k.shape,0≤n)→∀ j,j < k.shape.length→0≤c.perm.getD j 0∧c.perm.getD j 0 < (c.shape.length:Int)∧c.shape.getD (c.perm.getD j 0).toNat 0≤k.shape.getD j 0)
 cat:c.kind=7→∀ k k2 r,c.kids=k::k2::r→k.shape.length=k2.shape.length∧k.shape.length=c.shape.length∧0≤c.axis∧c.axis < (k.shape.length:Int)∧∀ j,j < k.shape.length→catA c.axis c.shape k.shape k2.shape j
theorem nodeW_L1 (c:Qb):∀ (s p:List Int),c.starts=p++s→Sm (p++s).length→∃ o,Z3 (c,(p.length:Int))=some o∧(o=.inr ()→∀ x∈s,-65536≤x∧x≤65536)
 | [],p,e1,hs=>by
  rw [Z3]; simp only [e1,Zc,if_false]
  exact ⟨_,rfl,fun _ x h=>by cases h⟩
 | x::s,p,e1,hs=>by
  rw [Z3]
  obtain ⟨o,e,ho⟩:=nodeW_L1 c s (p++[x]) (by rw [e1]; simp) (by rw [← Qv]; exact hs)
  simp only [e1,Zg,if_true,Qz,Qe,mid_W hs,e]
  by_cases ha:x < -65536
  ·exact ⟨.inl (),by simp [ha,Qe],fun h=>by cases h⟩
  ·by_cases hb:x > 65536
   ·exact ⟨.inl (),by simp [ha,hb,Qe],fun h=>by cases h⟩
   ·refine ⟨o,by simp [ha,hb,Qe],fun h y hy=>?_⟩
    rcases List.mem_cons.1 hy with rfl|hy
    ·omega
    ·exact ho h y hy
theorem kids_one {c:Qb} (h:(c.kids.length:Int)=1):∃ k,c.kids=[k]:=by
 match hk:c.kids,h with
 | [k],_=>exact ⟨k,rfl⟩
 | [],h=>simp at h
 | _::_::_,h=>simp at h; omega
theorem kids_two {c:Qb} (h:(c.kids.length:Int)=2):∃ k k2,c.kids=[k,k2]:=by
 match hk:c.kids,h with
 | [k,k2],_=>exact ⟨k,k2,rfl⟩
 | [],h=>simp at h
 | [_],h=>simp at h
 | _::_::_::_,h=>simp at h; omega
theorem ex_if {B:Bool} {R:Option Bool} {F:Prop} (h:B=false→∃ b,R=some b∧(b=true→F)):∃ b,(if B=true then some false else R)=some b∧(b=true→F):=by
 cases B with
 | true=>exact ⟨false,rfl,fun h=>by cases h⟩
 | false=>exact h rfl
theorem node_ok (c:Qb) (bs:List (List Int)) (h1:c.shape.length≤40) (h2:c.starts.length≤40) (h4:∀ k∈c.kids,k.shape.length≤40) :
  ∃ b,Xb (c,bs)=some b∧(b=true→nodeF c):=by
 have hS:Sm c.shape.length:=Sm_of (show c.shape.length≤1000 by omega)
 simp only [Xb,ite_some,Qe,Check_ok _ hS]
 refine ex_if fun g3=>?_
 have k1:¬ c.kind < 1:=fun h=>by simp [h] at g3
 have k7:¬ c.kind > 7:=fun h=>by simp [h] at g3
 have kl:(c.kids.length:Int)=if c.kind=7 then 2 else if c.kind=1 then 0 else 1:=Decidable.byContradiction fun h=>by simp [h] at g3
 have kc:checkR c.shape=0:=Decidable.byContradiction fun h=>by simp [h] at g3
 clear g3
 refine ex_if fun g7=>?_
 clear g7
 by_cases c1:c.kind=1
 ·rw [if_pos c1]
  have hn:nodeF c:=⟨by omega,kl,kc,by omega,by omega,by omega,by omega,by omega⟩
  by_cases hb:0≤c.buffer∧c.buffer < (bs.length:Int)
  ·have hb':(if c.buffer≥0 then decide (c.buffer < (bs.length:Int)) else false)=true:=by simp [hb]
   rw [if_pos hb']
   have hi:c.buffer.toNat < bs.length:=by omega
   have:idx bs c.buffer=some bs[c.buffer.toNat]:=by simp [idx,hb.1,hi]
   simp only [this,Qe,Equal_ok' _ _ hS]
   exact ⟨_,rfl,fun _=>hn⟩
  ·have hb':¬ (if c.buffer≥0 then decide (c.buffer < (bs.length:Int)) else false)=true:=by
    by_cases h0:c.buffer≥0
    ·simp only [h0,if_true,decide_eq_true_eq]; omega
    ·simp [h0]
   rw [if_neg hb']
   exact ⟨_,rfl,fun h=>by cases h⟩
 rw [if_neg c1]
 by_cases c2:c.kind=2
 ·rw [if_pos c2]
  obtain ⟨k,hk⟩:=kids_one (c:=c) (by rw [kl,if_neg (by omega),if_neg c1])
  obtain ⟨o,e,ho⟩:=nodeW_L1 c c.starts [] rfl (Sm_of (show ([]++c.starts).length≤1000 by simp; omega))
  have e':Z3 (c,0)=some o:=e
  rw [e',Qe]
  cases o with
  | inl _=>exact ⟨_,rfl,fun h=>by cases h⟩
  | inr _ =>
   simp only [idx_zero hk,Qe]
   by_cases hl:(c.starts.length:Int)=(c.shape.length:Int)
   ·rw [if_pos hl]
    refine ⟨_,rfl,fun h=>⟨by omega,kl,kc,fun _=>⟨by omega,ho rfl,fun k' r hk'=>?_⟩,by omega,by omega,by omega,by omega⟩⟩
    rw [hk] at hk'
    cases hk'
    simp at h; omega
   ·rw [if_neg hl]; exact ⟨_,rfl,fun h=>by cases h⟩
 rw [if_neg c2]
 by_cases c3:c.kind=3
 ·rw [if_pos c3]
  obtain ⟨k,hk⟩:=kids_one (c:=c) (by rw [kl,if_neg (by omega),if_neg c1])
  obtain ⟨b,e,hb⟩:=alike_ok c k [] hk hS
  rw [e,Qe]
  exact ⟨_,rfl,fun h=>⟨by omega,kl,kc,by omega,fun _ k' r hk'=>by rw [hk] at hk'; cases hk'; exact hb h,by omega,by omega,by omega⟩⟩
 rw [if_neg c3]
 by_cases c4:c.kind=4
 ·rw [if_pos c4]
  obtain ⟨k,hk⟩:=kids_one (c:=c) (by rw [kl,if_neg (by omega),if_neg c1])
  obtain ⟨b,e,hb⟩:=alike_ok c k [] hk hS
  rw [e,Qe]
  cases b with
  | false=>exact ⟨false,by simp,fun h=>by cases h⟩
  | true =>
   obtain ⟨a1,a2,a3⟩:=hb rfl
   have hr:c.kind=3∨c.kind=4→∀ k r,c.kids=k::r→k.shape=c.shape∧0≤c.axis∧c.axis < (c.shape.length:Int):=fun _ k' r hk'=>by rw [hk] at hk'; cases hk'; exact ⟨a1,a2,a3⟩
   by_cases hm:c.amount≥0
   ·simp only [if_true,decide_eq_true hm]
    by_cases h0:c.amount=0
    ·rw [if_pos h0]
     exact ⟨_,rfl,fun h=>⟨by omega,kl,kc,by omega,hr,fun _=>⟨hm,Or.inl h0⟩,by omega,by omega⟩⟩
    ·rw [if_neg h0]
     simp only [idx_getD a2 a3,Qe]
     exact ⟨_,rfl,fun h=>⟨by omega,kl,kc,by omega,hr,fun _=>⟨hm,Or.inr (by simpa using h)⟩,by omega,by omega⟩⟩
   ·simp only [if_true,decide_eq_false hm,Bool.false_eq_true,if_false]
    exact ⟨_,rfl,fun h=>by cases h⟩
 rw [if_neg c4]
 by_cases c5:c.kind=5
 ·rw [if_pos c5]
  obtain ⟨k,hk⟩:=kids_one (c:=c) (by rw [kl,if_neg (by omega),if_neg c1])
  have hks:=h4 k (by rw [hk]; simp)
  obtain ⟨b,e,hb⟩:=tr_ok c k (idx_zero hk) (Sm_of (show k.shape.length≤1000 by omega)) hS
  rw [e,Qe]
  exact ⟨_,rfl,fun h=>⟨by omega,kl,kc,by omega,by omega,by omega,fun _ k' r hk'=>by rw [hk] at hk'; cases hk'; exact hb h,by omega⟩⟩
 rw [if_neg c5]
 by_cases c7:c.kind=7
 ·rw [if_pos c7]
  obtain ⟨k,k2,hk⟩:=kids_two (c:=c) (by rw [kl,if_pos c7])
  have hks:=h4 k (by rw [hk]; simp)
  obtain ⟨b,e,hb⟩:=joined_ok c k k2 [] hk (Sm_of (show k.shape.length≤1000 by omega))
  rw [e,Qe]
  exact ⟨_,rfl,fun h=>⟨by omega,kl,kc,by omega,by omega,by omega,by omega,fun _ k' k2' r hk'=>by rw [hk] at hk'; cases hk'; exact hb h⟩⟩
 ·rw [if_neg c7]
  exact ⟨_,rfl,fun _=>⟨by omega,kl,kc,by omega,by omega,by omega,by omega,by omega⟩⟩
theorem smCs_mem:∀ {l:List Qb},smCs l→∀ k∈l,smC k
 | x::l,h,k,hk=>by
  rw [smCs] at h
  rcases List.mem_cons.1 hk with rfl|hk
  ·exact h.1
  ·exact smCs_mem h.2 k hk
 | [],_,_,hk=>by cases hk
theorem smC_f {c:Qb} (h:smC c):c.shape.length≤40∧c.starts.length≤40∧c.perm.length≤40∧c.kids.length≤600∧smCs c.kids:=by
 cases c; rw [smC] at h; exact h
theorem J0 {α:Type} {p s:List α} {x:α} (h:p.length+(x::s).length≤600):W ((p.length:Int)+1)=((p++[x]).length:Int):=by
 simp at h
 rw [W_ok (by omega) (by omega)]; simp
def bufF (bs:List (List Int)) (c:Qb):Prop:=c.kind=1→idx bs c.buffer=some c.shape
theorem node_buf (c:Qb) (bs:List (List Int)) (hS:Sm c.shape.length) (h:Xb (c,bs)=some true):bufF bs c:=by
 intro c1
 simp only [Xb,ite_some,Qe,Check_ok _ hS] at h
 have g:∀ {B:Bool} {R:Option Bool},(if B=true then some false else R)=some true→R=some true:=fun {B} {R} h=>by
  cases B with
  | true=>cases h
  | false=>exact h
 replace h:=g (g h)
 rw [if_pos c1] at h
 by_cases hb':0≤c.buffer∧c.buffer < (bs.length:Int)
 ·have hi:c.buffer.toNat < bs.length:=by omega
  have e:idx bs c.buffer=some bs[c.buffer.toNat]:=by simp [idx,hb'.1,hi]
  simp only [show c.buffer≥0 from hb'.1,if_true,decide_eq_true hb'.2,e,Qe,Equal_ok' _ _ hS,Option.some.injEq,decide_eq_true_eq] at h
  rw [e,h]
 ·have hb:¬ (if c.buffer≥0 then decide (c.buffer < (bs.length:Int)) else false)=true:=by
   by_cases h0:c.buffer≥0
   ·simp only [h0,if_true,decide_eq_true_eq]; omega
   ·simp [h0]
  rw [if_neg hb] at h
  cases h
mutual
def nodesF (bs:List (List Int)):Qb→Prop
 | ⟨k,sh,b,st,ax,am,pe,ks⟩=>nodeF ⟨k,sh,b,st,ax,am,pe,ks⟩∧bufF bs ⟨k,sh,b,st,ax,am,pe,ks⟩∧nodesFs bs ks
def nodesFs (bs:List (List Int)):List Qb→Prop
 | []=>True
 | k::ks=>nodesF bs k∧nodesFs bs ks
end
theorem nodesFs_mem {bs:List (List Int)}:∀ {l:List Qb},nodesFs bs l→∀ k∈l,nodesF bs k
 | x::l,h,k,hk=>by
  rw [nodesFs] at h
  rcases List.mem_cons.1 hk with rfl|hk
  ·exact h.1
  ·exact nodesFs_mem h.2 k hk
 | [],_,_,hk=>by cases hk
theorem nodesF_f {bs:List (List Int)} {c:Qb} (h:nodesF bs c):nodeF c∧bufF bs c∧∀ k∈c.kids,nodesF bs k:=by
 cases c; rw [nodesF] at h; exact ⟨h.1,h.2.1,nodesFs_mem h.2.2⟩
mutual
theorem nodes_ok (bs:List (List Int)):∀ (c:Qb),smC c→∃ b,YR (c,bs)=some b∧(b=true→nodesF bs c)
 | ⟨k,sh,b,st,ax,am,pe,ks⟩,h=>by
  have hf:=smC_f h
  rw [YR]
  obtain ⟨v,e,hv⟩:=node_ok ⟨k,sh,b,st,ax,am,pe,ks⟩ bs hf.1 hf.2.1 (fun k hk=>(smC_f (smCs_mem hf.2.2.2.2 k hk)).1)
  simp only [e,Qe]
  cases v with
  | false=>exact ⟨false,rfl,fun h=>by cases h⟩
  | true =>
   have hbuf:=node_buf _ bs (Sm_of (show sh.length≤1000 by have:=hf.1; simp only at this; omega)) e
   obtain ⟨o,e2,ho⟩:=nodes_loop bs ks [] k sh b st ax am pe hf.2.2.2.2 (by have:=hf.2.2.2.1; simpa using this)
   simp only [List.nil_append,List.length_nil,Int.natCast_zero] at e2
   simp only [Bool.true_eq_false,if_false,e2,Qe]
   cases o with
   | inl _=>exact ⟨false,rfl,fun h=>by cases h⟩
   | inr _=>exact ⟨true,rfl,fun _=>by rw [nodesF]; exact ⟨hv rfl,hbuf,ho rfl⟩⟩
theorem nodes_loop (bs:List (List Int)):∀ (s p:List Qb) (k:Int) (sh:List Int) (b:Int) (st:List Int) (ax am:Int) (pe:List Int),smCs s→p.length+s.length≤600 →
  ∃ o,Zr (⟨k,sh,b,st,ax,am,pe,p++s⟩,bs,(p.length:Int))=some o∧(o=.inr ()→nodesFs bs s)
 | [],p,k,sh,b,st,ax,am,pe,h1,h2=>by
  rw [Zr]; simp only [Zc,if_false]
  exact ⟨_,rfl,fun _=>trivial⟩
 | x::s,p,k,sh,b,st,ax,am,pe,h1,h2=>by
  rw [Zr]
  rw [smCs] at h1
  obtain ⟨v,e,hv⟩:=nodes_ok bs x h1.1
  obtain ⟨o,e',ho⟩:=nodes_loop bs s (p++[x]) k sh b st ax am pe h1.2 (by simp at h2 ⊢; omega)
  rw [← Qv] at e'
  simp only [Zg,if_true,Qz,Qe,e,J0 h2,e']
  cases v with
  | false=>exact ⟨.inl (),rfl,fun h=>by cases h⟩
  | true=>exact ⟨o,rfl,fun h=>by rw [nodesFs]; exact ⟨hv rfl,ho h⟩⟩
end
mutual
theorem depth_ok:∀ (c:Qb),smC c→∃ d,YP c=some d
 | ⟨k,sh,b,st,ax,am,pe,ks⟩,h=>by
  have hf:=smC_f h
  rw [YP]
  obtain ⟨o,e2⟩:=depth_loop ks [] 0 k sh b st ax am pe hf.2.2.2.2 (by have:=hf.2.2.2.1; simpa using this)
  simp only [List.nil_append,List.length_nil,Int.natCast_zero] at e2
  simp only [e2,Qe]; exact ⟨_,rfl⟩
theorem depth_loop:∀ (s p:List Qb) (d k:Int) (sh:List Int) (b:Int) (st:List Int) (ax am:Int) (pe:List Int),smCs s→p.length+s.length≤600 →
  ∃ o,Zp (⟨k,sh,b,st,ax,am,pe,p++s⟩,d,(p.length:Int))=some o
 | [],p,d,k,sh,b,st,ax,am,pe,h1,h2=>by
  rw [Zp]; simp only [Zc,if_false]
  exact ⟨_,rfl⟩
 | x::s,p,d,k,sh,b,st,ax,am,pe,h1,h2=>by
  rw [Zp]
  rw [smCs] at h1
  obtain ⟨v,e⟩:=depth_ok x h1.1
  obtain ⟨o,e'⟩:=depth_loop s (p++[x]) (if d < v then v else d) k sh b st ax am pe h1.2 (by simp at h2 ⊢; omega)
  rw [← Qv] at e'
  simp only [Zg,if_true,Qz,Qe,e,J0 h2,e']
  exact ⟨_,rfl⟩
end
def pmI:List Int→Int
 | []=>1
 | n::s=>(if n < 1 then 1 else n) * pmI s
theorem small_L1 (most:Int) (hm:0≤most∧most≤1000000):∀ (s p:List Int) (v:Int),p.length+s.length≤600→(∀ n∈s,n≤65536)→1≤v→v≤100000000→∃ o,ZQ (p++s,most,v,(p.length:Int))=some o∧(o=.inr ()→s=[]∨v * pmI s≤100 * most)
 | [],p,v,h,hd,h1,h2=>by
  refine ⟨.inr (),?_,fun _=>Or.inl rfl⟩; rw [ZQ]; simp only [Zc,if_false]
 | x::s,p,v,h,hd,h1,h2=>by
  rw [ZQ]
  have w1:W (100 * most)=100 * most:=W_ok (by omega) (by omega)
  have hx:=hd x (List.mem_cons_self ..)
  have hx2:1≤(if x < 1 then 1 else x)∧(if x < 1 then 1 else x)≤65536:=by split <;> omega
  have b1:=Int.mul_le_mul h2 hx2.2 (by omega) (by omega)
  have b2:=Int.mul_le_mul h1 hx2.1 (by omega) (by omega)
  have w2:W (v * (if x < 1 then 1 else x))=v * (if x < 1 then 1 else x):=W_ok (by omega) (by omega)
  simp only [Zg,if_true,Qz,Qe,J0 h,w1,w2]
  by_cases hg:v * (if x < 1 then 1 else x) > 100 * most
  ·exact ⟨_,if_pos hg,fun h=>by cases h⟩
  ·obtain ⟨o,e,ho⟩:=small_L1 most hm s (p++[x]) (v * (if x < 1 then 1 else x)) (by simp at h ⊢; omega) (fun n hn=>hd n (List.mem_cons_of_mem _ hn)) (by omega) (by omega)
   rw [← Qv] at e
   rw [if_neg hg]
   refine ⟨o,e,fun h=>Or.inr ?_⟩
   rw [pmI,← Int.mul_assoc]
   rcases ho h with rfl|h
   ·rw [pmI,Int.mul_one]; omega
   ·exact h
def smallS (m:Int) (l:List Int):Prop:=l.length≤6∧checkR l=0∧prodI l≤m∧(l=[]∨pmI l≤100 * m)
theorem small_ok (l:List Int) (most:Int) (hm:0≤most∧most≤1000000) (h:l.length≤40):∃ b,X3 (l,most)=some b∧(b=true→smallS most l):=by
 have hS:Sm l.length:=Sm_of (show l.length≤1000 by omega)
 simp only [X3,Check_ok _ hS,Cells_ok _ hS,Qe,ite_some]
 by_cases g1:(l.length:Int) > 6
 ·exact ⟨false,by simp [g1],fun h=>by cases h⟩
 by_cases g2:checkR l=0
 ·have hc:cellsR l=prodI l:=by rw [cellsR,if_pos g2]
  by_cases g3:cellsR l > most
  ·exact ⟨false,by simp [g1,g2,g3],fun h=>by cases h⟩
  ·obtain ⟨o,e,ho⟩:=small_L1 most hm l [] 1 (by simp; omega) (fun n hn=>((checkR_ok g2).2.2 n hn).2) (by omega) (by omega)
   have e':ZQ (l,most,1,0)=some o:=e
   simp only [g1,g2,g3,e',if_false,bne_self_eq_false,Bool.false_eq_true,decide_false,Qe]
   cases o with
   | inl _=>exact ⟨_,rfl,fun h=>by cases h⟩
   | inr _=>exact ⟨_,rfl,fun _=>⟨by omega,g2,by omega,by rcases ho rfl with h|h; exact Or.inl h; exact Or.inr (by omega)⟩⟩
 ·exact ⟨false,by simp [g1,g2],fun h=>by cases h⟩
mutual
def cellsF (m:Int):Qb→Prop
 | ⟨k,sh,b,st,ax,am,pe,ks⟩=>smallS m sh∧cellsFs m ks
def cellsFs (m:Int):List Qb→Prop
 | []=>True
 | k::ks=>cellsF m k∧cellsFs m ks
end
theorem cellsFs_mem {m:Int}:∀ {l:List Qb},cellsFs m l→∀ k∈l,cellsF m k
 | x::l,h,k,hk=>by
  rw [cellsFs] at h
  rcases List.mem_cons.1 hk with rfl|hk
  ·exact h.1
  ·exact cellsFs_mem h.2 k hk
 | [],_,_,hk=>by cases hk
theorem cellsF_f {m:Int} {c:Qb} (h:cellsF m c):smallS m c.shape∧∀ k∈c.kids,cellsF m k:=by
 cases c; rw [cellsF] at h; exact ⟨h.1,cellsFs_mem h.2⟩
mutual
theorem cells_ok (m:Int) (hm:0≤m∧m≤1000000):∀ (c:Qb),smC c→∃ d,YQ (c,m)=some d∧(d=true→cellsF m c)
 | ⟨k,sh,b,st,ax,am,pe,ks⟩,h=>by
  have hf:=smC_f h
  rw [YQ]
  obtain ⟨v,e,hv⟩:=small_ok sh m hm hf.1
  obtain ⟨o,e2,ho⟩:=cells_loop m hm ks [] k sh b st ax am pe hf.2.2.2.2 (by have:=hf.2.2.2.1; simpa using this)
  simp only [List.nil_append,List.length_nil,Int.natCast_zero] at e2
  simp only [e,e2,Qe]
  cases v
  ·exact ⟨_,rfl,fun h=>by cases h⟩
  ·cases o
   ·exact ⟨_,rfl,fun h=>by cases h⟩
   ·exact ⟨_,rfl,fun _=>by rw [cellsF]; exact ⟨hv rfl,ho rfl⟩⟩
theorem cells_loop (m:Int) (hm:0≤m∧m≤1000000):∀ (s p:List Qb) (k:Int) (sh:List Int) (b:Int) (st:List Int) (ax am:Int) (pe:List Int),smCs s→p.length+s.length≤600 →
  ∃ o,Zq (⟨k,sh,b,st,ax,am,pe,p++s⟩,m,(p.length:Int))=some o∧(o=.inr ()→cellsFs m s)
 | [],p,k,sh,b,st,ax,am,pe,h1,h2=>by
  rw [Zq]; simp only [Zc,if_false]
  exact ⟨_,rfl,fun _=>trivial⟩
 | x::s,p,k,sh,b,st,ax,am,pe,h1,h2=>by
  rw [Zq]
  rw [smCs] at h1
  obtain ⟨v,e,hv⟩:=cells_ok m hm x h1.1
  obtain ⟨o,e',ho⟩:=cells_loop m hm s (p++[x]) k sh b st ax am pe h1.2 (by simp at h2 ⊢; omega)
  rw [← Qv] at e'
  simp only [Zg,if_true,Qz,Qe,e,J0 h2,e']
  cases v
  ·exact ⟨_,rfl,fun h=>by cases h⟩
  ·exact ⟨o,rfl,fun h=>by rw [cellsFs]; exact ⟨hv rfl,ho h⟩⟩
end
theorem Small_ok (c:Qb) (bs:List (List Int)) (m:Int) (hm:0≤m∧m≤1000000):∃ b,X4 (c,bs,m)=some b∧(b=true→smC c∧nodesF bs c∧cellsF m c∧(szC c:Int)≤60∧bs.length≤20):=by
 simp only [X4]
 have eta:(⟨c.kind,c.shape,c.buffer,c.starts,c.axis,c.amount,c.perm,c.kids⟩:Qb)=c:=by cases c; rfl
 try rw [eta]
 by_cases h1:(bs.length:Int)≤20
 ·obtain ⟨b,e,hb⟩:=Few_ok c 60 (by omega) (by omega)
  simp only [h1,if_true,e,Qe]
  cases b with
  | false=>exact ⟨false,by simp [Qe],fun h=>by cases h⟩
  | true =>
   obtain ⟨hs,hz⟩:=hb rfl
   obtain ⟨d,e2⟩:=depth_ok c hs
   obtain ⟨v,e3,hv⟩:=nodes_ok bs c hs
   obtain ⟨x,e4,hx⟩:=cells_ok m hm c hs
   simp only [if_true,JK,e2,Qe]
   by_cases hd:d≤300
   ·simp only [hd,if_true,e3,Qe]
    cases v with
    | false=>exact ⟨false,by simp [Qe],fun h=>by cases h⟩
    | true =>
     simp only [if_true,e4,Qe]
     exact ⟨x,rfl,fun h=>⟨hs,hv rfl,hx h,hz,by omega⟩⟩
   ·simp only [hd,if_false,Qe,Bool.false_eq_true]
    exact ⟨false,rfl,fun h=>by cases h⟩
 ·exact ⟨false,by simp [h1,Qe],fun h=>by cases h⟩
theorem prodI_zero_iff {s:List Int} (h:∀ n∈s,0≤n) (hz:prodI s≠0):∀ n∈s,1≤n:=fun n hn=>by
 have h0:=h n hn
 rcases Int.lt_or_eq_of_le h0 with g|g
 ·omega
 ·subst g; exact absurd (prodI_zero hn) hz
theorem app_le {α:Type} {b:Nat} {l es:List α} (h:l.length+es.length≤100000000) (hb:b≤1000):app b l es=some (l++es):=app_ok (by
 have h1:(l.length+es.length) * b≤100000000 * 1000:=Nat.mul_le_mul h hb
 have h2:100000000 * 1000≤room:=by decide +kernel
 omega)
def allL:List Int→List (List Int)
 | []=>[[]]
 | n::s=>(List.range n.toNat).flatMap fun (k:Nat)=>(allL s).map ((k:Int)::·)
theorem mem_allL:∀ {s x:List Int},x∈allL s↔vld s x=true
 | [],x=>by
  cases x with
  | nil=>simp [allL,vld]
  | cons a x=>simp [allL,vld]
 | n::s,x=>by
  rw [allL,List.mem_flatMap]
  constructor
  ·rintro ⟨k,hk,h⟩
   obtain ⟨y,hy,rfl⟩:=List.mem_map.1 h
   have:=List.mem_range.1 hk
   simp only [vld,Bool.and_eq_true,decide_eq_true_eq]
   exact ⟨by omega,mem_allL.1 hy⟩
  ·intro h
   cases x with
   | nil=>cases h
   | cons a x =>
    simp only [vld,Bool.and_eq_true,decide_eq_true_eq] at h
    refine ⟨a.toNat,List.mem_range.2 (by omega),List.mem_map.2 ⟨x,mem_allL.2 h.2,?_⟩⟩
    rw [Int.toNat_of_nonneg h.1.1]
theorem flat_len {α:Type} (f:Nat→List α) (c:Nat) (h:∀ k,(f k).length=c):∀ m:Nat,((List.range m).flatMap f).length=m * c
 | 0=>by simp
 | m+1=>by rw [List.range_succ,List.flatMap_append,List.length_append,flat_len f c h m]; simp [h,Nat.add_mul]
theorem allL_len:∀ {s:List Int},(∀ n∈s,0≤n)→((allL s).length:Int)=prodI s
 | [],_=>by simp [allL,prodI]
 | n::s,h=>by
  have ih:=allL_len (s:=s) fun m hm=>h m (List.mem_cons_of_mem _ hm)
  have h0:=h n (List.mem_cons_self ..)
  rw [allL,flat_len _ (allL s).length (fun k=>by simp),Int.natCast_mul,ih,prodI_cons,Int.toNat_of_nonneg h0]
theorem flat_get {α:Type} (f:Nat→List α) (c:Nat) (h:∀ k,(f k).length=c) (hc:1≤c):∀ (m j:Nat),j < m * c→((List.range m).flatMap f)[j]? = (f (j / c))[j % c]?
 | 0,j,hj=>by simp at hj
 | m+1,j,hj=>by
  rw [List.range_succ,List.flatMap_append,List.getElem?_append]
  have hl:=flat_len f c h m
  rw [hl]
  by_cases hlt:j < m * c
  ·rw [if_pos hlt]; exact flat_get f c h hc m j hlt
  ·rw [if_neg hlt]
   have e1:j / c=m:=Nat.div_eq_of_lt_le (by omega) (by omega)
   have e2:j % c=j - m * c:=by
    have:=Nat.div_add_mod j c
    rw [e1,Nat.mul_comm] at this
    omega
   rw [e1,e2]; simp
def wkB:List Int→List Int→List Int→Prop
 | [],[],[]=>True
 | n::s,l::lo,h::hi=>(0≤l∧l≤h∧h≤n)∧wkB s lo hi
 | _,_,_=>False
def okB:List Int→List Int→List Int→Prop
 | [],[],[]=>True
 | n::s,l::lo,h::hi=>(0≤l∧l < h∧h≤n)∧okB s lo hi
 | _,_,_=>False
def fullB:List Int→List Int→Bool
 | l::lo,h::hi=>decide (l < h) && fullB lo hi
 | _,_=>true
def difL:List Int→List Int→List Int
 | l::lo,h::hi=>(h - l)::difL lo hi
 | _,_=>[]
theorem wk_len:∀ {s lo hi:List Int},wkB s lo hi→lo.length=s.length∧hi.length=s.length
 | [],[],[],_=>⟨rfl,rfl⟩
 | n::s,l::lo,h::hi,H=>by have:=wk_len H.2; simp [this]
 | [],_::_,_,h=>by simp [wkB] at h
 | [],[],_::_,h=>by simp [wkB] at h
 | _::_,[],_,h=>by simp [wkB] at h
 | _::_,_::_,[],h=>by simp [wkB] at h
theorem wk_ok:∀ {s lo hi:List Int},wkB s lo hi→fullB lo hi=true→okB s lo hi
 | [],[],[],_,_=>trivial
 | n::s,l::lo,h::hi,H,f=>by
  simp only [fullB,Bool.and_eq_true,decide_eq_true_eq] at f
  obtain ⟨⟨k1,k2,k3⟩,k4⟩:=H
  exact ⟨⟨k1,f.1,k3⟩,wk_ok k4 f.2⟩
 | [],_::_,_,h,_=>by simp [wkB] at h
 | [],[],_::_,h,_=>by simp [wkB] at h
 | _::_,[],_,h,_=>by simp [wkB] at h
 | _::_,_::_,[],h,_=>by simp [wkB] at h
theorem dif_le:∀ {s lo hi:List Int},okB s lo hi→1≤prodI (difL lo hi)∧prodI (difL lo hi)≤prodI s
 | [],[],[],_=>⟨Int.le_refl _,Int.le_refl _⟩
 | n::s,l::lo,h::hi,H=>by
  obtain ⟨⟨k1,k2,k3⟩,k4⟩:=H
  obtain ⟨i1,i2⟩:=dif_le k4
  rw [difL,prodI_cons,prodI_cons]
  have a:=Int.mul_le_mul (show 1≤h - l by omega) i1 (by omega) (by omega)
  have b:=Int.mul_le_mul (show h - l≤n by omega) i2 (by omega) (by omega)
  omega
 | [],_::_,_,h=>by simp [okB] at h
 | [],[],_::_,h=>by simp [okB] at h
 | _::_,[],_,h=>by simp [okB] at h
 | _::_,_::_,[],h=>by simp [okB] at h
theorem gC_L1:∀ (lo hi pl ph:List Int),pl.length=ph.length→lo.length=hi.length→pl.length+lo.length≤600→Zt (pl++lo,ph++hi,(pl.length:Int))=some (if fullB lo hi then .inr () else .inl ())
 | [],[],pl,ph,h1,h2,h=>by
  rw [Zt]
  simp only [Zc,if_false]; rfl
 | l::lo,h::hi,pl,ph,h1,h2,hl=>by
  rw [Zt]
  have i2:idx (ph++h::hi) (pl.length:Int)=some h:=by rw [h1]; exact Qz
  have e:=gC_L1 lo hi (pl++[l]) (ph++[h]) (by simp [h1]) (by simpa using h2) (by simp at hl ⊢; omega)
  rw [← Qv,← Qv] at e
  simp only [Zg,if_true,i2,Qz,Qe,J0 hl,e,fullB]
  by_cases g:l < h
  ·rw [if_neg (show ¬ l≥h by omega)]; simp only [g,decide_true,Bool.true_and]
  ·rw [if_pos (show l≥h by omega)]; simp only [g,decide_false,Bool.false_and]; rfl
 | [],_::_,_,_,_,h,_=>by cases h
 | _::_,[],_,_,_,h,_=>by cases h
theorem okB_pos:∀ {s lo hi:List Int},okB s lo hi→∀ n∈s,1≤n
 | [],_,_,_,n,hn=>by simp at hn
 | m::s,l::lo,h::hi,H,n,hn=>by
  obtain ⟨⟨k1,k2,k3⟩,k4⟩:=H
  rcases List.mem_cons.1 hn with rfl|hn
  ·omega
  ·exact okB_pos k4 n hn
 | _::_,[],_,h,_,_=>by simp [okB] at h
 | _::_,_::_,[],h,_,_=>by simp [okB] at h
theorem gC_L2:∀ (s lo hi pl ph:List Int) (v:Int),okB s lo hi→pl.length=ph.length→pl.length+lo.length≤600→1≤v→v * prodI s≤65536→Zu (pl++lo,ph++hi,v,(pl.length:Int))=some (v * prodI (difL lo hi))
 | [],[],[],pl,ph,v,H,h1,h,hv,hP=>by
  rw [Zu]
  simp only [Zc,if_false,difL,prodI_nil,Int.mul_one]
 | n::s,l::lo,h::hi,pl,ph,v,H,h1,hl,hv,hP=>by
  rw [Zu]
  have hps:=prodI_pos (fun m hm=>okB_pos H m (List.mem_cons_of_mem _ hm))
  obtain ⟨⟨k1,k2,k3⟩,k4⟩:=H
  have i2:idx (ph++h::hi) (pl.length:Int)=some h:=by rw [h1]; exact Qz
  rw [prodI_cons,← Int.mul_assoc] at hP
  have b0:v * (h - l)≤v * n:=Int.mul_le_mul_of_nonneg_left (by omega) (by omega)
  have b1:1≤v * (h - l):=by have:=Int.mul_le_mul hv (show 1≤h - l by omega) (by omega) (by omega); omega
  have b2:(v * n) * 1≤v * n * prodI s:=Int.mul_le_mul_of_nonneg_left hps (by omega)
  have b3:1 * n≤v * n:=Int.mul_le_mul_of_nonneg_right hv (by omega)
  have b4:v * (h - l) * prodI s≤v * n * prodI s:=Int.mul_le_mul_of_nonneg_right b0 (by omega)
  have w1:W (h - l)=h - l:=W_ok (by omega) (by omega)
  have w2:W (v * (h - l))=v * (h - l):=W_ok (by omega) (by omega)
  have e:=gC_L2 s lo hi (pl++[l]) (ph++[h]) (v * (h - l)) k4 (by simp [h1]) (by simp at hl ⊢; omega) b1 (by omega)
  rw [← Qv,← Qv] at e
  simp only [Zg,if_true,i2,Qz,Qe,J0 hl,w1,w2,e,difL,prodI_cons,Int.mul_assoc]
 | [],_::_,_,_,_,_,h,_,_,_,_=>by simp [okB] at h
 | [],[],_::_,_,_,_,h,_,_,_,_=>by simp [okB] at h
 | _::_,[],_,_,_,_,h,_,_,_,_=>by simp [okB] at h
 | _::_,_::_,[],_,_,_,h,_,_,_,_=>by simp [okB] at h
def cntB (lo hi:List Int):Int:=if fullB lo hi then prodI (difL lo hi) else 0
theorem gCount {s lo hi:List Int} (hP:prodI s≤65536) (h1:lo.length=hi.length) (hl:lo.length≤600) (H:fullB lo hi=true→okB s lo hi):Yw (lo,hi)=some (cntB lo hi):=by
 have e1:=gC_L1 lo hi [] [] rfl h1 (by simpa using hl)
 simp only [List.nil_append,List.length_nil,Int.natCast_zero] at e1
 unfold Yw cntB
 by_cases f:fullB lo hi=true
 ·have e2:=gC_L2 s lo hi [] [] 1 (H f) rfl (by simpa using hl) (by omega) (by omega)
  simp only [List.nil_append,List.length_nil,Int.natCast_zero,Int.one_mul] at e2
  simp only [e1,f,if_true,Qe,e2]
 ·simp only [e1,f,if_false,Qe]; rfl
theorem cnt_full {s lo hi:List Int} (H:fullB lo hi=true→okB s lo hi):(decide (cntB lo hi > 0))=fullB lo hi:=by
 unfold cntB
 by_cases f:fullB lo hi=true
 ·have:=(dif_le (H f)).1
  rw [if_pos f,f]; exact decide_eq_true (by omega)
 ·rw [if_neg f,(Bool.not_eq_true _).mp f]; decide
theorem cnt_zero {s lo hi:List Int} (H:fullB lo hi=true→okB s lo hi):(cntB lo hi == 0)=!fullB lo hi:=by
 unfold cntB
 by_cases f:fullB lo hi=true
 ·have:=(dif_le (H f)).1
  rw [if_pos f,f]; simp; omega
 ·rw [if_neg f,(Bool.not_eq_true _).mp f]; decide
def fullP (x:Qa):Bool:=fullB x.box.lo x.box.hi
def qkB (s lo hi:List Int):Prop:=lo.length=s.length∧hi.length=s.length∧(fullB lo hi=true→okB s lo hi)
theorem wk_qk {s lo hi:List Int} (h:wkB s lo hi):qkB s lo hi:=⟨(wk_len h).1,(wk_len h).2,wk_ok h⟩
theorem kept_L1 {s:List Int} (hP:prodI s≤65536) (hs:s.length≤600):∀ (l p:List Qa) (g:Nat) (out:List Qa),p.length+l.length≤100000→out.length≤p.length→(∀ x∈l,qkB s x.box.lo x.box.hi)→∃ g',Qu (p++l,g,out,(p.length:Int))=some (g',out++l.filter fullP)
 | [],p,g,out,h,ho,hw=>by
  rw [Qu]
  simp only [Zc,if_false]
  exact ⟨g,by simp⟩
 | x::l,p,g,out,h,ho,hw=>by
  rw [Qu]
  have hx:=hw x (List.mem_cons_self ..)
  obtain ⟨l1,l2,hx⟩:=hx
  have hc:=gCount hP (l1.trans l2.symm) (by omega) hx
  have hW:W ((p.length:Int)+1)=((p++[x]).length:Int):=by simp at h; rw [W_ok (by omega) (by omega)]; simp
  simp only [Zg,if_true,Qz,Qe,XM,Jy,hc,cnt_full hx,hW]
  by_cases f:fullB x.box.lo x.box.hi=true
  ·obtain ⟨g',e⟩:=kept_L1 hP hs l (p++[x]) (g+1) (out++[x]) (by simp at h ⊢; omega) (by simp; omega) (fun y hy=>hw y (List.mem_cons_of_mem _ hy))
   rw [← Qv] at e
   refine ⟨g',?_⟩
   rw [if_pos f,app_le (by simp at h ⊢; omega) (by omega),Qe,e,List.filter_cons_of_pos (by exact f)]
   simp
  ·obtain ⟨g',e⟩:=kept_L1 hP hs l (p++[x]) g out (by simp at h ⊢; omega) (by simp; omega) (fun y hy=>hw y (List.mem_cons_of_mem _ hy))
   rw [← Qv] at e
   refine ⟨g',?_⟩
   rw [if_neg f,e,List.filter_cons_of_neg (by exact f)]
theorem cmpL_tot:∀ {a b:List Int},a≠b→¬ cmpL a b < 0→cmpL b a < 0
 | [],[],h,_=>absurd rfl h
 | [],_::_,_,h=>by simp [cmpL] at h
 | _::_,[],_,_=>by simp [cmpL]
 | x::a,y::b,h,g=>by
  simp only [cmpL] at g ⊢
  split at g
  ·exact absurd (show (-1:Int) < 0 by decide) g
  ·split at g
   ·rw [if_pos (by omega)]; decide
   ·have e:x=y:=by omega
    subst e
    rw [if_neg (by omega),if_neg (by omega)]
    exact cmpL_tot (fun e=>h (by rw [e])) g
theorem ins_head (x:Qa):∀ l:List Qa,∃ z m,insT x l=z::m∧(z=x∨∃ m',l=z::m')
 | []=>⟨x,[],rfl,.inl rfl⟩
 | y::l=>by
  rw [insT]
  split
  ·exact ⟨y,_,rfl,.inr ⟨l,rfl⟩⟩
  ·exact ⟨x,_,rfl,.inl rfl⟩
theorem ins_strict (x:Qa):∀ l:List Qa,strictT l=true→(∀ y∈l,y.box.lo≠x.box.lo)→strictT (insT x l)=true
 | [],_,_=>rfl
 | y::l,h,hn=>by
  have hl:strictT l=true:=by
   cases l with
   | nil=>rfl
   | cons z l=>simp only [strictT,Bool.and_eq_true] at h; exact h.2
  rw [insT]
  by_cases g:cmpL y.box.lo x.box.lo < 0
  ·rw [if_pos g]
   have ih:=ins_strict x l hl (fun z hz=>hn z (List.mem_cons_of_mem _ hz))
   obtain ⟨z,m,e,hz⟩:=ins_head x l
   rw [e] at ih ⊢
   simp only [strictT,Bool.and_eq_true,decide_eq_true_eq]
   refine ⟨?_,ih⟩
   rcases hz with rfl|⟨m',rfl⟩
   ·exact g
   ·simp only [strictT,Bool.and_eq_true,decide_eq_true_eq] at h; exact h.1
  ·rw [if_neg g]
   simp only [strictT,Bool.and_eq_true,decide_eq_true_eq]
   exact ⟨cmpL_tot (hn y (List.mem_cons_self ..)) g,h⟩
theorem sort_strict:∀ {l:List Qa},l.Pairwise (fun a b=>a.box.lo≠b.box.lo)→strictT (sortT l)=true
 | [],_=>rfl
 | x::l,h=>by
  obtain ⟨h1,h2⟩:=List.pairwise_cons.1 h
  exact ins_strict x (sortT l) (sort_strict h2) (fun y hy=>(h1 y ((sortT_perm l).mem_iff.1 hy)).symm)
theorem listed_ok {s:List Int} (hP:prodI s≤65536) (hs:s.length≤600) {l:List Qa} (hl:l.length≤100000) (hw:∀ x∈l,qkB s x.box.lo x.box.hi) (hd:(l.filter fullP).Pairwise fun a b=>a.box.lo≠b.box.lo):Q8 l=some (sortT (l.filter fullP)):=by
 obtain ⟨g',e⟩:=kept_L1 hP hs l [] 0 [] (by simpa using hl) (by simp) hw
 have e':Qu (l,0,[],0)=some (g',l.filter fullP):=e
 have hf:=List.length_filter_le fullP l
 have es:sortM (l.filter fullP)=some (sortT (l.filter fullP)):=by
  refine if_pos ⟨by omega,?_,sort_strict hd⟩
  rw [List.all_eq_true]
  intro x hx
  have:=(hw x (List.mem_filter.1 hx).1).1
  exact decide_eq_true (by omega)
 simp only [Q8,ZN,e',Qe,es]
 rw [guardM_ok (sortT_perm _).length_eq]; rfl
theorem listed_one {s:List Int} (hP:prodI s≤65536) (hs:s.length≤600) (x:Qa) (hw:wkB s x.box.lo x.box.hi):Q8 [x]=some (if fullP x then [x] else []):=by
 rw [listed_ok hP hs (l:=[x]) (by simp) (fun y hy=>by simp at hy; rw [hy]; exact wk_qk hw) (by by_cases f:fullP x=true <;> simp [List.filter_cons,f])]
 by_cases f:fullP x=true
 ·rw [List.filter_cons_of_pos f,if_pos f]; rfl
 ·rw [List.filter_cons_of_neg f,if_neg f]; rfl
theorem W_in {n:Int} (h1:-1000000000000≤n) (h2:n≤1000000000000):W n=n:=W_ok (by omega) (by omega)
theorem W_nat {n:Nat} (h:n≤1000000):W ((n:Int)+1)=((n+1:Nat):Int):=by rw [W_in (by omega) (by omega)]; omega
theorem idx_of {α:Type} {l:List α} {i:Nat} {x:α} (h:l[i]? = some x):idx l (i:Int)=some x:=by
 obtain ⟨h1,h2⟩:=List.getElem?_eq_some_iff.1 h
 rw [idx_ok h1,h2]
theorem mkS_ok (s:List Int) (h:s.length≤600):makeM 8 (s.length:Int) (0:Int)=some (List.replicate s.length 0):=by
 have:((s.length:Int) * 8≤(room:Int)):=by
  have:(1000:Nat) * 8≤room:=by decide +kernel
  omega
 simp [makeM,this]; omega
theorem whole_ok (s:List Int) (h:s.length≤600):∃ g,Yj s=some (g,List.replicate s.length 0,s):=by
 refine ⟨mg (List.replicate s.length (0:Int)),?_⟩
 simp only [Yj,mkS_ok s h,Qe,Qp,app_le (b:=8) (l:=([]:List Int)) (es:=s) (by simp; omega) (by omega),List.nil_append]
def wholeP (b:Int) (s:List Int):Qa:=⟨⟨List.replicate s.length 0,s⟩,⟨2,b,0,strd s,0,0,0⟩⟩
theorem wk_whole:∀ {s:List Int},(∀ n∈s,0≤n)→wkB s (List.replicate s.length 0) s
 | [],_=>trivial
 | n::s,h=>by
  rw [List.length_cons,List.replicate_succ]
  have:=h n (List.mem_cons_self ..)
  exact ⟨⟨Int.le_refl _,this,Int.le_refl _⟩,wk_whole fun m hm=>h m (List.mem_cons_of_mem _ hm)⟩
theorem full_whole:∀ {s:List Int},(∀ n∈s,1≤n)→fullB (List.replicate s.length 0) s=true
 | [],_=>rfl
 | n::s,h=>by
  rw [List.length_cons,List.replicate_succ,fullB,full_whole fun m hm=>h m (List.mem_cons_of_mem _ hm)]
  have:=h n (List.mem_cons_self ..)
  simp; omega
theorem full_prod {s:List Int} (h:∀ n∈s,0≤n):fullB (List.replicate s.length 0) s=if prodI s=0 then false else true:=by
 by_cases z:prodI s=0
 ·rw [if_pos z]
  cases f:fullB (List.replicate s.length 0) s with
  | false=>rfl
  | true =>
   have:=prodI_pos (okB_pos (wk_ok (wk_whole h) f))
   omega
 ·rw [if_neg z,full_whole (prodI_zero_iff h z)]
theorem pWhole_ok (b:Int) {s:List Int} (hc:checkR s=0):X2 (b,s)=some (if prodI s=0 then [] else [wholeP b s]):=by
 obtain ⟨h1,h2,h3⟩:=checkR_ok hc
 obtain ⟨g,eg⟩:=whole_ok s (by omega)
 have hn:∀ n∈s,0≤n:=fun n hn=>(h3 n hn).1
 have hS:Sm s.length:=Sm_of (show s.length≤1000 by omega)
 unfold X2
 simp only [eg,Qe,Jb]
 by_cases z:prodI s=0
 ·have es:Yo s=some (List.replicate s.length 0):=by
   simp only [Yo,shapeCheck_ok s hS,Qe,hc,ne_eq,not_true,if_false,mkS_ok s (by omega),gCells_ok s hS,cellsR,z,if_true]
  simp only [es,Qe]
  rw [listed_one h2 (by omega) _ (wk_whole hn),Qe,fullP,full_prod hn,if_pos z]
  simp [z]
 ·simp only [strides_ok hc (prodI_zero_iff hn z),Qe]
  rw [listed_one h2 (by omega) _ (wk_whole hn),Qe,fullP,full_prod hn,if_neg z,if_neg z]
  simp [wholeP]
def inB:List Int→List Int→List Int→Bool
 | [],[],[]=>true
 | l::lo,h::hi,i::is=>(decide (l≤i) && decide (i < h)) && inB lo hi is
 | _,_,_=>false
section
variable {s:List Int}
end
def frm (lo t n:Int):Int:=if t < (if W (lo - n) < 0 then 0 else W (lo - n)) then t else (if W (lo - n) < 0 then 0 else W (lo - n))
def til (lo hi t n:Int):Int:=if frm lo t n < (if t < W (hi - n) then t else W (hi - n)) then (if t < W (hi - n) then t else W (hi - n)) else frm lo t n
def clo:List Int→List Int→List Int→List Int
 | l::lo,t::ts,n::st=>frm l t n::clo lo ts st
 | _,_,_=>[]
def chi:List Int→List Int→List Int→List Int→List Int
 | l::lo,h::hi,t::ts,n::st=>til l h t n::chi lo hi ts st
 | _,_,_,_=>[]
theorem frm_in {lo t n:Int} (h:0≤t):0≤frm lo t n∧frm lo t n≤t:=by
 unfold frm
 generalize W (lo - n)=x
 split <;> split <;> omega
theorem til_in {lo hi t n:Int} (h:0≤t):frm lo t n≤til lo hi t n∧til lo hi t n≤t:=by
 have:=frm_in (lo:=lo) (n:=n) h
 unfold til
 generalize W (hi - n)=y
 generalize frm lo t n=x at *
 split <;> split <;> omega
theorem clip_L1:∀ (st lo t hi ps pl pt ph o1 o2:List Int),lo.length=st.length→t.length=st.length→hi.length=st.length→pl.length=ps.length→pt.length=ps.length→ph.length=ps.length→ps.length+st.length≤600→o1.length=ps.length→o2.length=ps.length →
  ZH (ps++st,pl++lo,pt++t,ph++hi,o1,o2,(ps.length:Int))=some (o1++clo lo t st,o2++chi lo hi t st)
 | [],[],[],[],ps,pl,pt,ph,o1,o2,_,_,_,_,_,_,hl,_,_=>by
  rw [ZH]
  simp only [Zc,if_false]; simp only [clo,chi,List.append_nil]
 | n::st,l::lo,t::ts,h::hi,ps,pl,pt,ph,o1,o2,e1,e2,e3,e4,e5,e6,hl,q1,q2=>by
  rw [ZH]
  have i1:idx (pl++l::lo) (ps.length:Int)=some l:=by rw [← e4]; exact Qz
  have i2:idx (pt++t::ts) (ps.length:Int)=some t:=by rw [← e5]; exact Qz
  have i3:idx (ph++h::hi) (ps.length:Int)=some h:=by rw [← e6]; exact Qz
  have ih:=clip_L1 st lo ts hi (ps++[n]) (pl++[l]) (pt++[t]) (ph++[h]) (o1++[frm l t n]) (o2++[til l h t n]) (by simpa using e1) (by simpa using e2) (by simpa using e3) (by simp [e4]) (by simp [e5]) (by simp [e6]) (by simp at hl ⊢; omega) (by simp [q1]) (by simp [q2])
  rw [← Qv,← Qv,← Qv,← Qv] at ih
  have a1:app 8 o1 [frm l t n]=some (o1++[frm l t n]):=app_le (by simp at hl ⊢; omega) (by omega)
  have a2:app 8 o2 [til l h t n]=some (o2++[til l h t n]):=app_le (by simp at hl ⊢; omega) (by omega)
  unfold frm at a1
  unfold til frm at a2
  simp only [Zg,if_true,Qz,i1,i2,i3,Qe,a1,a2,J0 hl]
  refine ih.trans ?_
  rw [clo,chi]
  simp
 | [],_::_,_,_,_,_,_,_,_,_,h,_,_,_,_,_,_,_,_=>by simp at h
 | [],_,_::_,_,_,_,_,_,_,_,_,h,_,_,_,_,_,_,_=>by simp at h
 | [],_,_,_::_,_,_,_,_,_,_,_,_,h,_,_,_,_,_,_=>by simp at h
 | _::_,[],_,_,_,_,_,_,_,_,h,_,_,_,_,_,_,_,_=>by simp at h
 | _::_,_,[],_,_,_,_,_,_,_,_,h,_,_,_,_,_,_,_=>by simp at h
 | _::_,_,_,[],_,_,_,_,_,_,_,_,h,_,_,_,_,_,_=>by simp at h
theorem clip_ok {lo hi t st:List Int} (h1:lo.length=st.length) (h2:t.length=st.length) (h3:hi.length=st.length) (hl:st.length≤600):YF (lo,hi,t,st)=some ⟨clo lo t st,chi lo hi t st⟩:=by
 have e:=clip_L1 st lo t hi [] [] [] [] [] [] h1 h2 h3 rfl rfl rfl (by simpa using hl) rfl rfl
 simp only [List.nil_append,List.length_nil,Int.natCast_zero] at e
 simp only [YF,e,Qe]
theorem clip_wk:∀ {lo hi t st:List Int},lo.length=st.length→t.length=st.length→hi.length=st.length→(∀ n∈t,0≤n)→wkB t (clo lo t st) (chi lo hi t st)
 | [],[],[],[],_,_,_,_=>trivial
 | l::lo,h::hi,t::ts,n::st,e1,e2,e3,hp=>by
  have h0:=hp t (List.mem_cons_self ..)
  have f:=frm_in (lo:=l) (n:=n) h0
  have g:=til_in (lo:=l) (hi:=h) (n:=n) h0
  exact ⟨⟨f.1,g.1,g.2⟩,clip_wk (by simpa using e1) (by simpa using e2) (by simpa using e3) fun m hm=>hp m (List.mem_cons_of_mem _ hm)⟩
 | _::_,_,_,[],h,_,_,_=>by simp at h
 | _,_::_,_,[],_,_,h,_=>by simp at h
 | _,_,_::_,[],_,h,_,_=>by simp at h
 | [],_,_,_::_,h,_,_,_=>by simp at h
 | _,[],_,_::_,_,_,h,_=>by simp at h
 | _,_,[],_::_,_,h,_,_=>by simp at h
def mxI (a b:Int):Int:=if a < b then b else a
def mnI (a b:Int):Int:=if b < a then b else a
theorem mx_L1:∀ (a b pa pb o:List Int),a.length=b.length→pa.length=pb.length→pa.length+a.length≤600→o.length=pa.length→QB (pa++a,pb++b,o,(pa.length:Int))=some (o++List.zipWith mxI a b)
 | [],[],pa,pb,o,_,_,hl,_=>by
  rw [QB]
  simp only [Zc,if_false]; simp only [List.zipWith_nil_left,List.append_nil]
 | x::a,y::b,pa,pb,o,e1,e2,hl,ho=>by
  rw [QB]
  have i2:idx (pb++y::b) (pa.length:Int)=some y:=by rw [e2]; exact Qz
  have ih:=mx_L1 a b (pa++[x]) (pb++[y]) (o++[mxI x y]) (by simpa using e1) (by simp [e2]) (by simp at hl ⊢; omega) (by simp [ho])
  rw [← Qv,← Qv] at ih
  have a1:app 8 o [mxI x y]=some (o++[mxI x y]):=app_le (by simp at hl ⊢; omega) (by omega)
  simp only [Zg,if_true,Qz,i2,Qe,Xn,J0 hl]
  show (app 8 o [mxI x y]>>=_)=_
  rw [a1,Qe]
  refine ih.trans ?_
  simp
 | [],_::_,_,_,_,h,_,_,_=>by cases h
 | _::_,[],_,_,_,h,_,_,_=>by cases h
theorem mn_L1:∀ (a b pa pb o:List Int),a.length=b.length→pa.length=pb.length→pa.length+a.length≤600→o.length=pa.length→QC (pa++a,pb++b,o,(pa.length:Int))=some (o++List.zipWith mnI a b)
 | [],[],pa,pb,o,_,_,hl,_=>by
  rw [QC]
  simp only [Zc,if_false]; simp only [List.zipWith_nil_left,List.append_nil]
 | x::a,y::b,pa,pb,o,e1,e2,hl,ho=>by
  rw [QC]
  have i2:idx (pb++y::b) (pa.length:Int)=some y:=by rw [e2]; exact Qz
  have ih:=mn_L1 a b (pa++[x]) (pb++[y]) (o++[mnI x y]) (by simpa using e1) (by simp [e2]) (by simp at hl ⊢; omega) (by simp [ho])
  rw [← Qv,← Qv] at ih
  have a1:app 8 o [mnI x y]=some (o++[mnI x y]):=app_le (by simp at hl ⊢; omega) (by omega)
  simp only [Zg,if_true,Qz,i2,Qe,Xo,J0 hl]
  show (app 8 o [mnI x y]>>=_)=_
  rw [a1,Qe]
  refine ih.trans ?_
  simp
 | [],_::_,_,_,_,h,_,_,_=>by cases h
 | _::_,[],_,_,_,h,_,_,_=>by cases h
theorem Inter_ok {s al ah bl bh:List Int} (hP:prodI s≤65536) (h1:al.length=bl.length) (h2:ah.length=bh.length) (h3:al.length=ah.length) (hl:al.length≤600)
  (H:fullB (List.zipWith mxI al bl) (List.zipWith mnI ah bh)=true→okB s (List.zipWith mxI al bl) (List.zipWith mnI ah bh)) :
  Xg (⟨al,ah⟩,⟨bl,bh⟩)=some (if fullB (List.zipWith mxI al bl) (List.zipWith mnI ah bh) then (⟨List.zipWith mxI al bl,List.zipWith mnI ah bh⟩,true) else (⟨[],[]⟩,false)):=by
 have e1:=mx_L1 al bl [] [] [] h1 rfl (by simpa using hl) rfl
 have e2:=mn_L1 ah bh [] [] [] h2 rfl (by simp; omega) rfl
 simp only [List.nil_append,List.length_nil,Int.natCast_zero] at e1 e2
 have hc:=gCount hP (lo:=List.zipWith mxI al bl) (hi:=List.zipWith mnI ah bh) (by simp; omega) (by simp; omega) H
 have g:¬ ((al.length:Int)≠(bl.length:Int)):=by omega
 have hz:=cnt_zero H
 simp only [Xg,g,if_false,Zz,ZA,e1,e2,Qe,hc]
 by_cases f:fullB (List.zipWith mxI al bl) (List.zipWith mnI ah bh)=true
 ·rw [f] at hz ⊢
  rw [if_neg (by simpa using hz)]; rfl
 ·have f':=(Bool.not_eq_true _).mp f
  rw [f'] at hz ⊢
  rw [if_pos (by simpa using hz)]; rfl
theorem zip_mx:∀ {s cl ch:List Int},wkB s cl ch→List.zipWith mxI (List.replicate s.length 0) cl=cl∧List.zipWith mnI s ch=ch
 | [],[],[],_=>⟨rfl,rfl⟩
 | n::s,c::cl,d::ch,h=>by
  obtain ⟨⟨k1,k2,k3⟩,k4⟩:=h
  obtain ⟨i1,i2⟩:=zip_mx k4
  rw [List.length_cons,List.replicate_succ,List.zipWith_cons_cons,List.zipWith_cons_cons,i1,i2]
  have a:mxI 0 c=c:=by unfold mxI; split <;> omega
  have b:mnI n d=d:=by unfold mnI; split <;> omega
  rw [a,b]; exact ⟨rfl,rfl⟩
 | [],_::_,_,h=>by simp [wkB] at h
 | [],[],_::_,h=>by simp [wkB] at h
 | _::_,[],_,h=>by simp [wkB] at h
 | _::_,_::_,[],h=>by simp [wkB] at h
def minusR:List Int→List Int→List Int→List Int→List (List Int × List Int)
 | a::al,b::ah,c::cl,d::ch=>(a::al,c::ah)::(d::al,b::ah)::(minusR al ah cl ch).map fun x=>(c::x.1,d::x.2)
 | _,_,_,_=>[]
def inBox:List Int→List Int→List Int→List Int→Prop
 | [],[],[],[]=>True
 | a::al,b::ah,c::cl,d::ch=>a≤c∧c≤d∧d≤b∧inBox al ah cl ch
 | _,_,_,_=>False
def fullX (b:Qj):Bool:=fullB b.lo b.hi
theorem wk_app:∀ {sp pl ph ss l h:List Int},wkB sp pl ph→wkB ss l h→wkB (sp++ss) (pl++l) (ph++h)
 | [],[],[],_,_,_,_,h=>h
 | n::s,a::pl,b::ph,ss,l,h,k,h2=>⟨k.1,wk_app k.2 h2⟩
 | [],_::_,_,_,_,_,h,_=>by simp [wkB] at h
 | [],[],_::_,_,_,_,h,_=>by simp [wkB] at h
 | _::_,[],_,_,_,_,h,_=>by simp [wkB] at h
 | _::_,_::_,[],_,_,_,h,_=>by simp [wkB] at h
theorem with_ok {pl ph lo hi:List Int} {x y a b:Int} {k:Int} (h1:k=(pl.length:Int)) (h2:pl.length=ph.length) (h3:lo.length=hi.length) (hl:pl.length+lo.length≤500):YM (⟨pl++x::lo,ph++y::hi⟩,k,a,b)=some ⟨pl++a::lo,ph++b::hi⟩:=by
 subst h1
 have c1:Qp (pl++x::lo)=some (pl++x::lo):=app_le (by simp; omega) (by omega)
 have c2:Qp (ph++y::hi)=some (ph++y::hi):=app_le (by simp; omega) (by omega)
 have s1:setM (pl++x::lo) (pl.length:Int) a=some (pl++a::lo):=by rw [setM_ok (by simp),mid_set,← Qv]
 have s2:setM (ph++y::hi) (pl.length:Int) b=some (ph++b::hi):=by rw [h2,setM_ok (by simp),mid_set,← Qv]
 have i2:idx (ph++y::hi) (pl.length:Int)=some y:=by rw [h2]; exact Qz
 simp only [YM,c1,c2,Qe,Qz,s1,i2,s2]
 rw [guardM_ok (by simp),Qe,guardM_ok (by simp),Qe]
theorem gSize {s:List Int} (hP:prodI s≤65536) (hs:s.length≤600) {b:Qj} (hb:wkB s b.lo b.hi):Z0 b=some (!fullB b.lo b.hi):=by
 obtain ⟨l1,l2⟩:=wk_len hb
 simp only [Z0,Jy,gCount hP (l1.trans l2.symm) (by omega) (wk_ok hb),Qe,cnt_zero (wk_ok hb)]
theorem fill2 {s:List Int} (hP:prodI s≤65536) (hs:s.length≤600) {q0 q1 q2 q3 q4 q5 q6 q7:List Int} {n:Nat} {b1 b2:Qj} (h1:wkB s b1.lo b1.hi) (h2:wkB s b2.lo b2.hi) :
  Yy (q0,q1,q2,q3,q4,q5,q6,q7,b1.lo,b1.hi,b2.lo,b2.hi,n)=some (if fullX b1 then (if fullX b2 then .inr (.inr ()) else .inl (b1.lo,b1.hi)) else (if fullX b2 then .inl (b2.lo,b2.hi) else .inr (.inl ()))):=by
 have e1:=gSize hP hs h1
 have e2:=gSize hP hs h2
 simp only [Yy,QT,QY,fullX]
 have e1':Z0 ⟨b1.lo,b1.hi⟩=some (!fullB b1.lo b1.hi):=e1
 have e2':Z0 ⟨b2.lo,b2.hi⟩=some (!fullB b2.lo b2.hi):=e2
 by_cases f1:fullB b1.lo b1.hi=true
 ·by_cases f2:fullB b2.lo b2.hi=true
  ·simp only [e1',e2',f1,f2,Qe]; rfl
  ·simp only [e1',e2',f1,(Bool.not_eq_true _).mp f2,Qe]; rfl
 ·by_cases f2:fullB b2.lo b2.hi=true
  ·simp only [e1',e2',(Bool.not_eq_true _).mp f1,f2,Qe]; rfl
  ·simp only [e1',e2',(Bool.not_eq_true _).mp f1,(Bool.not_eq_true _).mp f2,Qe]; rfl
theorem minus_L1 {s:List Int} (hP:prodI s≤65536) (c1:Qj):∀ (ss sp al ah cl ch pal pah pcl pch:List Int) (out:List Qj),s=sp++ss→wkB ss al ah→inBox al ah cl ch→wkB sp pcl pch→pal.length=sp.length→pah.length=sp.length→s.length≤200→out.length≤2 * sp.length →
  ∃ r1 r2,ZZ (⟨pal++al,pah++ah⟩,⟨pcl++cl,pch++ch⟩,c1,pcl++al,pch++ah,out,(sp.length:Int))=some (r1,r2,out++((minusR al ah cl ch).map fun x=>(⟨pcl++x.1,pch++x.2⟩:Qj)).filter fullX)
 | [],sp,[],[],[],[],pal,pah,pcl,pch,out,e,hw,hi,hp,e1,e2,hl,ho=>by
  rw [ZZ]
  have:¬ ((sp.length:Int) < ((pal++([]:List Int)).length:Int)):=by simp; omega
  simp only [this,if_false]
  exact ⟨pcl++[],pch++[],by simp [minusR]⟩
 | n::ss,sp,a::al,b::ah,c::cl,d::ch,pal,pah,pcl,pch,out,e,hw,hi,hp,e1,e2,hl,ho=>by
  rw [ZZ]
  obtain ⟨⟨k1,k2,k3⟩,k4⟩:=hw
  obtain ⟨i1,i2,i3,i4⟩:=hi
  obtain ⟨m1,m2⟩:=wk_len hp
  obtain ⟨n1,n2⟩:=wk_len k4
  have hsl:sp.length+ss.length+1≤200:=by rw [e] at hl; simp at hl; omega
  have g1:((sp.length:Int) < ((pal++a::al).length:Int)):=by simp; omega
  have j1:idx (pal++a::al) (sp.length:Int)=some a:=by rw [← e1]; exact Qz
  have j2:idx (pcl++c::cl) (sp.length:Int)=some c:=by rw [← m1]; exact Qz
  have j3:idx (pch++d::ch) (sp.length:Int)=some d:=by rw [← m2]; exact Qz
  have j4:idx (pah++b::ah) (sp.length:Int)=some b:=by rw [← e2]; exact Qz
  have wt:∀ x y:Int,YM (⟨pcl++a::al,pch++b::ah⟩,(sp.length:Int),x,y)=some ⟨pcl++x::al,pch++y::ah⟩:=fun x y=>with_ok (by rw [m1]) (by omega) (by omega) (by omega)
  have hb1:wkB s (pcl++a::al) (pch++c::ah):=by rw [e]; exact wk_app hp ⟨⟨k1,i1,by omega⟩,k4⟩
  have hb2:wkB s (pcl++d::al) (pch++b::ah):=by rw [e]; exact wk_app hp ⟨⟨by omega,i3,k3⟩,k4⟩
  have ef:=fill2 hP (by omega) (q0:=pal++a::al) (q1:=pah++b::ah) (q2:=c1.lo) (q3:=c1.hi) (q4:=pcl++c::cl) (q5:=pch++d::ch) (q6:=pcl++a::al) (q7:=pch++b::ah) (n:=out.length) (b1:=⟨pcl++a::al,pch++c::ah⟩) (b2:=⟨pcl++d::al,pch++b::ah⟩) hb1 hb2
  have hW:W ((sp.length:Int)+1)=((sp++[n]).length:Int):=by rw [W_in (by omega) (by omega)]; simp
  have ih:=fun out' (h:out'.length≤2 * (sp++[n]).length)=>minus_L1 hP c1 ss (sp++[n]) al ah cl ch (pal++[a]) (pah++[b]) (pcl++[c]) (pch++[d]) out' (by rw [e,Qv]) k4 i4 (wk_app hp ⟨⟨by omega,i2,by omega⟩,trivial⟩) (by simp [e1]) (by simp [e2]) hl h
  simp only [← Qv] at ih
  have em:((minusR (a::al) (b::ah) (c::cl) (d::ch)).map fun x=>(⟨pcl++x.1,pch++x.2⟩:Qj))=⟨pcl++a::al,pch++c::ah⟩::⟨pcl++d::al,pch++b::ah⟩::((minusR al ah cl ch).map fun x=>(⟨pcl++c::x.1,pch++d::x.2⟩:Qj)):=by
   rw [minusR,List.map_cons,List.map_cons,List.map_map]; rfl
  rw [em]
  simp only [g1,if_true,j1,j2,j3,j4,Qe,wt,ef]
  by_cases f1:fullX ⟨pcl++a::al,pch++c::ah⟩=true
  ·by_cases f2:fullX ⟨pcl++d::al,pch++b::ah⟩=true
   ·obtain ⟨r1,r2,e3⟩:=ih (out++[⟨pcl++a::al,pch++c::ah⟩,⟨pcl++d::al,pch++b::ah⟩]) (by simp; omega)
    refine ⟨r1,r2,?_⟩
    rw [List.filter_cons_of_pos f1,List.filter_cons_of_pos f2]
    simp only [f1,f2,if_true]
    rw [app_le (by simp; omega) (by omega),Qe,hW,e3]
    simp
   ·obtain ⟨r1,r2,e3⟩:=ih (out++[⟨pcl++a::al,pch++c::ah⟩]) (by simp; omega)
    refine ⟨r1,r2,?_⟩
    rw [List.filter_cons_of_pos f1,List.filter_cons_of_neg f2]
    simp only [f1,f2,if_true,if_false,Bool.false_eq_true]
    rw [app_le (by simp; omega) (by omega),Qe,hW,e3]
    simp
  ·by_cases f2:fullX ⟨pcl++d::al,pch++b::ah⟩=true
   ·obtain ⟨r1,r2,e3⟩:=ih (out++[⟨pcl++d::al,pch++b::ah⟩]) (by simp; omega)
    refine ⟨r1,r2,?_⟩
    rw [List.filter_cons_of_neg f1,List.filter_cons_of_pos f2]
    simp only [f1,f2,if_true,if_false,Bool.false_eq_true]
    rw [app_le (by simp; omega) (by omega),Qe,hW,e3]
    simp
   ·obtain ⟨r1,r2,e3⟩:=ih out (by simp; omega)
    refine ⟨r1,r2,?_⟩
    rw [List.filter_cons_of_neg f1,List.filter_cons_of_neg f2]
    simp only [f1,f2,if_false,Bool.false_eq_true]
    rw [app_le (by simp; omega) (by omega),Qe,hW,List.append_nil,e3]
 | _::_,_,[],_,_,_,_,_,_,_,_,_,h,_,_,_,_,_,_=>by simp [wkB] at h
 | _::_,_,_::_,[],_,_,_,_,_,_,_,_,h,_,_,_,_,_,_=>by simp [wkB] at h
 | [],_,_::_,_,_,_,_,_,_,_,_,_,h,_,_,_,_,_,_=>by simp [wkB] at h
 | [],_,[],_::_,_,_,_,_,_,_,_,_,h,_,_,_,_,_,_=>by simp [wkB] at h
 | _,_,_::_,_::_,[],_,_,_,_,_,_,_,_,h,_,_,_,_,_=>by simp [inBox] at h
 | _,_,_::_,_::_,_::_,[],_,_,_,_,_,_,_,h,_,_,_,_,_=>by simp [inBox] at h
 | _,_,[],[],_::_,_,_,_,_,_,_,_,_,h,_,_,_,_,_=>by simp [inBox] at h
 | _,_,[],[],[],_::_,_,_,_,_,_,_,_,h,_,_,_,_,_=>by simp [inBox] at h
theorem wk_inBox:∀ {s cl ch:List Int},wkB s cl ch→inBox (List.replicate s.length 0) s cl ch
 | [],[],[],_=>trivial
 | n::s,c::cl,d::ch,h=>by
  obtain ⟨⟨k1,k2,k3⟩,k4⟩:=h
  rw [List.length_cons,List.replicate_succ]
  exact ⟨k1,k2,k3,wk_inBox k4⟩
 | [],_::_,_,h=>by simp [wkB] at h
 | [],[],_::_,h=>by simp [wkB] at h
 | _::_,[],_,h=>by simp [wkB] at h
 | _::_,_::_,[],h=>by simp [wkB] at h
def restB (s cl ch:List Int):List Qj:=(if fullB cl ch then (minusR (List.replicate s.length 0) s cl ch).map fun x=>(⟨x.1,x.2⟩:Qj) else [⟨List.replicate s.length 0,s⟩]).filter fullX
theorem Minus_ok {s cl ch:List Int} (hP:prodI s≤65536) (hs:s.length≤100) (h0:∀ n∈s,0≤n) (hc:wkB s cl ch):JO (⟨List.replicate s.length 0,s⟩,⟨cl,ch⟩)=some (restB s cl ch):=by
 obtain ⟨l1,l2⟩:=wk_len hc
 obtain ⟨z1,z2⟩:=zip_mx hc
 have eI:=Inter_ok (s:=s) (al:=List.replicate s.length 0) (ah:=s) (bl:=cl) (bh:=ch) hP (by simp; omega) (by omega) (by simp) (by simp; omega) (by rw [z1,z2]; exact wk_ok hc)
 rw [z1,z2] at eI
 unfold JO restB
 dsimp only
 rw [eI]
 by_cases f:fullB cl ch=true
 ·obtain ⟨r1,r2,e⟩:=minus_L1 (s:=s) hP ⟨cl,ch⟩ s [] (List.replicate s.length 0) s cl ch [] [] [] [] [] rfl (wk_whole h0) (wk_inBox hc) trivial rfl rfl (by omega) (by simp)
  simp only [List.nil_append,List.length_nil,Int.natCast_zero] at e
  simp only [f,if_true,Qe,Bool.true_eq_false,if_false,e]
 ·have c1:Qp (List.replicate s.length 0)=some (List.replicate s.length 0):=app_le (by simp; omega) (by omega)
  have c2:Qp s=some s:=app_le (by simp; omega) (by omega)
  have e1:=gSize hP (by omega) (b:=⟨List.replicate s.length 0,s⟩) (wk_whole h0)
  simp only [f,if_false,Qe,if_true,c1,c2,Y0,QU,QZ,e1,Bool.false_eq_true]
  by_cases g:fullB (List.replicate s.length 0) s=true
  ·simp [g,fullX,Qe]
  ·simp [g,fullX,Qe]
theorem minusR_len:∀ (al ah cl ch:List Int),(minusR al ah cl ch).length≤2 * al.length
 | a::al,b::ah,c::cl,d::ch=>by
  have:=minusR_len al ah cl ch
  simp only [minusR,List.length_cons,List.length_map]; omega
 | [],_,_,_=>by simp [minusR]
 | _::_,[],_,_=>by simp [minusR]
 | _::_,_::_,[],_=>by simp [minusR]
 | _::_,_::_,_::_,[]=>by simp [minusR]
theorem minusR_wk:∀ {ss al ah cl ch:List Int},wkB ss al ah→inBox al ah cl ch→∀ x∈minusR al ah cl ch,wkB ss x.1 x.2
 | n::ss,a::al,b::ah,c::cl,d::ch,⟨⟨k1,k2,k3⟩,k4⟩,⟨i1,i2,i3,i4⟩,x,hx=>by
  rw [minusR] at hx
  rcases List.mem_cons.1 hx with rfl|hx
  ·exact ⟨⟨k1,i1,by omega⟩,k4⟩
  rcases List.mem_cons.1 hx with rfl|hx
  ·exact ⟨⟨by omega,i3,k3⟩,k4⟩
  obtain ⟨y,hy,rfl⟩:=List.mem_map.1 hx
  exact ⟨⟨by omega,i2,by omega⟩,minusR_wk k4 i4 y hy⟩
 | [],[],[],_,_,_,_,x,hx=>by simp [minusR] at hx
 | _::_,_::_,_::_,[],_,_,h,_,_=>by simp [inBox] at h
 | _::_,_::_,_::_,_::_,[],_,h,_,_=>by simp [inBox] at h
 | [],_::_,_,_,_,h,_,_,_=>by simp [wkB] at h
 | [],[],_::_,_,_,h,_,_,_=>by simp [wkB] at h
 | _::_,[],_,_,_,h,_,_,_=>by simp [wkB] at h
 | _::_,_::_,[],_,_,h,_,_,_=>by simp [wkB] at h
theorem filter_map_cons (c d x:Int) (i:List Int) (l:List (List Int × List Int)) :
  (l.map fun y=>(c::y.1,d::y.2)).filter (fun y=>inB y.1 y.2 (x::i))=if c≤x∧x < d then (l.filter fun y=>inB y.1 y.2 i).map fun y=>(c::y.1,d::y.2) else []:=by
 rw [List.filter_map]
 by_cases h:c≤x∧x < d
 ·rw [if_pos h]
  congr 1
  refine List.filter_congr fun y _=>?_
  simp [inB,h.1,h.2]
 ·rw [if_neg h]
  have:(l.filter ((fun y:List Int × List Int=>inB y.1 y.2 (x::i)) ∘ fun y=>(c::y.1,d::y.2)))=[]:=by
   refine List.filter_eq_nil_iff.2 fun y _=>?_
   simp only [Function.comp,inB,Bool.and_eq_true,decide_eq_true_eq]
   exact fun hh=>h hh.1
  rw [this]; rfl
theorem minus_parts:∀ (al ah cl ch i:List Int),inBox al ah cl ch→inB al ah i=true →
  (inB cl ch i=true→(minusR al ah cl ch).filter (fun y=>inB y.1 y.2 i)=[])∧(inB cl ch i=false→∃ q,(minusR al ah cl ch).filter (fun y=>inB y.1 y.2 i)=[q])
 | [],[],[],[],[],_,_=>⟨fun _=>rfl,fun h=>by simp [inB] at h⟩
 | a::al,b::ah,c::cl,d::ch,x::i,hb,hi=>by
  obtain ⟨h1,h2,h3,hb'⟩:=hb
  simp only [inB,Bool.and_eq_true,decide_eq_true_eq] at hi
  obtain ⟨ih1,ih2⟩:=minus_parts al ah cl ch i hb' hi.2
  have e0:inB (a::al) (c::ah) (x::i)=decide (x < c):=by simp [inB,hi.1.1,hi.2]
  have e1:inB (d::al) (b::ah) (x::i)=decide (d≤x):=by simp [inB,hi.1.2,hi.2]
  have ec:inB (c::cl) (d::ch) (x::i)=(decide (c≤x) && decide (x < d) && inB cl ch i):=rfl
  rw [minusR,List.filter_cons,List.filter_cons,filter_map_cons,ec]
  simp only [e0,e1]
  by_cases c1:x < c
  ·have n1:¬ d≤x:=by omega
   have n2:¬ (c≤x∧x < d):=by omega
   have n3:¬ c≤x:=by omega
   rw [if_neg n2]
   simp [c1,n1,n3]
  ·by_cases c2:d≤x
   ·have n2:¬ (c≤x∧x < d):=by omega
    have n3:¬ x < d:=by omega
    rw [if_neg n2]
    simp [c1,c2,n3]
   ·have y2:c≤x∧x < d:=by omega
    rw [if_pos y2]
    simp only [y2.1,y2.2,decide_true,Bool.true_and,c1,c2,decide_false]
    refine ⟨fun h=>by simp [ih1 h],fun h=>?_⟩
    obtain ⟨q,hq⟩:=ih2 h
    exact ⟨(c::q.1,d::q.2),by simp [hq]⟩
theorem inB_full:∀ {lo hi i:List Int},inB lo hi i=true→fullB lo hi=true
 | [],[],[],_=>rfl
 | l::lo,h::hi,x::i,H=>by
  simp only [inB,Bool.and_eq_true,decide_eq_true_eq] at H
  simp only [fullB,Bool.and_eq_true,decide_eq_true_eq]
  exact ⟨by omega,inB_full H.2⟩
theorem okB_lo:∀ {s lo hi:List Int},okB s lo hi→vld s lo=true∧inB lo hi lo=true
 | [],[],[],_=>⟨rfl,rfl⟩
 | n::s,l::lo,h::hi,⟨⟨k1,k2,k3⟩,k4⟩=>by
  obtain ⟨i1,i2⟩:=okB_lo k4
  simp only [vld,inB,i1,i2,Bool.and_true,Bool.and_eq_true,decide_eq_true_eq]
  omega
 | [],_::_,_,h=>by simp [okB] at h
 | [],[],_::_,h=>by simp [okB] at h
 | _::_,[],_,h=>by simp [okB] at h
 | _::_,_::_,[],h=>by simp [okB] at h
theorem vld_inB:∀ {s i:List Int},vld s i=true→inB (List.replicate s.length 0) s i=true
 | [],[],_=>rfl
 | n::s,x::i,h=>by
  simp only [vld,Bool.and_eq_true,decide_eq_true_eq] at h
  simp only [List.length_cons,List.replicate_succ,inB,Bool.and_eq_true,decide_eq_true_eq]
  exact ⟨h.1,vld_inB h.2⟩
 | [],_::_,h=>by cases h
 | _::_,[],h=>by cases h
def hasP (i:List Int) (x:Qa):Bool:=inB x.box.lo x.box.hi i
theorem count_full (i:List Int) (l:List Qa):(l.filter fullP).countP (hasP i)=l.countP (hasP i):=by
 rw [List.countP_filter]
 congr 1
 funext x
 unfold hasP fullP
 cases h:inB x.box.lo x.box.hi i with
 | false=>rfl
 | true=>simp [inB_full h]
theorem dist_of {s:List Int}:∀ {l:List Qa},(∀ x∈l,okB s x.box.lo x.box.hi)→(∀ i,vld s i=true→l.countP (hasP i)≤1)→l.Pairwise fun a b=>a.box.lo≠b.box.lo
 | [],_,_=>.nil
 | a::l,ho,hc=>by
  obtain ⟨v1,v2⟩:=okB_lo (ho a (List.mem_cons_self ..))
  refine List.pairwise_cons.2 ⟨fun b hb e=>?_,dist_of (fun x hx=>ho x (List.mem_cons_of_mem _ hx)) fun i hi=>?_⟩
  ·have h1:=hc a.box.lo v1
   rw [List.countP_cons_of_pos (by exact v2)] at h1
   have h2:0 < l.countP (hasP a.box.lo):=List.countP_pos_iff.2 ⟨b,hb,by rw [e]; exact (okB_lo (ho b (List.mem_cons_of_mem _ hb))).2⟩
   omega
  ·have:=hc i hi
   rw [List.countP_cons] at this
   omega
def fillA:Qk:=⟨1,0,0,[],0,0,0⟩
def fillB (b:Qj):Qa:=⟨b,fillA⟩
theorem rest_wk {s cl ch:List Int} (h0:∀ n∈s,0≤n) (hc:wkB s cl ch):∀ b∈restB s cl ch,wkB s b.lo b.hi:=fun b hb=>by
 have hb:=(List.mem_filter.1 hb).1
 by_cases f:fullB cl ch=true
 ·rw [if_pos f] at hb
  obtain ⟨x,hx,rfl⟩:=List.mem_map.1 hb
  exact minusR_wk (wk_whole h0) (wk_inBox hc) x hx
 ·rw [if_neg f] at hb
  simp only [List.mem_singleton] at hb
  subst hb
  exact wk_whole h0
theorem rest_len (s cl ch:List Int):(restB s cl ch).length≤2 * s.length+1:=by
 unfold restB
 refine Nat.le_trans (List.length_filter_le _ _) ?_
 split
 ·have:=minusR_len (List.replicate s.length 0) s cl ch
  simp at this ⊢; omega
 ·simp
theorem rest_count {s cl ch i:List Int} (a:Qk) (hc:wkB s cl ch) (hi:vld s i=true):((⟨⟨cl,ch⟩,a⟩:Qa)::(restB s cl ch).map fillB).countP (hasP i)=1:=by
 have hw:=vld_inB hi
 have e:((restB s cl ch).map fillB).countP (hasP i)=((if fullB cl ch then (minusR (List.replicate s.length 0) s cl ch).map fun x=>(⟨x.1,x.2⟩:Qj) else [⟨List.replicate s.length 0,s⟩])).countP (fun b=>inB b.lo b.hi i):=by
  rw [List.countP_map,restB,List.countP_filter]
  congr 1
  funext b
  show (inB b.lo b.hi i && fullB b.lo b.hi)=inB b.lo b.hi i
  cases h:inB b.lo b.hi i with
  | false=>rfl
  | true=>simp [inB_full h]
 rw [List.countP_cons,e]
 by_cases f:fullB cl ch=true
 ·rw [if_pos f,List.countP_map]
  have hm:=minus_parts (List.replicate s.length 0) s cl ch i (wk_inBox hc) hw
  have e2:(minusR (List.replicate s.length 0) s cl ch).countP ((fun b:Qj=>inB b.lo b.hi i) ∘ fun x=>(⟨x.1,x.2⟩:Qj))=((minusR (List.replicate s.length 0) s cl ch).filter fun y=>inB y.1 y.2 i).length:=List.countP_eq_length_filter
  rw [e2]
  unfold hasP
  cases g:inB cl ch i with
  | true=>rw [hm.1 g]; simp
  | false=>obtain ⟨q,hq⟩:=hm.2 g; rw [hq]; simp
 ·rw [if_neg f]
  unfold hasP
  have g:inB cl ch i=false:=by
   cases g:inB cl ch i with
   | false=>rfl
   | true=>exact absurd (inB_full g) f
  simp [g,hw]
section
variable {s st:List Int}
end
theorem inB_set:∀ (l h i:List Int) (k:Nat) (a b x:Int),i[k]? = some x→l.length=i.length→h.length=i.length →
  inB (l.set k a) (h.set k b) i=(decide (a≤x) && decide (x < b) && inB (l.eraseIdx k) (h.eraseIdx k) (i.eraseIdx k))
 | [],_,i,k,a,b,x,hx,hl,_=>by
  have:i=[]:=List.length_eq_zero_iff.1 hl.symm
  subst this; simp at hx
 | _::_,[],i,k,a,b,x,hx,_,hh=>by
  have:i=[]:=List.length_eq_zero_iff.1 hh.symm
  subst this; simp at hx
 | _::_,_::_,[],k,a,b,x,hx,_,_=>by simp at hx
 | c::l,d::h,y::i,0,a,b,x,hx,hl,hh=>by
  simp at hx; subst hx
  simp [inB]
 | c::l,d::h,y::i,k+1,a,b,x,hx,hl,hh=>by
  have ih:=inB_set l h i k a b x (by simpa using hx) (by simpa using hl) (by simpa using hh)
  simp only [List.set_cons_succ,inB,ih,List.eraseIdx_cons_succ]
  cases decide (c≤y) <;> cases decide (y < d) <;> cases decide (a≤x) <;> cases decide (x < b) <;> simp
theorem inB_at (l h i:List Int) (k:Nat) (a b x:Int) (hx:i[k]? = some x) (ha:l[k]? = some a) (hb:h[k]? = some b) (hl:l.length=i.length) (hh:h.length=i.length) :
  inB l h i=(decide (a≤x) && decide (x < b) && inB (l.eraseIdx k) (h.eraseIdx k) (i.eraseIdx k)):=by
 have s1:l.set k a=l:=by
  obtain ⟨hlt,e⟩:=List.getElem?_eq_some_iff.1 ha
  rw [← e,List.set_getElem_self]
 have s2:h.set k b=h:=by
  obtain ⟨hlt,e⟩:=List.getElem?_eq_some_iff.1 hb
  rw [← e,List.set_getElem_self]
 have:=inB_set l h i k a b x hx hl hh
 rwa [s1,s2] at this
theorem erase_set:∀ (l:List Int) (k:Nat) (a:Int),(l.set k a).eraseIdx k=l.eraseIdx k
 | [],k,a=>by simp
 | _::_,0,_=>by simp
 | _::l,k+1,a=>by simp [erase_set l k a]
theorem inB_move (l h i:List Int) (k:Nat) (a b x a' b' y:Int) (hx:i[k]? = some x) (ha:l[k]? = some a) (hb:h[k]? = some b) (hl:l.length=i.length) (hh:h.length=i.length) (q:Bool) (e:(decide (a'≤x) && decide (x < b'))=(q && (decide (a≤y) && decide (y < b)))) :
  inB (l.set k a') (h.set k b') i=(q && inB l h (i.set k y)):=by
 obtain ⟨hlt,_⟩:=List.getElem?_eq_some_iff.1 hx
 rw [inB_set l h i k a' b' x hx hl hh,inB_at l h (i.set k y) k a b y (by simp [hlt]) ha hb (by simpa using hl) (by simpa using hh),erase_set,e]
 simp [Bool.and_assoc]
theorem wk_at:∀ {s l h:List Int} {k:Nat} {n:Int},wkB s l h→s[k]? = some n→∃ a b,l[k]? = some a∧h[k]? = some b∧0≤a∧a≤b∧b≤n
 | [],_,_,_,_,_,hk=>by simp at hk
 | n::s,a::l,b::h,0,_,hb,hk=>by
  simp at hk; subst hk
  exact ⟨a,b,rfl,rfl,hb.1.1,hb.1.2.1,hb.1.2.2⟩
 | n::s,a::l,b::h,k+1,_,hb,hk=>by
  obtain ⟨x,y,e⟩:=wk_at hb.2 (by simpa using hk)
  exact ⟨x,y,by simpa using e⟩
 | _::_,[],_,_,_,h,_=>by simp [wkB] at h
 | _::_,_::_,[],_,_,h,_=>by simp [wkB] at h
theorem wk_set:∀ {s l h:List Int} {k:Nat} {a b m:Int},wkB s l h→0≤a→a≤b→b≤m→wkB (s.set k m) (l.set k a) (h.set k b)
 | [],[],[],_,_,_,_,_,_,_,_=>by simp [wkB]
 | n::s,c::l,d::h,0,a,b,m,hb,h1,h2,h3=>⟨⟨h1,h2,h3⟩,hb.2⟩
 | n::s,c::l,d::h,k+1,a,b,m,hb,h1,h2,h3=>⟨hb.1,wk_set hb.2 h1 h2 h3⟩
 | [],_::_,_,_,_,_,_,h,_,_,_=>by simp [wkB] at h
 | [],[],_::_,_,_,_,_,h,_,_,_=>by simp [wkB] at h
 | _::_,[],_,_,_,_,_,h,_,_,_=>by simp [wkB] at h
 | _::_,_::_,[],_,_,_,_,h,_,_,_=>by simp [wkB] at h
theorem set_same {s:List Int} {k:Nat} {n:Int} (h:s[k]? = some n):s.set k n=s:=by
 obtain ⟨hlt,e⟩:=List.getElem?_eq_some_iff.1 h
 rw [← e,List.set_getElem_self]
theorem ok_wk:∀ {s l h:List Int},okB s l h→wkB s l h
 | [],[],[],_=>trivial
 | n::s,a::l,b::h,H=>⟨⟨H.1.1,by have:=H.1.2.1; omega,H.1.2.2⟩,ok_wk H.2⟩
 | [],_::_,_,h=>by simp [okB] at h
 | [],[],_::_,h=>by simp [okB] at h
 | _::_,[],_,h=>by simp [okB] at h
 | _::_,_::_,[],h=>by simp [okB] at h
theorem vld_at:∀ {s i:List Int} {k:Nat} {n:Int},vld s i=true→s[k]? = some n→∃ x,i[k]? = some x∧0≤x∧x < n
 | [],_,_,_,_,h=>by simp at h
 | _::_,[],_,_,h,_=>by simp [vld] at h
 | _::s,x::i,0,n,h,hk=>by
  simp at hk; subst hk
  simp only [vld,Bool.and_eq_true,decide_eq_true_eq] at h
  exact ⟨x,rfl,h.1.1,h.1.2⟩
 | _::s,_::i,k+1,n,h,hk=>by
  simp only [vld,Bool.and_eq_true] at h
  obtain ⟨x,e,r⟩:=vld_at h.2 (by simpa using hk)
  exact ⟨x,by simpa using e,r⟩
theorem vld_set:∀ {s i:List Int} {k:Nat} {n y:Int},vld s i=true→0≤y→y < n→vld (s.set k n) (i.set k y)=true
 | [],[],_,_,_,_,_,_=>by simp [vld]
 | [],_::_,_,_,_,h,_,_=>by simp [vld] at h
 | _::_,[],_,_,_,h,_,_=>by simp [vld] at h
 | _::s,_::i,0,n,y,h,h0,hn=>by
  simp only [vld,Bool.and_eq_true] at h
  simp [vld,h0,hn,h.2]
 | _::s,_::i,k+1,n,y,h,h0,hn=>by
  simp only [vld,Bool.and_eq_true] at h
  simp only [List.set_cons_succ,vld,vld_set h.2 h0 hn,Bool.and_true]
  simpa using h.1
theorem inB_vld:∀ {s l h i:List Int},wkB s l h→inB l h i=true→vld s i=true
 | [],[],[],[],_,_=>rfl
 | [],[],[],_::_,_,h=>by simp [inB] at h
 | n::s,a::l,b::h,x::i,hb,hi=>by
  simp only [inB,Bool.and_eq_true,decide_eq_true_eq] at hi
  obtain ⟨⟨k1,k2,k3⟩,k4⟩:=hb
  simp only [vld,Bool.and_eq_true,decide_eq_true_eq]
  exact ⟨⟨by omega,by omega⟩,inB_vld k4 hi.2⟩
 | _::_,_::_,_::_,[],_,hi=>by simp [inB] at hi
 | [],_::_,_,_,h,_=>by simp [wkB] at h
 | [],[],_::_,_,h,_=>by simp [wkB] at h
 | _::_,[],_,_,h,_=>by simp [wkB] at h
 | _::_,_::_,[],_,h,_=>by simp [wkB] at h
def cutL (a f t:Int):Int:=if t < (if a < f then f else a) then t else (if a < f then f else a)
def cutH (a b f t:Int):Int:=if cutL a f t < (if t < b then t else b) then (if t < b then t else b) else cutL a f t
theorem cut_in {a b f t x d:Int} (h0:f≤t):(decide (cutL a f t+d≤x) && decide (x < cutH a b f t+d))=(decide (f≤x - d∧x - d < t) && (decide (a≤x - d) && decide (x - d < b))):=by
 have h:(cutL a f t+d≤x∧x < cutH a b f t+d)↔((f≤x - d∧x - d < t)∧(a≤x - d∧x - d < b)):=by
  unfold cutH cutL
  split <;> split <;> split <;> (try split) <;> omega
 rw [← Bool.decide_and,← Bool.decide_and,← Bool.decide_and]
 exact decide_eq_decide.2 h
theorem cut_bnd {a b f t:Int} (h0:0≤a) (h1:a≤b) (h2:0≤f) (h3:f≤t):0≤cutL a f t∧cutL a f t≤cutH a b f t∧f≤cutL a f t∧cutL a f t≤t∧cutH a b f t≤t:=by
 unfold cutH cutL
 split <;> split <;> split <;> (try split) <;> omega
theorem cut_hi {a b f t n:Int} (h1:a≤b) (h2:b≤n) (h3:f≤n):cutH a b f t≤n:=by
 unfold cutH cutL
 split <;> split <;> split <;> (try split) <;> omega
theorem inB_win:∀ {t st lo hi i:List Int},vld t i=true→lo.length=t.length→hi.length=t.length→st.length=t.length→(∀ x∈lo,0≤x∧x≤65536)→(∀ x∈hi,0≤x∧x≤65536)→(∀ x∈st,-65536≤x∧x≤65536) →
  inB (clo lo t st) (chi lo hi t st) i=inB lo hi (List.zipWith (·+·) i st)
 | [],[],[],[],[],_,_,_,_,_,_,_=>rfl
 | n::t,m::st,a::lo,b::hi,x::i,hv,h1,h2,h3,p1,p2,p3=>by
  simp only [vld,Bool.and_eq_true,decide_eq_true_eq] at hv
  obtain ⟨⟨v1,v2⟩,v3⟩:=hv
  have ih:=inB_win (t:=t) (st:=st) (lo:=lo) (hi:=hi) (i:=i) v3 (by simpa using h1) (by simpa using h2) (by simpa using h3) (fun x hx=>p1 x (List.mem_cons_of_mem _ hx)) (fun x hx=>p2 x (List.mem_cons_of_mem _ hx)) (fun x hx=>p3 x (List.mem_cons_of_mem _ hx))
  obtain ⟨a1,a2⟩:=p1 a (List.mem_cons_self ..)
  obtain ⟨b1,b2⟩:=p2 b (List.mem_cons_self ..)
  obtain ⟨m1,m2⟩:=p3 m (List.mem_cons_self ..)
  have w1:W (a - m)=a - m:=W_in (by omega) (by omega)
  have w2:W (b - m)=b - m:=W_in (by omega) (by omega)
  have h:(frm a n m≤x∧x < til a b n m)↔(a≤x+m∧x+m < b):=by
   unfold til frm
   rw [w1,w2]
   split <;> split <;> split <;> (try split) <;> (try split) <;> omega
  simp only [clo,chi,List.zipWith_cons_cons,inB,ih]
  congr 1
  rw [← Bool.decide_and,← Bool.decide_and]
  exact decide_eq_decide.2 h
 | [],_::_,_,_,_,_,_,_,h,_,_,_=>by simp at h
 | [],_,_::_,_,_,_,h,_,_,_,_,_=>by simp at h
 | [],_,_,_::_,_,_,_,h,_,_,_,_=>by simp at h
 | [],_,_,_,_::_,h,_,_,_,_,_,_=>by simp [vld] at h
 | _::_,[],_,_,_,_,_,_,h,_,_,_=>by simp at h
 | _::_,_,[],_,_,_,h,_,_,_,_,_=>by simp at h
 | _::_,_,_,[],_,_,_,h,_,_,_,_=>by simp at h
 | _::_,_,_,_,[],h,_,_,_,_,_,_=>by simp [vld] at h
theorem wk_bnd:∀ {s l h:List Int},(∀ n∈s,n≤65536)→wkB s l h→(∀ x∈l,0≤x∧x≤65536)∧(∀ x∈h,0≤x∧x≤65536)
 | [],[],[],_,_=>⟨fun x hx=>by simp at hx,fun x hx=>by simp at hx⟩
 | n::s,a::l,b::h,hn,⟨⟨k1,k2,k3⟩,k4⟩=>by
  obtain ⟨i1,i2⟩:=wk_bnd (fun m hm=>hn m (List.mem_cons_of_mem _ hm)) k4
  have:=hn n (List.mem_cons_self ..)
  refine ⟨fun x hx=>?_,fun x hx=>?_⟩
  ·rcases List.mem_cons.1 hx with rfl|hx
   ·omega
   ·exact i1 x hx
  ·rcases List.mem_cons.1 hx with rfl|hx
   ·omega
   ·exact i2 x hx
 | [],_::_,_,_,h=>by simp [wkB] at h
 | [],[],_::_,_,h=>by simp [wkB] at h
 | _::_,[],_,_,h=>by simp [wkB] at h
 | _::_,_::_,[],_,h=>by simp [wkB] at h
def perI (perm i:List Int):List Int:=perm.map fun j=>i.getD j.toNat 0
def perLo:List Int→List Int→List Int→List Int
 | j::ps,a::l,lo=>perLo ps l (lo.set j.toNat (if lo.getD j.toNat 0 < a then a else lo.getD j.toNat 0))
 | _,_,lo=>lo
def perHi:List Int→List Int→List Int→List Int
 | j::ps,b::h,hi=>perHi ps h (hi.set j.toNat (if b < hi.getD j.toNat 0 then b else hi.getD j.toNat 0))
 | _,_,hi=>hi
theorem perLo_len:∀ (ps l lo:List Int),(perLo ps l lo).length=lo.length
 | [],_,_=>rfl
 | _::_,[],_=>rfl
 | j::ps,a::l,lo=>by rw [perLo,perLo_len]; simp
theorem perHi_len:∀ (ps h hi:List Int),(perHi ps h hi).length=hi.length
 | [],_,_=>rfl
 | _::_,[],_=>rfl
 | j::ps,a::h,hi=>by rw [perHi,perHi_len]; simp
theorem getD_at {l:List Int} {k:Nat} {a:Int} (h:l[k]? = some a):l.getD k 0=a:=by rw [List.getD_eq_getElem?_getD,h]; rfl
theorem at_getD {l:List Int} {k:Nat} (h:k < l.length):l[k]? = some (l.getD k 0):=by simp [List.getD_eq_getElem?_getD,h]
theorem inB_per:∀ (perm l h lo hi i:List Int),l.length=perm.length→h.length=perm.length→lo.length=i.length→hi.length=i.length→(∀ j∈perm,0≤j∧j.toNat < i.length) →
  inB (perLo perm l lo) (perHi perm h hi) i=(inB lo hi i && inB l h (perI perm i))
 | [],[],[],lo,hi,i,_,_,_,_,_=>by simp [perLo,perHi,perI,inB]
 | j::perm,a::l,b::h,lo,hi,i,h1,h2,h3,h4,hp=>by
  obtain ⟨j0,j1⟩:=hp j (List.mem_cons_self ..)
  have ex:=at_getD j1
  have el:=at_getD (l:=lo) (k:=j.toNat) (by omega)
  have eh:=at_getD (l:=hi) (k:=j.toNat) (by omega)
  rw [perLo,perHi,inB_per perm l h _ _ i (by simpa using h1) (by simpa using h2) (by simpa using h3) (by simpa using h4) fun j hj=>hp j (List.mem_cons_of_mem _ hj)]
  have e:=inB_move lo hi i j.toNat (lo.getD j.toNat 0) (hi.getD j.toNat 0) (i.getD j.toNat 0) (if lo.getD j.toNat 0 < a then a else lo.getD j.toNat 0) (if b < hi.getD j.toNat 0 then b else hi.getD j.toNat 0) (i.getD j.toNat 0) ex el eh h3 h4 (decide (a≤i.getD j.toNat 0) && decide (i.getD j.toNat 0 < b)) (by
   rw [← Bool.decide_and,← Bool.decide_and,← Bool.decide_and,← Bool.decide_and]
   refine decide_eq_decide.2 ?_
   split <;> split <;> omega)
  rw [e,set_same ex]
  simp only [perI,List.map_cons,inB]
  cases (decide (a≤i.getD j.toNat 0) && decide (i.getD j.toNat 0 < b)) <;> simp
 | [],_::_,_,_,_,_,h,_,_,_,_=>by simp at h
 | [],_,_::_,_,_,_,_,h,_,_,_=>by simp at h
 | _::_,[],_,_,_,_,h,_,_,_,_=>by simp at h
 | _::_,_,[],_,_,_,_,h,_,_,_=>by simp at h
def wfA (r:Nat) (a:Qk):Prop:=a.kind=1∨(a.kind=2∨a.kind=3)∧a.strides.length=r
structure Inv (P:Qa→Prop) (s:List Int) (l:List Qa):Prop where
 box:∀ x∈l,okB s x.box.lo x.box.hi
 acc:∀ x∈l,wfA s.length x.access
 prp:∀ x∈l,P x
 cnt:∀ i,vld s i=true→l.countP (hasP i)=1
 srt:strictT l=true
structure Pre (P:Qa→Prop) (s:List Int) (l:List Qa):Prop where
 box:∀ x∈l,qkB s x.box.lo x.box.hi
 acc:∀ x∈l,wfA s.length x.access
 prp:∀ x∈l,fullP x=true→P x
 cnt:∀ i,vld s i=true→l.countP (hasP i)=1
theorem sub_len {α:Type} [DecidableEq α]:∀ {l m:List α},l.Nodup→(∀ x∈l,x∈m)→l.length≤m.length
 | [],_,_,_=>Nat.zero_le _
 | a::l,m,hn,hs=>by
  obtain ⟨h1,h2⟩:=List.nodup_cons.1 hn
  have ha:=hs a (List.mem_cons_self ..)
  have ih:=sub_len (m:=m.erase a) h2 fun x hx=>(List.mem_erase_of_ne (fun e=>h1 (by rw [← e]; exact hx))).2 (hs x (List.mem_cons_of_mem _ hx))
  rw [List.length_erase_of_mem ha] at ih
  have:=List.length_pos_of_mem ha
  simp only [List.length_cons]; omega
section
variable {P Q:Qa→Prop} {s s':List Int} {l L:List Qa}
theorem Inv.dist (h:Inv P s l):l.Pairwise fun a b=>a.box.lo≠b.box.lo:=dist_of h.box fun i hi=>by have:=h.cnt i hi; omega
theorem Inv.len (h:Inv P s l) (h0:∀ n∈s,0≤n):(l.length:Int)≤prodI s:=by
 rw [← allL_len h0]
 have hn:(l.map fun x=>x.box.lo).Nodup:=List.pairwise_map.2 h.dist
 have:=sub_len hn (m:=allL s) fun i hi=>by
  obtain ⟨x,hx,rfl⟩:=List.mem_map.1 hi
  exact mem_allL.2 (okB_lo (h.box x hx)).1
 simp only [List.length_map] at this
 omega
theorem Inv.wk (h:Inv P s l):∀ x∈l,wkB s x.box.lo x.box.hi:=fun x hx=>ok_wk (h.box x hx)
theorem Inv.mono (h:Inv P s l) (hp:∀ x∈l,P x→Q x):Inv Q s l:=⟨h.box,h.acc,fun x hx=>hp x hx (h.prp x hx),h.cnt,h.srt⟩
theorem Pre.listed (h:Pre P s L) (hc:checkR s=0) (hL:L.length≤100000):Q8 L=some (sortT (L.filter fullP))∧Inv P s (sortT (L.filter fullP)):=by
 obtain ⟨h1,h2,h3⟩:=checkR_ok hc
 have hok:∀ x∈L.filter fullP,okB s x.box.lo x.box.hi:=fun x hx=>by
  obtain ⟨k1,k2⟩:=List.mem_filter.1 hx
  exact (h.box x k1).2.2 k2
 have hct:∀ i,vld s i=true→(L.filter fullP).countP (hasP i)=1:=fun i hi=>by rw [count_full]; exact h.cnt i hi
 have hd:=dist_of hok fun i hi=>by have:=hct i hi; omega
 have hp:=sortT_perm (L.filter fullP)
 refine ⟨listed_ok h2 (by omega) hL h.box hd,⟨fun x hx=>hok x (hp.mem_iff.1 hx),fun x hx=>h.acc x (List.mem_filter.1 (hp.mem_iff.1 hx)).1,fun x hx=>?_,fun i hi=>(hp.countP_eq _).trans (hct i hi),sort_strict hd⟩⟩
 obtain ⟨k1,k2⟩:=List.mem_filter.1 (hp.mem_iff.1 hx)
 exact h.prp x k1 k2
end
theorem W_len {α:Type} {p:List α} {x:α} (h:p.length≤100000):W ((p.length:Int)+1)=((p++[x]).length:Int):=by
 rw [W_in (by omega) (by omega)]; simp
theorem cnt_flat {i j:List Int} {f:Qa→List Qa}:∀ {l:List Qa},(∀ x∈l,(f x).countP (hasP i)=if hasP j x then 1 else 0)→(l.flatMap f).countP (hasP i)=l.countP (hasP j)
 | [],_=>rfl
 | x::l,h=>by
  rw [List.flatMap_cons,List.countP_append,h x (List.mem_cons_self ..),cnt_flat fun y hy=>h y (List.mem_cons_of_mem _ hy),List.countP_cons]
  omega
theorem cnt_map {i j:List Int} {f:Qa→Qa} {l:List Qa} (h:∀ x∈l,hasP i (f x)=hasP j x):(l.map f).countP (hasP i)=l.countP (hasP j):=by
 rw [List.countP_map]
 exact List.countP_congr fun x hx=>by simp [h x hx]
def addA (a:Qk) (n:Int) (st:List Int):Qk :=
 if a.kind=1 then a else if a.kind=3 then ⟨a.kind,a.buffer,a.base,st,W (a.start+n),a.step,a.mod⟩ else ⟨a.kind,a.buffer,W (a.base+n),st,a.start,a.step,a.mod⟩
def shfA (a:Qk) (k:Nat) (n:Int):Qk:=addA a (W (n * a.strides.getD k 0)) a.strides
def flpA (a:Qk) (k:Nat) (n:Int):Qk:=addA a (W (W (n - 1) * a.strides.getD k 0)) (a.strides.set k (W (0 - a.strides.getD k 0)))
theorem add_kind (a:Qk) (n:Int) (st:List Int):(addA a n st).kind=a.kind:=by unfold addA; split <;> (try split) <;> rfl
theorem add_wf {r:Nat} {a:Qk} {n:Int} {st:List Int} (h:wfA r a) (hs:st.length=a.strides.length):wfA r (addA a n st):=by
 rcases h with h|⟨h1,h2⟩
 ·left; rw [add_kind]; exact h
 ·right
  refine ⟨by rw [add_kind]; exact h1,?_⟩
  unfold addA
  rw [if_neg (by omega)]
  split
  ·exact hs.trans h2
  ·exact hs.trans h2
theorem shf_wf {r:Nat} {a:Qk} {k:Nat} {n:Int} (h:wfA r a):wfA r (shfA a k n):=add_wf h rfl
theorem flp_wf {r:Nat} {a:Qk} {k:Nat} {n:Int} (h:wfA r a):wfA r (flpA a k n):=add_wf h (by simp)
theorem clone_le {l:List Int} (h:l.length≤600):Qp l=some l:=app_le (by simp; omega) (by omega)
theorem getD_el {l:List Int} {k:Nat} (h:k < l.length):l.getD k 0=l[k]:=by simp [List.getD_eq_getElem?_getD,h]
theorem shf_ok {r:Nat} {a:Qk} {k:Nat} (n:Int) (h:wfA r a) (hk:k < r) (hr:r≤600):Ye (a,(k:Int),n)=some (shfA a k n):=by
 obtain ⟨kd,bu,ba,st,sa,sp,md⟩:=a
 rcases h with h|⟨h1,h2⟩
 ·simp only at h
  subst h
  simp only [Ye,Yg,if_true,Qe,shfA,addA]
 ·simp only at h1 h2
  have g1:¬ kd=1:=by omega
  have hi:idx st (k:Int)=some (st.getD k 0):=by rw [getD_el (by omega)]; exact idx_ok (by omega)
  simp only [Ye,Yg,g1,if_false,Z7,clone_le (show st.length≤600 by omega),Qe,shfA,addA]
  rcases h1 with rfl|rfl
  ·simp only [show ¬ (2:Int)=3 by decide,if_false,Qe,Z5,Zx,hi,Zl]
  ·simp only [if_true,Qe,Z5,Zx,hi,Zl]
theorem flp_ok {r:Nat} {a:Qk} {k:Nat} (n:Int) (h:wfA r a) (hk:k < r) (hr:r≤600):Xi (a,(k:Int),n)=some (flpA a k n):=by
 obtain ⟨kd,bu,ba,st,sa,sp,md⟩:=a
 rcases h with h|⟨h1,h2⟩
 ·simp only at h
  subst h
  simp only [Xi,Yh,if_true,Qe,flpA,addA]
 ·simp only at h1 h2
  have g1:¬ kd=1:=by omega
  have hi:idx st (k:Int)=some (st.getD k 0):=by rw [getD_el (by omega)]; exact idx_ok (by omega)
  have hs:setM st (k:Int) (W (0 - st.getD k 0))=some (st.set k (W (0 - st.getD k 0))):=setM_ok (by omega)
  have hg:ZE ((st.set k (W (0 - st.getD k 0))).length=st.length)=some ():=guardM_ok (by simp)
  simp only [Xi,Yh,g1,if_false,Z7,clone_le (show st.length≤600 by omega),Qe,flpA,addA]
  rcases h1 with rfl|rfl
  ·simp only [show ¬ (2:Int)=3 by decide,if_false,Qe,Z9,ZF,Zy,hi,hs,Zk,hg]
  ·simp only [if_true,Qe,Z9,ZF,Zy,hi,hs,Zk,hg]
def revP (k:Nat) (n:Int) (x:Qa):Qa:=⟨⟨x.box.lo.set k (n - x.box.hi.getD k 0),x.box.hi.set k (n - x.box.lo.getD k 0)⟩,flpA x.access k n⟩
theorem idx_at {l:List Int} {k:Nat} {a:Int} (h:l[k]? = some a):idx l (k:Int)=some a:=idx_of h
theorem lt_at {l:List Int} {k:Nat} {a:Int} (h:l[k]? = some a):k < l.length:=(List.getElem?_eq_some_iff.1 h).1
theorem revW_ok {lo hi:List Int} {k:Nat} {n a b:Int} (ha:lo[k]? = some a) (hb:hi[k]? = some b) (h0:0≤a) (h1:a≤b) (h2:b≤n) (h3:n≤65536) (hl:lo.length≤600) (hh:hi.length≤600) (c1 c2 c3:Int) (c4:List Int) (c5 c6 c7 d1 d2 d3:Int) (d4:List Int) (d5 d6 d7:Int) (g:Nat) :
  Yz (lo,hi,c1,c2,c3,c4,c5,c6,c7,(k:Int),n,d1,d2,d3,d4,d5,d6,d7,g)=some (lo.set k (n - b),hi.set k (n - a),lo.length,hi.length,lo.set k (n - b),hi.set k (n - a)):=by
 have w1:W (n - b)=n - b:=W_in (by omega) (by omega)
 have w2:W (n - a)=n - a:=W_in (by omega) (by omega)
 simp only [Yz,clone_le hl,clone_le hh,Qe,idx_at ha,idx_at hb,Yk,w1,w2,setM_ok (lt_at ha),setM_ok (lt_at hb),guardM_ok (List.length_set)]
theorem Rev_L1 {s:List Int} {k:Nat} {n:Int} (hk:s[k]? = some n) (hn:n≤65536) (hs:s.length≤600):∀ (l p out:List Qa),p.length+l.length≤50000→out.length≤p.length→(∀ x∈l,wkB s x.box.lo x.box.hi∧wfA s.length x.access) →
  Zd (p++l,(k:Int),n,out,(p.length:Int))=some (out++l.map (revP k n))
 | [],p,out,h,ho,hw=>by
  rw [Zd]
  simp only [Zc,if_false,List.map_nil]; simp only [List.append_nil]
 | x::l,p,out,h,ho,hw=>by
  rw [Zd]
  obtain ⟨hb,ha⟩:=hw x (List.mem_cons_self ..)
  obtain ⟨l1,l2⟩:=wk_len hb
  obtain ⟨a,b,e1,e2,k0,k1,k2⟩:=wk_at hb hk
  have ih:=Rev_L1 hk hn hs l (p++[x]) (out++[revP k n x]) (by simp at h ⊢; omega) (by simp; omega) (fun y hy=>hw y (List.mem_cons_of_mem _ hy))
  rw [← Qv] at ih
  have h':p.length≤100000:=by simp at h; omega
  have hx:app 120 out [revP k n x]=some (out++[revP k n x]):=app_le (by simp at h ⊢; omega) (by omega)
  simp only [revP,getD_at e1,getD_at e2] at hx ih
  simp only [Zg,if_true,Qz,Qe,flp_ok n ha (lt_at hk) hs,revW_ok e1 e2 k0 k1 k2 hn (show x.box.lo.length≤600 by omega) (show x.box.hi.length≤600 by omega),hx,W_len (x:=x) h',ih,List.map_cons,revP,getD_at e1,getD_at e2,List.append_assoc,List.singleton_append]
theorem rev_has {s i:List Int} {k:Nat} {n y:Int} {x:Qa} (hb:wkB s x.box.lo x.box.hi) (hk:s[k]? = some n) (hi:i[k]? = some y) (hl:s.length=i.length):hasP i (revP k n x)=hasP (i.set k (n - 1 - y)) x:=by
 obtain ⟨l1,l2⟩:=wk_len hb
 obtain ⟨a,b,e1,e2,k0,k1,k2⟩:=wk_at hb hk
 unfold hasP revP
 simp only [getD_at e1,getD_at e2]
 rw [inB_move _ _ i k a b y (n - b) (n - a) (n - 1 - y) hi e1 e2 (by omega) (by omega) true ?_,Bool.true_and]
 rw [Bool.true_and,← Bool.decide_and,← Bool.decide_and]
 exact decide_eq_decide.2 (by omega)
def movP (k:Nat) (f t d:Int) (x:Qa):Qa:=⟨⟨x.box.lo.set k (cutL (x.box.lo.getD k 0) f t+d),x.box.hi.set k (cutH (x.box.lo.getD k 0) (x.box.hi.getD k 0) f t+d)⟩,shfA x.access k (W (0 - d))⟩
theorem mov_ok {s:List Int} {k:Nat} {n f t d:Int} {x:Qa} (hk:s[k]? = some n) (hn:n≤65536) (hs:s.length≤600) (hb:wkB s x.box.lo x.box.hi) (ha:wfA s.length x.access) (h0:0≤f) (h1:f≤t) (h2:t≤65536) (h3:-65536≤d) (h4:d≤65536):Yu (x,(k:Int),f,t,d)=some (movP k f t d x):=by
 obtain ⟨l1,l2⟩:=wk_len hb
 obtain ⟨a,b,e1,e2,k0,k1,k2⟩:=wk_at hb hk
 obtain ⟨q1,q2,q3,q4,q5⟩:=cut_bnd k0 k1 h0 h1
 have w1:W (cutL a f t+d)=cutL a f t+d:=W_in (by omega) (by omega)
 have w2:W (cutH a b f t+d)=cutH a b f t+d:=W_in (by omega) (by omega)
 have s1:setM x.box.lo (k:Int) (W (cutL a f t+d))=some (x.box.lo.set k (cutL a f t+d)):=by rw [w1]; exact setM_ok (lt_at e1)
 have s2:setM x.box.hi (k:Int) (W (cutH a b f t+d))=some (x.box.hi.set k (cutH a b f t+d)):=by rw [w2]; exact setM_ok (lt_at e2)
 unfold cutH cutL at s2
 unfold cutL at s1
 simp only [Yu,shf_ok (W (0 - d)) ha (lt_at hk) hs,Qe,Y9,clone_le (show x.box.lo.length≤600 by omega),clone_le (show x.box.hi.length≤600 by omega),idx_at e1,idx_at e2,YB]
 rw [s1,Qe,s2,Qe]
 rw [guardM_ok (List.length_set),Qe,guardM_ok (List.length_set),Qe,Qe]
 simp only [movP,getD_at e1,getD_at e2,cutL,cutH]
theorem mov_has {s i:List Int} {k:Nat} {n f t d y:Int} {x:Qa} (hb:wkB s x.box.lo x.box.hi) (hk:s[k]? = some n) (h1:f≤t) (hi:i[k]? = some y) (hl:s.length=i.length):hasP i (movP k f t d x)=(decide (f≤y - d∧y - d < t) && hasP (i.set k (y - d)) x):=by
 obtain ⟨l1,l2⟩:=wk_len hb
 obtain ⟨a,b,e1,e2,k0,k1,k2⟩:=wk_at hb hk
 unfold hasP movP
 simp only [getD_at e1,getD_at e2]
 exact inB_move _ _ i k a b y _ _ (y - d) hi e1 e2 (by omega) (by omega) _ (cut_in h1)
theorem mov_wk {s:List Int} {k:Nat} {n f t d m:Int} {x:Qa} (hb:wkB s x.box.lo x.box.hi) (hk:s[k]? = some n) (h0:0≤f) (h1:f≤t) (h2:0≤f+d) (h3:t+d≤m∨(f≤n∧n+d≤m)):wkB (s.set k m) (movP k f t d x).box.lo (movP k f t d x).box.hi:=by
 obtain ⟨a,b,e1,e2,k0,k1,k2⟩:=wk_at hb hk
 obtain ⟨q1,q2,q3,q4,q5⟩:=cut_bnd k0 k1 h0 h1
 unfold movP
 simp only [getD_at e1,getD_at e2]
 refine wk_set hb (by omega) (by omega) ?_
 rcases h3 with h3|⟨h3,h4⟩
 ·omega
 ·have:=cut_hi (a:=a) (b:=b) (f:=f) (t:=t) (n:=n) k1 k2 h3
  omega
def rotP (k:Nat) (m n:Int) (x:Qa):List Qa:=[movP k m n (0 - m) x,movP k 0 m (n - m) x]
theorem Rot_L1 {s:List Int} {k:Nat} {m n:Int} (hk:s[k]? = some n) (hn:n≤65536) (hs:s.length≤600) (h0:0≤m) (hm:m≤n):∀ (l p out:List Qa),p.length+l.length≤50000→out.length≤2 * p.length→(∀ x∈l,wkB s x.box.lo x.box.hi∧wfA s.length x.access) →
  ZB (p++l,(k:Int),m,n,out,(p.length:Int))=some (out++l.flatMap (rotP k m n))
 | [],p,out,h,ho,hw=>by
  rw [ZB]
  simp only [Zc,if_false,List.flatMap_nil]; simp only [List.append_nil]
 | x::l,p,out,h,ho,hw=>by
  rw [ZB]
  obtain ⟨hb,ha⟩:=hw x (List.mem_cons_self ..)
  have ih:=Rot_L1 hk hn hs h0 hm l (p++[x]) (out++rotP k m n x) (by simp at h ⊢; omega) (by simp [rotP]; omega) (fun y hy=>hw y (List.mem_cons_of_mem _ hy))
  rw [← Qv] at ih
  have h':p.length≤100000:=by simp at h; omega
  have w1:W (0 - m)=0 - m:=W_in (by omega) (by omega)
  have w2:W (n - m)=n - m:=W_in (by omega) (by omega)
  have hx:app 120 out [movP k m n (0 - m) x,movP k 0 m (n - m) x]=some (out++rotP k m n x):=app_le (by simp at h ⊢; omega) (by omega)
  simp only [Zg,if_true,Qz,Qe,w1,w2,mov_ok hk hn hs hb ha h0 hm hn (show -65536≤0 - m by omega) (show 0 - m≤65536 by omega),mov_ok hk hn hs hb ha (Int.le_refl 0) h0 (show m≤65536 by omega) (show -65536≤n - m by omega) (show n - m≤65536 by omega),hx,W_len (x:=x) h',ih,List.flatMap_cons,List.append_assoc]
section
variable {P Q:Qa→Prop} {s:List Int} {l:List Qa} {k:Nat} {n:Int}
theorem Inv.len4 (h:Inv P s l) (hc:checkR s=0) (hP:prodI s≤20000):l.length≤20000:=by
 have:=h.len fun n hn=>((checkR_ok hc).2.2 n hn).1
 omega
theorem Rev_inv (h:Inv P s l) (hc:checkR s=0) (hP:prodI s≤20000) (hk:s[k]? = some n) (hQ:∀ x∈l,okB s x.box.lo x.box.hi→wfA s.length x.access→P x→Q (revP k n x)) :
  Xh (l,(k:Int),n)=some (sortT ((l.map (revP k n)).filter fullP))∧Inv Q s (sortT ((l.map (revP k n)).filter fullP)):=by
 obtain ⟨h1,h2,h3⟩:=checkR_ok hc
 have hll:=h.len4 hc hP
 have hn:=h3 n (List.mem_of_getElem? hk)
 have e:=Rev_L1 hk hn.2 (by omega) l [] [] (by simpa using by omega) (by simp) (fun x hx=>⟨h.wk x hx,h.acc x hx⟩)
 have e':Zd (l,(k:Int),n,[],0)=some (l.map (revP k n)):=e
 have hp:Pre Q s (l.map (revP k n)):=by
  refine ⟨fun y hy=>?_,fun y hy=>?_,fun y hy _=>?_,fun i hi=>?_⟩
  ·obtain ⟨x,hx,rfl⟩:=List.mem_map.1 hy
   obtain ⟨a,b,e1,e2,k0,k1,k2⟩:=wk_at (h.wk x hx) hk
   have:=wk_set (k:=k) (a:=n - b) (b:=n - a) (m:=n) (h.wk x hx) (by omega) (by omega) (by omega)
   rw [set_same hk] at this
   simp only [revP,getD_at e1,getD_at e2]
   exact wk_qk this
  ·obtain ⟨x,hx,rfl⟩:=List.mem_map.1 hy
   exact flp_wf (h.acc x hx)
  ·obtain ⟨x,hx,rfl⟩:=List.mem_map.1 hy
   exact hQ x hx (h.box x hx) (h.acc x hx) (h.prp x hx)
  ·obtain ⟨y,ey,y0,y1⟩:=vld_at hi hk
   rw [cnt_map fun x hx=>rev_has (h.wk x hx) hk ey (vld_len hi)]
   have:=vld_set (k:=k) (n:=n) (y:=n - 1 - y) hi (by omega) (by omega)
   rw [set_same hk] at this
   exact h.cnt _ this
 obtain ⟨q1,q2⟩:=hp.listed hc (by simp; omega)
 refine ⟨?_,q2⟩
 unfold Xh
 simp only [e',Qe,q1]
theorem Rot_inv {m:Int} (h:Inv P s l) (hc:checkR s=0) (hP:prodI s≤20000) (hk:s[k]? = some n) (h0:0≤m) (hm:m≤n) (hQ:∀ x∈l,okB s x.box.lo x.box.hi→wfA s.length x.access→P x→∀ y∈rotP k m n x,fullP y=true→Q y) :
  Xx (l,(k:Int),m,n)=some (sortT ((l.flatMap (rotP k m n)).filter fullP))∧Inv Q s (sortT ((l.flatMap (rotP k m n)).filter fullP)):=by
 obtain ⟨h1,h2,h3⟩:=checkR_ok hc
 have hll:=h.len4 hc hP
 have hn:=h3 n (List.mem_of_getElem? hk)
 have e:=Rot_L1 hk hn.2 (by omega) h0 hm l [] [] (by simpa using by omega) (by simp) (fun x hx=>⟨h.wk x hx,h.acc x hx⟩)
 have e':ZB (l,(k:Int),m,n,[],0)=some (l.flatMap (rotP k m n)):=e
 have hlen:∀ l:List Qa,(l.flatMap (rotP k m n)).length=2 * l.length:=fun l=>by
  induction l with
  | nil=>rfl
  | cons a l ih=>rw [List.flatMap_cons,List.length_append,ih]; simp [rotP]; omega
 have hp:Pre Q s (l.flatMap (rotP k m n)):=by
  refine ⟨fun y hy=>?_,fun y hy=>?_,fun y hy hf=>?_,fun i hi=>?_⟩
  ·obtain ⟨x,hx,hy⟩:=List.mem_flatMap.1 hy
   have hb:=h.wk x hx
   simp only [rotP,List.mem_cons,List.not_mem_nil,or_false] at hy
   have hs:=set_same hk
   rcases hy with rfl|rfl
   ·have:=mov_wk (m:=n) (t:=n) (f:=m) (d:=0 - m) hb hk h0 hm (by omega) (.inl (by omega))
    rw [hs] at this
    exact wk_qk this
   ·have:=mov_wk (m:=n) (t:=m) (f:=0) (d:=n - m) hb hk (Int.le_refl 0) h0 (by omega) (.inl (by omega))
    rw [hs] at this
    exact wk_qk this
  ·obtain ⟨x,hx,hy⟩:=List.mem_flatMap.1 hy
   simp only [rotP,List.mem_cons,List.not_mem_nil,or_false] at hy
   rcases hy with rfl|rfl <;> exact shf_wf (h.acc x hx)
  ·obtain ⟨x,hx,hy⟩:=List.mem_flatMap.1 hy
   exact hQ x hx (h.box x hx) (h.acc x hx) (h.prp x hx) y hy hf
  ·obtain ⟨y,ey,y0,y1⟩:=vld_at hi hk
   have hl:=vld_len hi
   have hs:=set_same hk
   by_cases c:y < n - m
   ·rw [cnt_flat (j:=i.set k (y+m)) fun x hx=>?_]
    ·have:=vld_set (k:=k) (n:=n) (y:=y+m) hi (by omega) (by omega)
     rw [hs] at this
     exact h.cnt _ this
    ·have hb:=h.wk x hx
     have e1:=mov_has (f:=m) (t:=n) (d:=0 - m) hb hk hm ey hl
     have e2:=mov_has (f:=0) (t:=m) (d:=n - m) hb hk h0 ey hl
     rw [decide_eq_true (show m≤y - (0 - m)∧y - (0 - m) < n by omega),Bool.true_and,show y - (0 - m)=y+m by omega] at e1
     rw [decide_eq_false (show ¬ (0≤y - (n - m)∧y - (n - m) < m) by omega),Bool.false_and] at e2
     simp only [rotP,List.countP_cons,List.countP_nil,e1,e2,Bool.false_eq_true,if_false,Nat.zero_add]
   ·rw [cnt_flat (j:=i.set k (y - (n - m))) fun x hx=>?_]
    ·have:=vld_set (k:=k) (n:=n) (y:=y - (n - m)) hi (by omega) (by omega)
     rw [hs] at this
     exact h.cnt _ this
    ·have hb:=h.wk x hx
     have e1:=mov_has (f:=m) (t:=n) (d:=0 - m) hb hk hm ey hl
     have e2:=mov_has (f:=0) (t:=m) (d:=n - m) hb hk h0 ey hl
     rw [decide_eq_false (show ¬ (m≤y - (0 - m)∧y - (0 - m) < n) by omega),Bool.false_and] at e1
     rw [decide_eq_true (show 0≤y - (n - m)∧y - (n - m) < m by omega),Bool.true_and] at e2
     simp only [rotP,List.countP_cons,List.countP_nil,e1,e2,Bool.false_eq_true,if_false,Nat.zero_add,Nat.add_zero]
 obtain ⟨q1,q2⟩:=hp.listed hc (by rw [hlen]; omega)
 refine ⟨?_,q2⟩
 unfold Xx
 simp only [e',Qe,q1]
end
theorem setM_mid {α:Type} {p s:List α} {x y:α}:setM (p++x::s) (p.length:Int) y=some (p++y::s):=by
 simp [setM]
theorem Cat_L1 {s:List Int} {k:Nat} {m n:Int} (hk:s[k]? = some m) (hm:m≤65536) (h0:0≤n) (hn:n≤65536) (hs:s.length≤600) (p0:List Qa):∀ (l p:List Qa) (g:Nat) (out:List Qa),p.length+l.length≤50000→out.length≤p.length+30000→(∀ x∈l,wkB s x.box.lo x.box.hi∧wfA s.length x.access) →
  ∃ g',Q6 (p++l,(k:Int),n,p0,g,out,(p.length:Int))=some (g',out++l.map (movP k 0 65536 n))
 | [],p,g,out,h,ho,hw=>by
  rw [Q6]
  simp only [Zc,if_false,List.map_nil]; exact ⟨g,by simp only [List.append_nil]⟩
 | x::l,p,g,out,h,ho,hw=>by
  rw [Q6]
  obtain ⟨hb,ha⟩:=hw x (List.mem_cons_self ..)
  obtain ⟨g',ih⟩:=Cat_L1 hk hm h0 hn hs p0 l (p++[x]) (g+1) (out++[movP k 0 65536 n x]) (by simp at h ⊢; omega) (by simp; omega) (fun y hy=>hw y (List.mem_cons_of_mem _ hy))
  rw [← Qv] at ih
  have h':p.length≤100000:=by simp at h; omega
  have hx:app 120 out [movP k 0 65536 n x]=some (out++[movP k 0 65536 n x]):=app_le (by simp at h ⊢; omega) (by omega)
  refine ⟨g',?_⟩
  simp only [Zg,if_true,Qz,Qe,mov_ok hk hm hs hb ha (Int.le_refl 0) (show (0:Int)≤65536 by decide) (Int.le_refl 65536) (show -65536≤n by omega) hn,hx,W_len (x:=x) h',ih,List.map_cons,List.append_assoc,List.singleton_append]
theorem Cat_L2 {s:List Int} {k:Nat} {m:Int} (hk:s[k]? = some m) (hm:m≤65536) (hs:s.length≤600) (p0 v603:List Qa) (v602:Nat) (tl:List Qa) (hv:p0.length≤v603.length) (hp0:p0.length≤50000):∀ (l p:List Qa),p.length+l.length=p0.length→(∀ x∈l,wkB s x.box.lo x.box.hi∧wfA s.length x.access) →
  Q7 (p0,(k:Int),v603,v602,p++(l++tl),(p.length:Int))=some (p++(l.map (movP k 0 65536 0)++tl))
 | [],p,h,hw=>by
  rw [Q7]
  have:¬ ((p.length:Int) < (p0.length:Int)):=by simp at h; omega
  simp only [this,if_false]; rfl
 | x::l,p,h,hw=>by
  rw [Q7]
  obtain ⟨hb,ha⟩:=hw x (List.mem_cons_self ..)
  have hl:p.length < p0.length:=by simp at h; omega
  have ih:=Cat_L2 hk hm hs p0 v603 v602 tl hv hp0 l (p++[movP k 0 65536 0 x]) (by simp at h ⊢; omega) (fun y hy=>hw y (List.mem_cons_of_mem _ hy))
  have g1:((p.length:Int) < (p0.length:Int)):=by omega
  have g2:ZE (0≤(p.length:Int)∧(p.length:Int).toNat < p0.length)=some ():=guardM_ok ⟨by omega,by omega⟩
  have g3:ZE (0≤(p.length:Int)∧(p.length:Int).toNat < v603.length)=some ():=guardM_ok ⟨by omega,by omega⟩
  have hW:W ((p.length:Int)+1)=((p++[movP k 0 65536 0 x]).length:Int):=W_len (by omega)
  rw [List.cons_append]
  simp only [g1,if_true,g2,Qe,Qz,mov_ok hk hm hs hb ha (Int.le_refl 0) (show (0:Int)≤65536 by decide) (Int.le_refl 65536) (show (-65536:Int)≤0 by decide) (show (0:Int)≤65536 by decide),g3,setM_mid,hW]
  rw [Qv,ih]
  simp
section
variable {P1 P2 Q:Qa→Prop} {s:List Int} {l1 l2:List Qa} {k:Nat} {n1 n2:Int}
theorem Cat_inv (h1:Inv P1 (s.set k n1) l1) (h2:Inv P2 (s.set k n2) l2) (hc:checkR s=0) (hP:prodI s≤20000) (hc1:checkR (s.set k n1)=0) (hc2:checkR (s.set k n2)=0) (hP1:prodI (s.set k n1)≤20000) (hP2:prodI (s.set k n2)≤20000) (hk:s[k]? = some (n1+n2))
  (hQ1:∀ x∈l1,okB (s.set k n1) x.box.lo x.box.hi→wfA s.length x.access→P1 x→Q (movP k 0 65536 0 x)) (hQ2:∀ x∈l2,okB (s.set k n2) x.box.lo x.box.hi→wfA s.length x.access→P2 x→Q (movP k 0 65536 n1 x)) :
  YV (l1,l2,(k:Int),n1)=some (sortT ((l1.map (movP k 0 65536 0)++l2.map (movP k 0 65536 n1)).filter fullP))∧Inv Q s (sortT ((l1.map (movP k 0 65536 0)++l2.map (movP k 0 65536 n1)).filter fullP)):=by
 obtain ⟨c1,c2,c3⟩:=checkR_ok hc
 have hll1:=h1.len4 hc1 hP1
 have hll2:=h2.len4 hc2 hP2
 have hkl:k < s.length:=lt_at hk
 have hk1:(s.set k n1)[k]? = some n1:=by simp [hkl]
 have hk2:(s.set k n2)[k]? = some n2:=by simp [hkl]
 have b1:=(checkR_ok hc1).2.2 n1 (List.mem_of_getElem? hk1)
 have b2:=(checkR_ok hc2).2.2 n2 (List.mem_of_getElem? hk2)
 have b3:=c3 _ (List.mem_of_getElem? hk)
 obtain ⟨g',e1⟩:=Cat_L1 hk2 b2.2 b1.1 b1.2 (by simp; omega) l1 l2 [] 1 l1 (by simpa using by omega) (by simpa using by omega) (fun x hx=>⟨h2.wk x hx,h2.acc x hx⟩)
 have e1':Q6 (l2,(k:Int),n1,l1,1,l1,0)=some (g',l1++l2.map (movP k 0 65536 n1)):=e1
 have e2:=Cat_L2 hk1 b1.2 (by simp; omega) l1 (l1++l2.map (movP k 0 65536 n1)) g' (l2.map (movP k 0 65536 n1)) (by simp) (by omega) l1 [] (by simp) (fun x hx=>⟨h1.wk x hx,h1.acc x hx⟩)
 have e2':Q7 (l1,(k:Int),l1++l2.map (movP k 0 65536 n1),g',l1++l2.map (movP k 0 65536 n1),0)=some (l1.map (movP k 0 65536 0)++l2.map (movP k 0 65536 n1)):=e2
 have ec:ZJ l1=some l1:=app_le (by simp; omega) (by omega)
 have hset:∀ m:Int,(s.set k n1).set k m=s.set k m:=fun m=>by simp
 have hset2:∀ m:Int,(s.set k n2).set k m=s.set k m:=fun m=>by simp
 have hp:Pre Q s (l1.map (movP k 0 65536 0)++l2.map (movP k 0 65536 n1)):=by
  refine ⟨fun y hy=>?_,fun y hy=>?_,fun y hy _=>?_,fun i hi=>?_⟩
  ·rcases List.mem_append.1 hy with hy|hy
   ·obtain ⟨x,hx,rfl⟩:=List.mem_map.1 hy
    have:=mov_wk (m:=n1+n2) (t:=65536) (f:=0) (d:=0) (h1.wk x hx) hk1 (Int.le_refl 0) (by decide) (by decide) (.inr ⟨b1.1,by omega⟩)
    rw [hset,set_same hk] at this
    exact wk_qk this
   ·obtain ⟨x,hx,rfl⟩:=List.mem_map.1 hy
    have:=mov_wk (m:=n1+n2) (t:=65536) (f:=0) (d:=n1) (h2.wk x hx) hk2 (Int.le_refl 0) (by decide) (by omega) (.inr ⟨b2.1,by omega⟩)
    rw [hset2,set_same hk] at this
    exact wk_qk this
  ·rcases List.mem_append.1 hy with hy|hy
   ·obtain ⟨x,hx,rfl⟩:=List.mem_map.1 hy
    have:=h1.acc x hx
    rw [List.length_set] at this
    exact shf_wf this
   ·obtain ⟨x,hx,rfl⟩:=List.mem_map.1 hy
    have:=h2.acc x hx
    rw [List.length_set] at this
    exact shf_wf this
  ·rcases List.mem_append.1 hy with hy|hy
   ·obtain ⟨x,hx,rfl⟩:=List.mem_map.1 hy
    have:=h1.acc x hx
    rw [List.length_set] at this
    exact hQ1 x hx (h1.box x hx) this (h1.prp x hx)
   ·obtain ⟨x,hx,rfl⟩:=List.mem_map.1 hy
    have:=h2.acc x hx
    rw [List.length_set] at this
    exact hQ2 x hx (h2.box x hx) this (h2.prp x hx)
  ·obtain ⟨y,ey,y0,y1⟩:=vld_at hi hk
   have hl:=vld_len hi
   rw [List.countP_append]
   have f1:(l1.map (movP k 0 65536 0)).countP (hasP i)=l1.countP (hasP i):=cnt_map fun x hx=>by
    rw [mov_has (h1.wk x hx) hk1 (by decide) ey (by simpa using hl),Int.sub_zero,set_same ey,decide_eq_true (show 0≤y∧y < 65536 by omega),Bool.true_and]
   rw [f1]
   by_cases c:y < n1
   ·have v1:=vld_set (k:=k) (n:=n1) (y:=y) hi y0 c
    rw [set_same ey] at v1
    rw [h1.cnt i v1]
    have:(l2.map (movP k 0 65536 n1)).countP (hasP i)=0:=by
     rw [List.countP_eq_zero]
     intro z hz
     obtain ⟨x,hx,rfl⟩:=List.mem_map.1 hz
     rw [mov_has (h2.wk x hx) hk2 (by decide) ey (by simpa using hl),decide_eq_false (show ¬ (0≤y - n1∧y - n1 < 65536) by omega),Bool.false_and]
     simp
    rw [this]
   ·have f0:l1.countP (hasP i)=0:=by
     rw [List.countP_eq_zero]
     intro x hx hh
     have:=inB_vld (h1.wk x hx) hh
     obtain ⟨z,ez,z0,z1⟩:=vld_at this hk1
     rw [ey] at ez
     simp only [Option.some.injEq] at ez
     omega
    have v2:=vld_set (k:=k) (n:=n2) (y:=y - n1) hi (by omega) (by omega)
    have f2:(l2.map (movP k 0 65536 n1)).countP (hasP i)=l2.countP (hasP (i.set k (y - n1))):=cnt_map fun x hx=>by
     rw [mov_has (h2.wk x hx) hk2 (by decide) ey (by simpa using hl),decide_eq_true (show 0≤y - n1∧y - n1 < 65536 by omega),Bool.true_and]
    rw [f0,f2,h2.cnt _ v2]
 obtain ⟨q1,q2⟩:=hp.listed hc (by simp; omega)
 refine ⟨?_,q2⟩
 unfold YV
 simp only [ec,Qe,e1',e2']
 rw [guardM_ok (by simp),Qe,guardM_ok (by simp),Qe,q1]
 rfl
end
end Go.Proofs.Tryz
